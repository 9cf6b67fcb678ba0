/- Walk: may specials be, by the document? (Printed by gSpR.py.) -/
import Derived.Test.YtahiballegpbgaaGreatDoorR5
import Derived.Test.YtahiballegpbgaaGreatDoorR1
import Derived.RegionTactic
import Derived.Deep.DeepCutAuto
import Derived.Laws.ResultCell
set_option linter.unusedVariables false
set_option maxHeartbeats 4000000
set_option maxRecDepth 100000
namespace Go.Proofs.YtahiballegpbgaaGreatDoor
open Go.RowKit
theorem iG {s:ByteArray} (hs:s.size<=maxLen) (h:aC s) (w:World):Calls Tryz.prog 140 #[.string s] w fun e w'=>e= .returned (.bool true)/\w=w':=
 (sG s hs w).mono fun e w' ⟨⟨b,h1,h2⟩,h3⟩=>⟨by rw[h1,h2.2 h],h3⟩
theorem X5 {s:ByteArray} (hs:s.size<=maxLen) (h:¬aC s) (w:World):Calls Tryz.prog 140 #[.string s] w fun e w'=>e= .returned (.bool false)/\w=w':=
 (sG s hs w).mono fun e w' ⟨⟨b,h1,h2⟩,h3⟩=>⟨by cases b with | false=>exact h1 | true=>exact absurd (h2.1 rfl) h,h3⟩
structure tJ (T:List ByteArray) (S:List Sp) (k:Nat):Prop where
 ok:∀j,j<k->eU T (sp S j)
 pair:∀i j,i<j->j<k->vA (sp S i).name (sp S j).name=true/\(sp S i).id≠(sp S j).id
theorem tJ.zero (T:List ByteArray) (S:List Sp):tJ T S 0:=⟨fun j h=>by omega,fun i j _ h=>by omega⟩
def aAk (S:List Sp) (k q:Nat):Prop:=∀i,i<q->vA (sp S i).name (sp S k).name=true/\(sp S i).id≠(sp S k).id
theorem aAk.zero (S:List Sp) (k:Nat):aAk S k 0:=fun i h=>by omega
theorem aAk.next {S:List Sp} {k q:Nat} (h:aAk S k q) (h1:vA (sp S q).name (sp S k).name=true) (h2:(sp S q).id≠(sp S k).id):aAk S k (q+1):=fun i hi=>by
 by_cases e:i=q
 ·subst e;exact⟨h1,h2⟩
 ·exact h i (by omega)
theorem tJ.next {T:List ByteArray} {S:List Sp} {k q:Nat} (h:tJ T S k) (h1:eU T (sp S k)) (h2:aAk S k q) (hq:q<=k) (hq2:¬q<k):tJ T S (k+1):=by
 obtain rfl:q=k:=by omega
 refine⟨fun j hj=> ?_,fun i j hi hj=> ?_⟩
 ·by_cases e:j=q
  ·subst e;exact h1
  ·exact h.ok j (by omega)
 ·by_cases e:j=q
  ·subst e;exact h2 i hi
  ·exact h.pair i j hi (by omega)
theorem tJ.all {T:List ByteArray} {S:List Sp} {k n:Nat} (h:tJ T S k) (hl:S.length=n) (hk:k<=n) (hk2:¬k<n) (hn:n<=16):cF T S:=by
 obtain rfl:k=n:=by omega
 refine⟨by omega,fun m hm=> ?_,?_⟩
 ·obtain⟨i,hi,rfl⟩:=List.getElem_of_mem hm;rw[D7 hi];exact h.ok i (by omega)
 ·rw[List.pairwise_iff_getElem];intro i j hi hj hij;rw[D7 hi,D7 hj];exact h.pair i j hij (by omega)
theorem oM {V:Vc} {dd:Vd} (w:World) (hV:xE w dd V) (hsz:lO V.specials):
  Calls Tryz.prog 139 #[dd.val] w (nV V.tokens V.specials w):=by
 obtain⟨T,M,S⟩:=V;obtain⟨ta,tn,tc,ma,mn,mc,sa,sn,sc⟩:=dd;obtain⟨hT,hM,hS⟩:=hV;simp only at hT hM hS hsz |-;have hm:=Nat.le_trans (Sl.le hT) (Sl.max hT);have hmm:=Nat.le_trans hS.le hS.max;unfold maxLen at hm hmm;have hlen:=hW_ hT.count;have hlenS:=hW_ (hS.count Sp.enc_len (by omega));obtain⟨w0,hw0⟩:∃w0,w.alloc (.cells #[.slice ta tn tc, .slice ma mn mc, .slice sa sn sc] 26)=w0:=⟨_,rfl⟩;have hb0:Below w.heap.size w w0:=hw0▸aA w _;have hx0:w0.heap[w.heap.size]?=some (.cells #[.slice ta tn tc, .slice ma mn mc, .slice sa sn sc] 26):=by rw[<-hw0];exact heap_alloc_new w _
 have hs0:w.heap.size<w0.heap.size:=by rw[<-hw0];simp
 obtain⟨c0,c1,c2⟩:=A4 hx0;have HT:=hW_ (Sl.below hT hb0);have HSS:=hW_ (hS.below hb0);have HX0:=hW_ hx0;have HB0:=hW_ hb0;have HSZ:=hW_ hsz;have HW0:=hW_ hw0;clear hT hM hS hsz hb0 hx0 hw0
 by_cases hl:(16:Int)<sn
 ·have HF:=hW_ (L4 (T:=T) (S:=S) (by have:=hlenS.out;omega));go_enter Tryz.func139,Tryz.ntmps139;go_wp2_with (fail);go_ret;exact⟨⟨_,rfl,HF.out⟩,by rw[HW0.out];exact HB0.out⟩
 ·go_enter Tryz.func139,Tryz.ntmps139;go_wp2_with (fail);rw[HW0.out];go_loopw [3,4,5,13] (fun _ _ _ i wr=>∃(k:Nat),k<=sn/\i= .int .i64 k/\Hid (tJ T S k)/\Below w0.heap.size w0 wr) (fun _ _ _ i _=>sn-(intOf i).toNat)
  case atStart=>exact⟨0,Nat.zero_le _,rfl,hW_ (tJ.zero T S),Below.refl _ _⟩
  case round=>
   obtain⟨k,hk,rfl,HG,hb⟩:=hrel;have HB:=hW_ hb;clear c0 c1 c2;obtain⟨c0,c1,c2⟩:=A4 ((hb.block w.heap.size hs0).trans HX0.out);have hlt0:w.heap.size<wr.heap.size:=Nat.lt_of_lt_of_le hs0 hb.size;clear hb
   by_cases hlt:k<sn
   ·have hkS:k<S.length:=by have:=hlenS.out;omega
    obtain⟨b,of,rfl,hce⟩:=(HSS.out.below HB.out).elem Sp.enc_len (by omega) (mD hkS);have HNS0:=hW_ (HSZ.out _ (List.mem_of_getElem? (mD hkS)));obtain⟨⟨nm,id⟩,hseq⟩:∃m,sp S k=m:=⟨_,rfl⟩;have HNS:Hid (nm.size<=maxLen):=hW_ (by have:=HNS0.out;rw[hseq]at this;exact this);rw[hseq]at hce;have d0:=hce 0 _ rfl;have d1:=hce 1 _ rfl;rw[Nat.add_zero]at d0;simp only at d0 d1;have HSK:=hW_ hseq;obtain⟨w1,hw1⟩:∃w1,wr.alloc (.cells #[.string nm, .int .i64 id] 117)=w1:=⟨_,rfl⟩;have hwb:Below wr.heap.size wr w1:=hw1▸aA wr _;have hwb':=aA wr (.cells #[.string nm, .int .i64 id] 117);have HB1:=hW_ (HB.out.trans (hwb.mono HB.out.size));have HT1:=hW_ (Sl.below HT.out HB1.out);have hbx:w1.heap[wr.heap.size]?=some (.cells #[.string nm, .int .i64 id] 117):=by rw[<-hw1];exact heap_alloc_new wr _
    obtain⟨b0,b1⟩:=zH hbx;have f0:=eA hwb _ _ c0;have f2:=eA hwb _ _ c2;have HW1:=hW_ hw1;rw[hw1]at hwb';clear hce hseq hbx hw1 hwb'
    by_cases hnm:aC nm
    ·have HNM:=hW_ hnm;clear hnm
     by_cases hi0:id<0
     ·have hg:decide (id<0)=true:=by simpa using hi0
      have HF:=hW_ (B0 (T:=T) hkS (fun h=>by rw[HSK.out]at h;have:=h.2.1;simp only at this;omega));go_wp2_with (fail);refine(iG HNS.out HNM.out _).mono ?_
      rintro e w' ⟨rfl,rfl⟩;rw[HW1.out];go_wp2_with (fail);go_ret;exact⟨⟨_,rfl,HF.out⟩,HB0.out.trans (HB1.out.mono HB0.out.size)⟩
     have hg0:decide (id<0)=false:=by simpa using hi0
     by_cases hi1:(tn:Int)<=id
     ·have hg:decide ((tn:Int)<=id)=true:=by simpa using hi1
      have HF:=hW_ (B0 (T:=T) hkS (fun h=>by rw[HSK.out]at h;have:=h.2.2.1;have:=hlen.out;simp only at *;omega));go_wp2_with (fail);refine(iG HNS.out HNM.out _).mono ?_
      rintro e w' ⟨rfl,rfl⟩;rw[HW1.out];go_wp2_with (fail);go_ret;exact⟨⟨_,rfl,HF.out⟩,HB0.out.trans (HB1.out.mono HB0.out.size)⟩
     have hg1:decide ((tn:Int)<=id)=false:=by simpa using hi1
     obtain⟨q,rfl⟩:=Int.eq_ofNat_of_zero_le (Int.not_lt.1 hi0);have hqT:q<T.length:=by have:=hlen.out;omega
     obtain⟨bt,ot,hao,hct⟩:=SlS.cell HT1.out (sB hqT);subst hao;have gq:(q:Int)<(tn:Int):=by omega
     have gq2:decide ((tn:Int)<=(q:Int))=false:=by simp;omega
     have gq3:decide ((q:Int)<0)=false:=by simp
     have gq4:decide (tn<=q)=false:=by simp;omega
     clear hg0 hg1
     by_cases hz:(tk T q).size=0
     ·obtain⟨e1,e2,e3⟩:=lD hz;have e4:((tk T q).toList != [])=false:=by simp[e1]
      have HZ:=hW_ hz;clear hz;have HOK:Hid (eU T (sp S k)):=hW_ (by rw[HSK.out];exact⟨HNM.out,by simp only;omega,by simp only;omega,HZ.out⟩);go_wp2_with (fail);refine(iG HNS.out HNM.out _).mono ?_
      rintro e w' ⟨rfl,rfl⟩;rw[HW1.out];go_wp2_with (fail);obtain⟨wo,rfl⟩:∃wo:World,wo=wr:=⟨_,rfl⟩;clear e1 e2 e3 e4 hct;go_loopw [5] (fun i wq=>∃(p j:Nat),p<=k/\i= .int .i64 p/\Hid (aAk S k p)/\wq=w1.drewN j) (fun i _=>k-(intOf i).toNat)
      case atStart=>exact⟨0,0,Nat.zero_le _,rfl,hW_ (aAk.zero S k),rfl⟩
      case round=>
       obtain⟨p,j,hp,rfl,HP,rfl⟩:=hrel
       by_cases hlp:p<k
       ·obtain⟨⟨pn,pid⟩,hpeq⟩:∃m,sp S p=m:=⟨_,rfl⟩;obtain⟨bp,op,hao,hcp⟩:=(HSS.out.below HB1.out).elem Sp.enc_len (by omega) (mD (S:=S) (i:=p) (by omega));simp at hao;obtain⟨rfl,rfl⟩:=hao;rw[hpeq]at hcp;have p0:=hcp 0 _ rfl;have p1:=hcp 1 _ rfl;rw[Nat.add_zero]at p0;simp only at p0 p1;have HPEQ:=hW_ hpeq;have gp:(p:Int)<(sn:Int):=by omega
        clear hcp hpeq
        cases hbl:Op.bytesLess pn.toList nm.toList with
        | false=>
         have HF:=hW_ (L1 (T:=T) hlp hkS (by rw[HPEQ.out,HSK.out];exact hbl));go_wp2_with (fail);go_quiet (fail);go_wp2_with (fail);go_ret;exact⟨⟨_,rfl,HF.out⟩,HB0.out.trans ((bA (bA HB1.out _) _).mono HB0.out.size)⟩
        | true=>
         by_cases hid:pid=(q:Int)
         ·have q1:(pid==(q:Int))=true:=by simpa using hid
          have HF:=hW_ (kK (T:=T) hlp hkS (by rw[HPEQ.out,HSK.out];exact hid));clear hid;go_wp2_with (fail);go_quiet (fail);go_wp2_with (fail);go_ret;exact⟨⟨_,rfl,HF.out⟩,HB0.out.trans ((bA (bA HB1.out _) _).mono HB0.out.size)⟩
         ·have q1:(pid==(q:Int))=false:=by simpa using hid
          have HPn:=hW_ (HP.out.next (by rw[HPEQ.out,HSK.out];exact hbl) (by rw[HPEQ.out,HSK.out];exact hid));clear hid;go_wp2_with (fail);go_quiet (fail);go_wp2_with (fail);go_roundw
          case rel=>exact⟨p+1,_,by omega,by go_num,HPn,rfl⟩
          case measure=>simp[intOf];omega
       ·have HGn:=hW_ (HG.out.next HOK.out HP.out hp hlp);have HBn:=hW_ (bA HB1.out j);go_wp2_with (fail);go_roundw
        case rel=>exact⟨k+1,by omega,by go_num,HGn,HBn.out⟩
        case measure=>simp[intOf];omega
     ·obtain⟨e1,e2,e3⟩:=E2 hz;have e4:((tk T q).toList != [])=true:=by simp[e1]
      have HF:=hW_ (B0 (T:=T) hkS (fun h=>by rw[HSK.out]at h;exact hz h.2.2.2));clear hz;go_wp2_with (fail);refine(iG HNS.out HNM.out _).mono ?_
      rintro e w' ⟨rfl,rfl⟩;rw[HW1.out];go_wp2_with (fail);go_ret;exact⟨⟨_,rfl,HF.out⟩,HB0.out.trans (HB1.out.mono HB0.out.size)⟩
    ·have HNM:=hW_ hnm;have HF:=hW_ (B0 (T:=T) hkS (fun h=>by rw[HSK.out]at h;exact hnm h.1));clear hnm;go_wp2_with (fail);refine(X5 HNS.out HNM.out _).mono ?_
     rintro e w' ⟨rfl,rfl⟩;rw[HW1.out];go_wp2_with (fail);go_ret;exact⟨⟨_,rfl,HF.out⟩,HB0.out.trans (HB1.out.mono HB0.out.size)⟩
   ·have HF:=hW_ (HG.out.all hlenS.out hk hlt (by omega));go_wp2_with (fail);go_ret;exact⟨⟨_,rfl,(fun _=>HF.out),(fun _=>rfl)⟩,HB0.out.trans (HB.out.mono HB0.out.size)⟩
def VOk (V:Vc):Prop:=(∀s∈V.tokens,s.size<=maxLen)/\lO V.specials/\V.specials.length<=1048576
def aCL (V:Vc) (w:World) (e:Ending) (w':World):Prop:=(∃b,e= .returned (.bool b)/\(b=true↔May V))/\Below w.heap.size w w'
theorem aCj {V:Vc} (h:¬sD V.tokens):(false=true↔May V):=⟨(fun h=>by cases h),fun h2=>absurd h2.1 h⟩
theorem aCi {V:Vc} (h:¬D6 V.tokens V.merges):(false=true↔May V):=⟨(fun h=>by cases h),fun h2=>absurd h2.2.1 h⟩
theorem aCh {V:Vc} (h:¬rJ V.tokens V.merges):(false=true↔May V):=⟨(fun h=>by cases h),fun h2=>absurd h2.2.2.1 h⟩
theorem may4 {V:Vc} {b:Bool} (h1:sD V.tokens) (h2:D6 V.tokens V.merges) (h3:rJ V.tokens V.merges) (h:b=true↔cF V.tokens V.specials):(b=true↔May V):=by
 rw[h];exact⟨fun h4=>⟨h1,h2,h3,h4⟩,fun h4=>h4.2.2.2⟩
theorem vJ {b:Bool} {P:Prop} (h:b=true↔P) (hb:b=false):¬P:=fun hp=>by rw[h.2 hp]at hb;cases hb
theorem aDy {V:Vc} {dd:Vd} (w:World) (hV:xE w dd V) (hok:VOk V):
  Calls Tryz.prog 145 #[dd.val] w (aCL V w):=by
 have hspn:=hV.spc.count Sp.enc_len (by omega);obtain⟨ta,tn,tc,ma,mn,mc,sa,sn,sc⟩:=dd;simp only at hspn |-;obtain⟨w0,hw0⟩:∃w0,w.alloc (.cells #[.slice ta tn tc, .slice ma mn mc, .slice sa sn sc] 26)=w0:=⟨_,rfl⟩;have hb0:Below w.heap.size w w0:=hw0▸aA w _;have hx0:w0.heap[w.heap.size]?=some (.cells #[.slice ta tn tc, .slice ma mn mc, .slice sa sn sc] 26):=by rw[<-hw0];exact heap_alloc_new w _
 have hs0:w.heap.size<w0.heap.size:=by rw[<-hw0];simp
 obtain⟨c0,c1,c2⟩:=A4 hx0;have HV:=hW_ (hV.below hb0);have HX0:=hW_ hx0;have HB0:=hW_ hb0;have HOK:=hW_ hok;have HW0:=hW_ hw0;have HSN:=hW_ hspn;clear hV hok hb0 hx0 hw0 hspn;go_enter Tryz.func145,Tryz.ntmps145;go_wp2_with (fail);rw[HW0.out];refine(rQ w0 HV.out.tok HOK.out.1).mono ?_
 rintro e w1 ⟨⟨b1,rfl,hi1⟩,hb1⟩;have HB1:=hW_ hb1;have HI1:=hW_ hi1;clear c0 c1 c2;obtain⟨c0,c1,c2⟩:=A4 ((hb1.block w.heap.size hs0).trans HX0.out);clear hb1 hi1
 cases b1 with
 | false=>
  have HF:=hW_ (aCj (vJ HI1.out rfl));go_wp2_with (fail);go_ret;exact⟨⟨_,rfl,HF.out⟩,HB0.out.trans (HB1.out.mono HB0.out.size)⟩
 | true=>
  have HT:=hW_ (HI1.out.1 rfl);go_wp2_with (fail);refine(sQ w1 (HV.out.below HB1.out).tok (HV.out.below HB1.out).mrg HT.out).mono ?_
  rintro e w2 ⟨⟨b2,rfl,hi2⟩,hb2⟩;have HB2:=hW_ (HB1.out.trans (hb2.mono HB1.out.size));have HI2:=hW_ hi2;clear c0 c1 c2;obtain⟨c0,c1,c2⟩:=A4 ((HB2.out.block w.heap.size hs0).trans HX0.out);clear hb2 hi2
  cases b2 with
  | false=>
   have HF:=hW_ (aCi (vJ HI2.out rfl));go_wp2_with (fail);go_ret;exact⟨⟨_,rfl,HF.out⟩,HB0.out.trans (HB2.out.mono HB0.out.size)⟩
  | true=>
   have HM:=hW_ (HI2.out.1 rfl);go_wp2_with (fail);refine(vT (V:=V) (dd:=⟨ta,tn,tc,ma,mn,mc,sa,sn,sc⟩) w2 (HV.out.below HB2.out) HT.out HM.out).mono ?_
   rintro e w3 ⟨⟨b3,rfl,hi3⟩,hb3⟩;have HB3:=hW_ (HB2.out.trans (hb3.mono HB2.out.size));have HI3:=hW_ hi3;clear c0 c1 c2;obtain⟨c0,c1,c2⟩:=A4 ((HB3.out.block w.heap.size hs0).trans HX0.out);clear hb3 hi3
   cases b3 with
   | false=>
    have HF:=hW_ (aCh (vJ HI3.out rfl));go_wp2_with (fail);go_ret;exact⟨⟨_,rfl,HF.out⟩,HB0.out.trans (HB3.out.mono HB0.out.size)⟩
   | true=>
    have HD:=hW_ (HI3.out.1 rfl);go_wp2_with (fail);refine(wN w3 (HV.out.below HB3.out).tok (HV.out.below HB3.out).spc HOK.out.2.1 (by have h1:=HOK.out.2.2;have h2:V.specials.length=sn:=HSN.out;show sn<=1048576;omega)).mono ?_
    rintro e w4 ⟨⟨b4,rfl,hi4⟩,hb4⟩;have HB4:=hW_ (HB3.out.trans (hb4.mono HB3.out.size));have HF:=hW_ (may4 HT.out HM.out HD.out hi4);clear hb4 hi4;go_wp2_with (fail);go_ret;exact⟨⟨_,rfl,HF.out⟩,HB0.out.trans (HB4.out.mono HB0.out.size)⟩
theorem uR {V:Vc} {dd:Vd} (w:World) (hV:xE w dd V) (hok:VOk V):
  Calls Tryz.prog 99 #[dd.val] w (aCL V w):=by
 have hspn:=hV.spc.count Sp.enc_len (by omega);obtain⟨ta,tn,tc,ma,mn,mc,sa,sn,sc⟩:=dd;simp only at hspn |-;obtain⟨w0,hw0⟩:∃w0,w.alloc (.cells #[.slice ta tn tc, .slice ma mn mc, .slice sa sn sc] 26)=w0:=⟨_,rfl⟩;have hb0:Below w.heap.size w w0:=hw0▸aA w _;have hx0:w0.heap[w.heap.size]?=some (.cells #[.slice ta tn tc, .slice ma mn mc, .slice sa sn sc] 26):=by rw[<-hw0];exact heap_alloc_new w _
 have hs0:w.heap.size<w0.heap.size:=by rw[<-hw0];simp
 obtain⟨c0,c1,c2⟩:=A4 hx0;have HV:=hW_ (hV.below hb0);have HX0:=hW_ hx0;have HB0:=hW_ hb0;have HOK:=hW_ hok;have HW0:=hW_ hw0;have HSN:=hW_ hspn;clear hV hok hb0 hx0 hw0 hspn;go_enter Tryz.func99,Tryz.ntmps99;go_wp2_with (fail);rw[HW0.out];refine(zI w0 HV.out.tok HOK.out.1).mono ?_
 rintro e w1 ⟨⟨b1,rfl,hi1⟩,hb1⟩;have HB1:=hW_ hb1;have HI1:=hW_ hi1;clear c0 c1 c2;obtain⟨c0,c1,c2⟩:=A4 ((hb1.block w.heap.size hs0).trans HX0.out);clear hb1 hi1
 cases b1 with
 | false=>
  have HF:=hW_ (aCj (vJ HI1.out rfl));go_wp2_with (fail);go_ret;exact⟨⟨_,rfl,HF.out⟩,HB0.out.trans (HB1.out.mono HB0.out.size)⟩
 | true=>
  have HT:=hW_ (HI1.out.1 rfl);go_wp2_with (fail);refine(O2 (V:=V) (dd:=⟨ta,tn,tc,ma,mn,mc,sa,sn,sc⟩) w1 (HV.out.below HB1.out) HT.out).mono ?_
  rintro e w2 ⟨⟨b2,rfl,hi2⟩,hb2⟩;have HB2:=hW_ (HB1.out.trans (hb2.mono HB1.out.size));have HI2:=hW_ hi2;clear c0 c1 c2;obtain⟨c0,c1,c2⟩:=A4 ((HB2.out.block w.heap.size hs0).trans HX0.out);clear hb2 hi2
  cases b2 with
  | false=>
   have HF:=hW_ (aCi (vJ HI2.out rfl));go_wp2_with (fail);go_ret;exact⟨⟨_,rfl,HF.out⟩,HB0.out.trans (HB2.out.mono HB0.out.size)⟩
  | true=>
   have HM:=hW_ (HI2.out.1 rfl);go_wp2_with (fail);refine(vR (V:=V) (dd:=⟨ta,tn,tc,ma,mn,mc,sa,sn,sc⟩) w2 (HV.out.below HB2.out) HT.out).mono ?_
   rintro e w3 ⟨⟨b3,rfl,hi3⟩,hb3⟩;have HB3:=hW_ (HB2.out.trans (hb3.mono HB2.out.size));have HI3:=hW_ hi3;clear c0 c1 c2;obtain⟨c0,c1,c2⟩:=A4 ((HB3.out.block w.heap.size hs0).trans HX0.out);clear hb3 hi3
   cases b3 with
   | false=>
    have HF:=hW_ (aCh (vJ HI3.out rfl));go_wp2_with (fail);go_ret;exact⟨⟨_,rfl,HF.out⟩,HB0.out.trans (HB3.out.mono HB0.out.size)⟩
   | true=>
    have HD:=hW_ (HI3.out.1 rfl);go_wp2_with (fail);refine(oM (V:=V) (dd:=⟨ta,tn,tc,ma,mn,mc,sa,sn,sc⟩) w3 (HV.out.below HB3.out) HOK.out.2.1).mono ?_
    rintro e w4 ⟨⟨b4,rfl,hi4⟩,hb4⟩;have HB4:=hW_ (HB3.out.trans (hb4.mono HB3.out.size));have HF:=hW_ (may4 HT.out HM.out HD.out hi4);clear hb4 hi4;go_wp2_with (fail);go_ret;exact⟨⟨_,rfl,HF.out⟩,HB0.out.trans (HB4.out.mono HB0.out.size)⟩
def Rw.enc (r:Rw):List Value:=[.string r.token, .int .i64 r.rank]
theorem Rw.enc_len (r:Rw):r.enc.length=2:=rfl
def rw' (R:List Rw) (i:Nat):Rw:=R.getD i ⟨ByteArray.empty,0⟩
theorem xU {R:List Rw} {i:Nat} (h:i<R.length):R[i]?=some (rw' R i):=by simp[rw',List.getD,h]
theorem xO {R:List Rw} {i:Nat} (h:i<R.length):R[i]=rw' R i:=by simp[rw',List.getD,h]
def oX (S:List Sp) (k:Nat):Int:=((S.take k).map (·.id+1)).foldl max 0
def kT (R:List Rw) (S:List Sp) (k:Nat):Int:=((R.take k).map (·.rank+1)).foldl max (oX S S.length)
theorem aCV {S:List Sp} {k:Nat} (h:k<S.length):oX S (k+1)=max (oX S k) ((sp S k).id+1):=by
 unfold oX;rw[List.take_add_one,mD h];simp[List.foldl_append]
theorem aCW (R:List Rw) (S:List Sp):kT R S 0=oX S S.length:=rfl
theorem lU {R:List Rw} {S:List Sp} {k:Nat} (h:k<R.length):kT R S (k+1)=max (kT R S k) ((rw' R k).rank+1):=by
 unfold kT;rw[List.take_add_one,xU h];simp[List.foldl_append]
theorem pX (R:List Rw) (S:List Sp):kT R S R.length=top R S:=by
 unfold kT oX top;rw[List.take_length,List.take_length]
def OkS (S:List Sp) (k:Nat):Prop:=∀j,j<k->0<=(sp S j).id/\(sp S j).id<4096
def OkR (R:List Rw) (k:Nat):Prop:=∀j,j<k->0<=(rw' R j).rank/\(rw' R j).rank<4096
def ApR (R:List Rw) (k:Nat):Prop:=∀i j,i<j->j<k->(rw' R i).rank≠(rw' R j).rank
theorem topR_lt {R:List Rw} {S:List Sp} {k j:Nat} (hk:k<=R.length) (hj:j<k):(rw' R j).rank<kT R S k:=by
 induction k with
 | zero=>omega
 | succ k ih=>
  rw[lU (by omega)]
  by_cases e:j=k
  ·subst e;omega
  ·have:=ih (by omega) (by omega);omega
theorem bG.of {R:List Rw} {S:List Sp} (h1:OkS S S.length) (h2:OkR R R.length) (h3:ApR R R.length):bG R S:=by
 refine⟨fun s hs=> ?_,fun r hr=> ?_,?_⟩
 ·obtain⟨j,hj,rfl⟩:=List.getElem_of_mem hs;rw[D7 hj];exact h1 j hj
 ·obtain⟨j,hj,rfl⟩:=List.getElem_of_mem hr;rw[xO hj];exact h2 j hj
 ·rw[List.pairwise_iff_getElem];intro i j hi hj hij;rw[xO hi,xO hj];exact h3 i j hij hj
theorem aCf {R:List Rw} {S:List Sp} {k:Nat} (hk:k<S.length) (h:¬(0<=(sp S k).id/\(sp S k).id<4096)):¬bG R S:=fun ho=>h (by
 have:=ho.1 _ (List.mem_of_getElem? (mD hk));exact this)
theorem aCg {R:List Rw} {S:List Sp} {k:Nat} (hk:k<R.length) (h:¬(0<=(rw' R k).rank/\(rw' R k).rank<4096)):¬bG R S:=fun ho=>h (by
 have:=ho.2.1 _ (List.mem_of_getElem? (xU hk));exact this)
theorem notOk_a {R:List Rw} {S:List Sp} {i k:Nat} (hi:i<k) (hk:k<R.length) (h:(rw' R i).rank=(rw' R k).rank):¬bG R S:=fun ho=>by
 have:=(List.pairwise_iff_getElem.1 ho.2.2) i k (by omega) hk hi;rw[xO hk,xO (by omega)]at this;exact this h
structure I6 (R:List Rw) (k n:Nat) (L:List ByteArray) (A:List Int):Prop where
 len:L.length=n
 alen:A.length=n
 tok:∀i,i<n->tk L i=uJ (R.take k) i
 hit:∀i,i<n->(ix A i=0/\∀j,j<k->(rw' R j).rank≠(i:Int))\/(ix A i=1/\∃j,j<k/\(rw' R j).rank=(i:Int))
theorem aAr {R:List Rw} {i:Nat} (h:∀r∈R,r.rank≠(i:Int)):uJ R i=ByteArray.empty:=by
 unfold uJ;have:R.find? (fun r=>decide (r.rank=(i:Int)))=none:=by
  rw[List.find?_eq_none];intro r hr;simpa using h r hr
 rw[this]
theorem iM {R:List Rw} {i:Nat} (h:∀r∈R,r.rank≠(i:Int)) (r:Rw):uJ (R++ [r]) i=if r.rank=(i:Int)then r.token else ByteArray.empty:=by
 unfold uJ;have:R.find? (fun r=>decide (r.rank=(i:Int)))=none:=by
  rw[List.find?_eq_none];intro r hr;simpa using h r hr
 rw[List.find?_append,this]
 by_cases e:r.rank=(i:Int)
 ·simp[List.find?,e]
 ·simp[List.find?,e]
theorem lF {R:List Rw} {i:Nat} {r:Rw} (h:r.rank≠(i:Int)):uJ (R++ [r]) i=uJ R i:=by
 unfold uJ;rw[List.find?_append]
 cases R.find? (fun r=>decide (r.rank=(i:Int)))with
 | some x=>simp
 | none=>simp[List.find?,h]
theorem yY {R:List Rw} {k:Nat} {r:Rw} (h:r∈R.take k):∃j,j<k/\j<R.length/\rw' R j=r:=by
 obtain⟨j,hj,rfl⟩:=List.getElem_of_mem h;have h1:j<k:=by rw[List.length_take]at hj;omega
 have h2:j<R.length:=by rw[List.length_take]at hj;omega
 refine⟨j,h1,h2,?_⟩;rw[List.getElem_take,xO h2]
theorem I6.zero (R:List Rw) (n:Nat):I6 R 0 n (List.replicate n ByteArray.empty) (List.replicate n 0):=by
 refine⟨by simp,by simp,fun i hi=> ?_,fun i hi=> .inl ⟨by simp[ix,List.getD,hi],fun j hj=>by omega⟩⟩;have:uJ (R.take 0) i=ByteArray.empty:=aAr (by simp);rw[this];simp[tk,List.getD,hi]
theorem I6.next {R:List Rw} {k n:Nat} {L:List ByteArray} {A:List Int} (h:I6 R k n L A) (hk:k<R.length) {r:Nat} (hr:(rw' R k).rank=(r:Int)) (hrn:r<n) (h0:ix A r=0):
  I6 R (k+1) n (L.set r (rw' R k).token) (A.set r 1):=by
 have hno:∀j,j<k->(rw' R j).rank≠(r:Int):=by
  rcases h.hit r hrn with⟨_,h2⟩ | ⟨h1,_⟩
  ·exact h2
  ·omega
 have htk:R.take (k+1)=R.take k++ [rw' R k]:=by rw[List.take_add_one,xU hk];rfl
 refine⟨by rw[List.length_set];exact h.len,by rw[List.length_set];exact h.alen,fun i hi=> ?_,fun i hi=> ?_⟩
 ·rw[htk]
  by_cases e:i=r
  ·subst e;rw[iM (fun x hx=>by obtain⟨j,hj,_,rfl⟩:=yY hx;exact hno j hj),if_pos hr];simp[tk,List.getD,h.len,hi]
  ·rw[lF (by rw[hr];omega),<-h.tok i hi];simp[tk,List.getD,Ne.symm e]
 ·by_cases e:i=r
  ·subst e;right;exact⟨by simp[ix,List.getD,h.alen,hi],k,by omega,hr⟩
  ·have e1:ix (A.set r 1) i=ix A i:=by simp[ix,List.getD,Ne.symm e]
   rw[e1];rcases h.hit i hi with⟨h1,h2⟩ | ⟨h1,j,hj,h2⟩
   ·left;refine⟨h1,fun j hj=> ?_⟩
    by_cases ej:j=k
    ·subst ej;rw[hr];omega
    ·exact h2 j (by omega)
   ·exact .inr ⟨h1,j,by omega,h2⟩
theorem I6.apart {R:List Rw} {k n:Nat} {L:List ByteArray} {A:List Int} (h:I6 R k n L A) {r:Nat} (hr:(rw' R k).rank=(r:Int)) (hrn:r<n) (h0:ix A r=0) (ha:ApR R k):ApR R (k+1):=fun i j h1 h2=>by
 by_cases e:j=k
 ·subst e;rcases h.hit r hrn with⟨_,h3⟩ | ⟨h3,_⟩
  ·rw[hr];exact h3 i h1
  ·omega
 ·exact ha i j h1 (by omega)
theorem I6.all {R:List Rw} {S:List Sp} {k n rn:Nat} {L:List ByteArray} {A:List Int} (h:I6 R k n L A) (hl:R.length=rn) (hk:k<=rn) (hk2:¬k<rn) (hn:(n:Int)=top R S):L=kF R S:=by
 obtain rfl:k=rn:=by omega
 have hn2:(top R S).toNat=n:=by omega
 unfold kF;rw[hn2];apply List.ext_getElem?;intro i
 by_cases hi:i<n
 ·rw[sB (by rw[h.len];exact hi),h.tok i hi,<-hl,List.take_length];simp[hi]
 ·rw[List.getElem?_eq_none (by rw[h.len];omega),List.getElem?_eq_none (by simp;omega)]
theorem jA {w w':World} {base:Nat} {e:TypeId} {s n:Nat} {v:Value} {xs:List Value} (h:w.ownsRow base e s v n xs) (hb:∀g,v.ownBlock=some g->w'.heap[g]?=w.heap[g]?):w'.ownsRow base e s v n xs:=by
 obtain⟨h1,h2⟩:=h;refine⟨h1,?_⟩;rcases h2 with h2 | ⟨g,cap,cur,hv,hg,hh,r⟩
 ·exact .inl h2
 ·exact .inr ⟨g,cap,cur,hv,hg,by rw[hb g (by rw[hv];rfl)];exact hh,r⟩
def qS (T:List ByteArray) (i k:Nat):Option Mg:=
 if 0<=ofT T ((tk T i).extract 0 (k+1))/\0<=ofT T ((tk T i).extract (k+1) (tk T i).size)then some ⟨ofT T ((tk T i).extract 0 (k+1)),ofT T ((tk T i).extract (k+1) (tk T i).size),i,i⟩else none
def pF (T:List ByteArray) (i m:Nat):List Mg:=(List.range m).filterMap (qS T i)
def bD (T:List ByteArray) (k:Nat):List Mg:=(List.range k).flatMap (vW T)
theorem iL (T:List ByteArray) (i:Nat):vW T i=pF T i ((tk T i).size-1):=rfl
theorem sZ (T:List ByteArray) (i:Nat):pF T i 0= []:=rfl
theorem dQ {T:List ByteArray} {i k:Nat} {m:Mg} (h:qS T i k=some m):pF T i (k+1)=pF T i k++ [m]:=by
 unfold pF;rw[List.range_succ,List.filterMap_append];simp[h]
theorem tZ {T:List ByteArray} {i k:Nat} (h:qS T i k=none):pF T i (k+1)=pF T i k:=by
 unfold pF;rw[List.range_succ,List.filterMap_append];simp[h]
theorem pS (T:List ByteArray) (i m:Nat):(pF T i m).length<=m:=by
 unfold pF;exact Nat.le_trans (List.length_filterMap_le _ _) (by simp)
theorem aM (T:List ByteArray):bD T 0= []:=rfl
theorem zF (T:List ByteArray) (k:Nat):bD T (k+1)=bD T k++vW T k:=by
 unfold bD;rw[List.range_succ,List.flatMap_append];simp
theorem uN (T:List ByteArray):bD T T.length=xG T:=rfl
theorem kW {T:List ByteArray} (h:∀s∈T,s.size<=64) {k:Nat} (hk:k<=T.length):(bD T k).length<=k*64:=by
 induction k with
 | zero=>simp[aM]
 | succ k ih=>
  rw[zF,List.length_append,iL];have h1:=pS T k ((tk T k).size-1);have h2:=h (tk T k) (qB (by omega));have h3:=ih (by omega);omega
theorem gR {R:List Rw} {S:List Sp} {b:Nat} (h:∀r∈R,r.token.size<=b):∀s∈kF R S,s.size<=b:=by
 intro s hs;unfold kF at hs;obtain⟨i,_,rfl⟩:=List.mem_map.1 hs;unfold uJ
 cases hf:R.find? (fun r=>decide (r.rank=(i:Int)))with
 | none=>exact Nat.zero_le _
 | some r=>exact h r (List.mem_of_find?_eq_some hf)
def cR (R:List Rw) (S:List Sp):Vc:=⟨kF R S,F6 (xG (kF R S)),F5 S⟩
theorem tT {α:Type} {R:α->α->Prop} {l:List α} (h:l.Pairwise R) {a b:α} (ha:a∈l) (hb:b∈l) (h1:¬R a b) (h2:¬R b a):a=b:=by
 rw[List.pairwise_iff_getElem]at h;obtain⟨i,hi,rfl⟩:=List.getElem_of_mem ha;obtain⟨j,hj,rfl⟩:=List.getElem_of_mem hb;rcases Nat.lt_trichotomy i j with h3 | h3 | h3
 ·exact absurd (h i j hi hj h3) h1
 ·subst h3;rfl
 ·exact absurd (h j i hj hi h3) h2
theorem aDV {α:Type} {l:List α} {p:α->Bool} {x:α} (hx:x∈l) (hp:p x=true) (hu:∀y,y∈l->p y=true->y=x):l.find? p=some x:=by
 cases h:l.find? p with
 | none=>rw[List.find?_eq_none]at h;exact absurd hp (h x hx)
 | some y=>rw[hu y (List.mem_of_find?_eq_some h) (List.find?_some h)]
def oR (S:List Sp) (id:Int):Option Sp:=S.find? (fun s=>decide (s.id=id))
def fG (S:List Sp) (n:ByteArray):Option Sp:=S.find? (fun s=>decide (s.name=n))
def nmOf:Option Sp->ByteArray
 | some s=>s.name
 | none=>ByteArray.empty
def idOf:Option Sp->Int
 | some s=>s.id
 | none=> -1
theorem spBy_mem {T:List ByteArray} {S:List Sp} (h:cF T S) {s:Sp} (hs:s∈S):oR S s.id=some s:=
 aDV hs (by simp) fun y hy e=>tT h.2.2 hy hs (fun g=>g.2 (by simpa using e)) (fun g=>g.2 (by simpa using(Eq.symm (of_decide_eq_true e))))
theorem dS {α:Type} {lt:α->α->Bool} (hn:∀a b c,lt a b=false->lt b c=false->lt a c=false) {l:List α} (hs:l.Pairwise (fun a b=>lt b a=false)) {s:α} {at_:Nat}
  (h1:∀j x,j<at_->l[j]?=some x->lt s x=false) (h2:∀x,l[at_]?=some x->lt x s=false):(l.take at_++s::l.drop at_).Pairwise (fun a b=>lt b a=false):=by
 have h3:∀x∈l.drop at_,lt x s=false:=by
  intro x hx;obtain⟨j,hj,rfl⟩:=List.getElem_of_mem hx;rw[List.length_drop]at hj;rw[List.getElem_drop];have hk:at_<l.length:=by omega
  have hy:=h2 _ (List.getElem?_eq_getElem hk);rcases Nat.eq_zero_or_pos j with e | e
  ·subst e;exact hy
  ·exact hn _ _ _ ((List.pairwise_iff_getElem.1 hs) at_ (at_+j) hk (by omega) (by omega)) hy
 rw[List.pairwise_append];refine⟨hs.sublist (List.take_sublist _ _),?_,?_⟩
 ·rw[List.pairwise_cons];exact⟨h3,hs.sublist (List.drop_sublist _ _)⟩
 ·intro a ha b hb;obtain⟨j,hj,rfl⟩:=List.getElem_of_mem ha;rw[List.length_take]at hj;rw[List.getElem_take];rcases List.mem_cons.1 hb with rfl | hb
  ·exact h1 j _ (by omega) (List.getElem?_eq_getElem (by omega))
  ·obtain⟨i,hi,rfl⟩:=List.getElem_of_mem hb;rw[List.length_drop]at hi;rw[List.getElem_drop];exact(List.pairwise_iff_getElem.1 hs) j (at_+i) (by omega) (by omega) (by omega)
theorem N6 {α:Type} (l:List α) (s:α) (k:Nat):(l.take k++s::l.drop k).Perm (l++ [s]):=by
 have h1:(l.take k++s::l.drop k).Perm (s::(l.take k++l.drop k)):=List.perm_middle;rw[List.take_append_drop]at h1;exact h1.trans (List.perm_append_comm (l₁:=[s]) (l₂:=l))
open Go
structure Rg where
 lo:Int
 hi:Int
 cls:Int
instance :Inhabited Rg:=⟨⟨0,0,0⟩⟩
def Rg.enc (r:Rg):List Value:=[.int .i64 r.lo, .int .i64 r.hi, .int .i64 r.cls]
theorem Rg.enc_len (r:Rg):r.enc.length=3:=rfl
theorem Rg.enc_one (x:Rg):∀v∈x.enc,v.oneCell'=true:=by
 intro v hv;simp[Rg.enc]at hv;rcases hv with rfl | rfl | rfl<;>rfl
def rg (t:List Rg) (i:Nat):Rg:=t.getD i ⟨0,0,0⟩
theorem rH {t:List Rg} {i:Nat} (h:i<t.length):t[i]?=some (rg t i):=by simp[rg,List.getD,h]
theorem eI {t:List Rg} {i:Nat} (h:i<t.length):t[i]=rg t i:=by simp[rg,List.getD,h]
def dB (N:List ByteArray):Prop:=N.length<=16/\(∀s∈N,aC s)/\N.Pairwise (fun a b=>vA a b=true)
structure bF (N:List ByteArray) (k:Nat):Prop where
 ok:∀j,j<k->aC (tk N j)
 rise:∀j,j+1<k->vA (tk N j) (tk N (j+1))=true
theorem bF.zero (N:List ByteArray):bF N 0:=⟨fun j h=>by omega,fun j h=>by omega⟩
theorem bF.next {N:List ByteArray} {k:Nat} (h:bF N k) (h1:aC (tk N k)) (h2:0<k->vA (tk N (k-1)) (tk N k)=true):bF N (k+1):=by
 refine⟨fun j hj=> ?_,fun j hj=> ?_⟩
 ·by_cases e:j=k
  ·subst e;exact h1
  ·exact h.ok j (by omega)
 ·by_cases e:j+1=k
  ·subst e;exact h2 (by omega)
  ·exact h.rise j (by omega)
theorem bF.all {N:List ByteArray} {k:Nat} (h:bF N k) (hk:N.length=k) (h16:N.length<=16):dB N:=by
 refine⟨h16,fun s hs=> ?_,?_⟩
 ·obtain⟨j,hj,rfl⟩:=iI hs;exact h.ok j (by omega)
 ·refine nF (R:=fun a b=>vA a b=true) (fun a b c h1 h2=>aK h1 h2) (fun i a b ha hb=> ?_);have hi:=(List.getElem?_eq_some_iff.1 hb).1;rw[sB (by omega)]at ha;rw[sB hi]at hb;simp only[Option.some.injEq]at ha hb;subst ha hb;exact h.rise i (by omega)
theorem zL {N:List ByteArray} {k:Nat} (hk:k<N.length) (h:¬aC (tk N k)):(false=true↔dB N):=⟨(fun h=>by cases h),fun h2=>absurd (h2.2.1 _ (qB hk)) h⟩
theorem yL {N:List ByteArray} {k:Nat} (h0:0<k) (hk:k<N.length) (h:vA (tk N (k-1)) (tk N k)=false):(false=true↔dB N):=⟨(fun h=>by cases h),fun h2=>by
 have h3:=(List.pairwise_iff_getElem.1 h2.2.2) (k-1) k (by omega) hk (by omega);have e1:N[k-1]'(by omega)=tk N (k-1):=by simp[tk,List.getD,show k-1<N.length by omega]
 have e2:N[k]=tk N k:=by simp[tk,List.getD,hk]
 rw[e1,e2,h]at h3
 cases h3⟩
def J6 (r:Rg):Prop:=0<=r.lo/\r.lo<=r.hi/\r.hi<=1114111/\1<=r.cls/\r.cls<=4
def oA (t:List Rg):Prop:=t.length<=200/\(∀r∈t,J6 r)/\t.Pairwise (fun a b=>a.hi<b.lo)
structure yJ (t:List Rg) (k:Nat):Prop where
 ok:∀j,j<k->J6 (rg t j)
 rise:∀j,j+1<k->(rg t j).hi<(rg t (j+1)).lo
theorem yJ.zero (t:List Rg):yJ t 0:=⟨fun j h=>by omega,fun j h=>by omega⟩
theorem yJ.next {t:List Rg} {k:Nat} (h:yJ t k) (h1:J6 (rg t k)) (h2:0<k->(rg t (k-1)).hi<(rg t k).lo):yJ t (k+1):=by
 refine⟨fun j hj=> ?_,fun j hj=> ?_⟩
 ·by_cases e:j=k
  ·subst e;exact h1
  ·exact h.ok j (by omega)
 ·by_cases e:j+1=k
  ·subst e;exact h2 (by omega)
  ·exact h.rise j (by omega)
theorem yJ.all {t:List Rg} {k:Nat} (h:yJ t k) (hk:t.length=k) (h2:t.length<=200):oA t:=by
 refine⟨h2,fun r hr=> ?_,?_⟩
 ·obtain⟨j,hj,rfl⟩:=List.getElem_of_mem hr;rw[eI hj];exact h.ok j (by omega)
 ·rw[List.pairwise_iff_getElem];intro i j hi hj hij;rw[eI hi,eI hj];have key:∀d,i+1+d<t.length->(rg t i).hi<(rg t (i+1+d)).lo:=by
   intro d
   induction d with
   | zero=>intro hd;exact h.rise i (by omega)
   | succ d ih=>
    intro hd;have h3:=ih (by omega);have h4:=h.rise (i+1+d) (by omega);have h5:=(h.ok (i+1+d) (by omega)).2.1;rw[show i+1+(d+1)=i+1+d+1 by omega];omega
  have:=key (j-i-1) (by omega)
  rwa [show i+1+(j-i-1)=j by omega]at this
theorem eD {t:List Rg} {k:Nat} (hk:k<t.length) (h:¬J6 (rg t k)):(false=true↔oA t):=⟨(fun h=>by cases h),fun h2=>absurd (h2.2.1 _ (List.mem_of_getElem? (rH hk))) h⟩
theorem P5 {t:List Rg} {k:Nat} (h0:0<k) (hk:k<t.length) (h:¬(rg t (k-1)).hi<(rg t k).lo):(false=true↔oA t):=⟨(fun h=>by cases h),fun h2=>by
 have h3:=(List.pairwise_iff_getElem.1 h2.2.2) (k-1) k (by omega) hk (by omega);rw[eI (by omega),eI hk]at h3;exact absurd h3 h⟩
theorem aAR {t:List Rg} (h:¬t.length<=200):(false=true↔oA t):=⟨(fun h=>by cases h),fun h2=>absurd h2.1 h⟩
def wE (N:List ByteArray) (kind:Int) (t:List Rg) (room:Int):Prop:=dB N/\0<=kind/\kind<=3/\oA t/\0<=room/\room<=1048576
def nC (S:List Sp) (N:List ByteArray):List Int:=N.map (fun s=>idOf (fG S s))
def A9 (s:ByteArray):List Int:=s.data.toList.map (fun b=>(b.toNat:Int))
theorem dH (s:ByteArray):(A9 s).length=s.size:=by simp[A9]
theorem aEj {s:ByteArray} {i:Nat} (h:i<s.size):(A9 s)[i]?=some (s[i].toNat:Int):=by
 unfold A9;rw[List.getElem?_map,Array.getElem?_toList,Array.getElem?_eq_getElem (by simpa using h)];rfl
theorem Z8 {s:ByteArray} {k:Nat} (h:k<s.size):(A9 s).take (k+1)=(A9 s).take k++ [(s[k].toNat:Int)]:=by
 rw[List.take_add_one,aEj h];rfl
def vG (N:List ByteArray) (n:ByteArray):Option Nat:=N.findIdx? (fun x=>decide (x=n))
theorem P6 {N:List ByteArray} {n:ByteArray} {i:Nat} (hi:i<N.length) (he:tk N i=n) (hn:∀j,j<i->tk N j≠n):vG N n=some i:=by
 unfold vG;rw[List.findIdx?_eq_some_iff_getElem];have ht:∀j (hj:j<N.length),N[j]=tk N j:=fun j hj=>by simp[tk,List.getD,hj]
 exact⟨hi,by rw[ht i hi];simpa using he,fun j hj=>by rw[ht j (by omega)];simpa using hn j hj⟩
theorem tY {N:List ByteArray} {n:ByteArray} (hn:∀j,j<N.length->tk N j≠n):vG N n=none:=by
 unfold vG;rw[List.findIdx?_eq_none_iff];intro x hx;obtain⟨j,hj,rfl⟩:=iI hx;simpa using hn j hj
def mB (V:Vc) (N:List ByteArray) (t:Int):List Int×Int:=
 if wD V.tokens t=true then(A9 (tk V.tokens t.toNat),0)
 else match oR V.specials t with
  | none=>([],3)
  | some s=>match vG N s.name with
   | some k=>([256+(k:Int)],0)
   | none=>([],4)
def wB (V:Vc) (N:List ByteArray):List Int->List Int×Int
 | []=>([],0)
 | t::l=>if(mB V N t).2=0 then(if(wB V N l).2=0 then((mB V N t).1++(wB V N l).1,0)else([],(wB V N l).2))else([],(mB V N t).2)
def dD (M:List Mg) (a b:Int):Option Mg:=M.find? (fun m=>decide (m.left=a) && decide (m.right=b))
structure qI (M:List Mg) (row:List Int) (i:Nat) (m:Mg):Prop where
 at_:∃a b,row[i]?=some a/\row[i+1]?=some b/\dD M a b=some m
 least:∀j a b m',row[j]?=some a->row[j+1]?=some b->dD M a b=some m'->m.order<m'.order\/(m.order=m'.order/\i<=j)
def S6 (M:List Mg) (row:List Int):Prop:=∀j a b,row[j]?=some a->row[j+1]?=some b->dD M a b=none
theorem qI.uniq {M:List Mg} {row:List Int} {i j:Nat} {m n:Mg} (h:qI M row i m) (k:qI M row j n):i=j/\m=n:=by
 obtain⟨a,b,h1,h2,h3⟩:=h.at_;obtain⟨c,d,k1,k2,k3⟩:=k.at_;have e1:=h.least j c d n k1 k2 k3;have e2:=k.least i a b m h1 h2 h3;have e:i=j:=by omega
 subst e;rw[h1]at k1;rw[h2]at k2;simp only[Option.some.injEq]at k1 k2;subst k1 k2;rw[h3]at k3;exact⟨rfl,by simpa using k3⟩
theorem qI.not {M:List Mg} {row:List Int} {i:Nat} {m:Mg} (h:qI M row i m) (k:S6 M row):False:=by
 obtain⟨a,b,h1,h2,h3⟩:=h.at_;rw[k i a b h1 h2]at h3
 cases h3
def vH (row:List Int) (i:Nat) (o:Int):List Int:=row.take i++o::row.drop (i+2)
open Classical in
noncomputable def rE (M:List Mg) (row:List Int):Option (List Int):=if h:∃p:Nat×Mg,qI M row p.1 p.2 then some (vH row h.choose.1 h.choose.2.out)else none
theorem mR {M:List Mg} {row:List Int} {i:Nat} {m:Mg} (h:qI M row i m):rE M row=some (vH row i m.out):=by
 have he:∃p:Nat×Mg,qI M row p.1 p.2:=⟨(i,m),h⟩;unfold rE;rw[dif_pos he];obtain⟨e1,e2⟩:=he.choose_spec.uniq h;rw[e1,e2]
theorem jM {M:List Mg} {row:List Int} (h:S6 M row):rE M row=none:=by
 unfold rE;rw[dif_neg];rintro⟨p,hp⟩;exact hp.not h
theorem uO {M:List Mg} {row r:List Int} (h:rE M row=some r):r.length+1=row.length:=by
 unfold rE at h;split at h
 ·next he=>
  simp only[Option.some.injEq]at h;obtain⟨a,b,h1,h2,h3⟩:=he.choose_spec.at_;have:=(List.getElem?_eq_some_iff.1 h2).1;rw[<-h];unfold vH;simp;omega
 ·cases h
noncomputable def J3 (M:List Mg):Nat->List Int->List Int
 | 0,r=>r
 | k+1,r=>match rE M r with
  | none=>r
  | some r'=>J3 M k r'
theorem gN {M:List Mg} {r:List Int} (h:rE M r=none):∀k,J3 M k r=r
 | 0=>rfl
 | k+1=>by simp only[J3,h]
theorem aDl {M:List Mg} {r r':List Int} (h:rE M r=some r'):J3 M r.length r=J3 M r'.length r':=by
 have hl:=uO h;rw[<-hl];simp only[J3,h]
def yB (V:Vc) (b:List Int):List Int:=b.map (fun x=>ofT V.tokens (one x.toNat))
theorem lG (V:Vc) (b:List Int):(yB V b).length=b.length:=by simp[yB]
noncomputable def jG (V:Vc) (b:List Int):List Int:=J3 V.merges b.length (yB V b)
abbrev Ch:=List (Nat×Int)
def I7 (C:Ch):Prop:=C.Pairwise (fun a b=>a.1<b.1)
def agF (M:List Mg):Ch->Nat->Option (Int×Int)
 | (p,a)::(q,b)::l,x=>if x=p then(dD M a b).map (fun m=>(m.order,m.out))else agF M ((q,b)::l) x
 | _,_=>none
theorem D2 (M:List Mg) (p q:Nat) (a b:Int) (l:Ch) (x:Nat):agF M ((p,a)::(q,b)::l) x=if x=p then(dD M a b).map (fun m=>(m.order,m.out))else agF M ((q,b)::l) x:=rfl
theorem jO {M:List Mg}:∀{C:Ch} {x:Nat} {o},agF M C x=some o->∃i a q b m,C[i]?=some (x,a)/\C[i+1]?=some (q,b)/\dD M a b=some m/\o=(m.order,m.out)
 | [],x,o,h=>by simp[agF]at h
 | [_],x,o,h=>by simp[agF]at h
 | (p,a)::(q,b)::l,x,o,h=>by
  rw[D2]at h;split at h
  ·next e=>
   subst e
   cases hf:dD M a b with
   | none=>rw[hf]at h;simp at h
   | some m=>rw[hf]at h;exact⟨0,a,q,b,m,rfl,rfl,hf,by simpa using h.symm⟩
  ·obtain⟨i,a',q',b',m,h1,h2,h3,h4⟩:=jO h;exact⟨i+1,a',q',b',m,by simpa using h1,by simpa using h2,h3,h4⟩
theorem fX {M:List Mg}:∀{C:Ch},I7 C->∀{i p q:Nat} {a b:Int},C[i]?=some (p,a)->C[i+1]?=some (q,b)->agF M C p=(dD M a b).map (fun m=>(m.order,m.out))
 | [],_,i,p,q,a,b,h,_=>by simp at h
 | [_],_,i,p,q,a,b,_,h=>by simp at h
 | (p0,a0)::(q0,b0)::l,hc,i,p,q,a,b,h1,h2=>by
  rw[D2]
  cases i with
  | zero=>
   simp at h1 h2;obtain⟨rfl,rfl⟩:=h1;obtain⟨rfl,rfl⟩:=h2;simp
  | succ i=>
   have hc':=List.pairwise_cons.1 hc;have hm:(p,a)∈(q0,b0)::l:=List.mem_of_getElem? (by simpa using h1);have:=hc'.1 _ hm;simp only at this;rw[if_neg (by omega)];exact fX hc'.2 (i:=i) (by simpa using h1) (by simpa using h2)
theorem agF_no {M:List Mg} {C:Ch} {x:Nat} (h:∀c∈C,c.1≠x):agF M C x=none:=by
 cases hf:agF M C x with
 | none=>rfl
 | some o=>
  obtain⟨i,a,q,b,m,h1,_⟩:=jO hf;exact absurd rfl (h _ (List.mem_of_getElem? h1))
theorem agF_last {M:List Mg}:∀{C:Ch},I7 C->∀{i p:Nat} {a:Int},C[i]?=some (p,a)->C[i+1]?=none->agF M C p=none:=by
 intro C hc i p a h1 h2
 cases hf:agF M C p with
 | none=>rfl
 | some o=>
  obtain⟨j,a',q,b,m,k1,k2,_⟩:=jO hf;exfalso;have hi:=(List.getElem?_eq_some_iff.1 h1).1;have hj:=(List.getElem?_eq_some_iff.1 k1).1;have hj2:=(List.getElem?_eq_some_iff.1 k2).1;have hi2:C.length<=i+1:=by simpa using h2
  have hp:=List.pairwise_iff_getElem.1 hc j i hj hi (by omega);rw[List.getElem?_eq_getElem hi]at h1;rw[List.getElem?_eq_getElem hj]at k1;simp only[Option.some.injEq]at h1 k1;rw[h1,k1]at hp;simp at hp
theorem agF_best {M:List Mg} {C:Ch} (hc:I7 C) {p:Nat} {o d:Int} (h:agF M C p=some (o,d)) (hm:∀q o' d',agF M C q=some (o',d')->o<o'\/(o=o'/\p<=q)):
  ∃i a q b m,C[i]?=some (p,a)/\C[i+1]?=some (q,b)/\dD M a b=some m/\m.order=o/\m.out=d/\qI M (C.map (·.2)) i m:=by
 obtain⟨i,a,q,b,m,h1,h2,h3,h4⟩:=jO h;simp only[Prod.mk.injEq]at h4;refine⟨i,a,q,b,m,h1,h2,h3,h4.1.symm,h4.2.symm,⟨⟨a,b,by simp[h1],by simp[h2],h3⟩,fun j a' b' m' k1 k2 k3=> ?_⟩⟩;simp only[List.getElem?_map,Option.map_eq_some_iff]at k1 k2;obtain⟨⟨pj,a1⟩,g1,rfl⟩:=k1;obtain⟨⟨qj,b1⟩,g2,rfl⟩:=k2;have:=hm pj m'.order m'.out (by rw[fX hc g1 g2];simp only at k3;rw[k3];rfl);rw[h4.1]at this;rcases this with e | ⟨e1,e2⟩
 ·exact .inl e
 ·refine .inr ⟨e1,?_⟩;rcases Nat.lt_or_ge j i with hji | hji
  ·exfalso;have hj:=(List.getElem?_eq_some_iff.1 g1).1;have hi:=(List.getElem?_eq_some_iff.1 h1).1;have hp:=List.pairwise_iff_getElem.1 hc j i hj hi hji;rw[List.getElem?_eq_getElem hj]at g1;rw[List.getElem?_eq_getElem hi]at h1;simp only[Option.some.injEq]at g1 h1;rw[g1,h1]at hp;simp only at hp;omega
  ·exact hji
theorem aBD {M:List Mg} {C:Ch} (hc:I7 C) (h:∀p,agF M C p=none):S6 M (C.map (·.2)):=by
 intro j a b k1 k2;simp only[List.getElem?_map,Option.map_eq_some_iff]at k1 k2;obtain⟨⟨pj,a1⟩,g1,rfl⟩:=k1;obtain⟨⟨qj,b1⟩,g2,rfl⟩:=k2;have:=h pj;rw[fX hc g1 g2]at this;simpa using this
theorem U6 {pre post:Ch} {p q:Nat} {a b o:Int} (h:I7 (pre++(p,a)::(q,b)::post)):I7 (pre++(p,o)::post):=by
 unfold I7 at *;rw[List.pairwise_append]at h |-;obtain⟨h1,h2,h3⟩:=h;rw[List.pairwise_cons,List.pairwise_cons]at h2;refine⟨h1,List.pairwise_cons.2 ⟨fun c hc=>h2.1 c (by simp[hc]),h2.2.2⟩,fun x hx y hy=> ?_⟩;rcases List.mem_cons.1 hy with rfl | hy
 ·exact h3 x hx (p,a) (by simp)
 ·exact h3 x hx y (by simp[hy])
theorem aDw {pre post:Ch} {p q:Nat} {a b o:Int}:(pre++(p,o)::post).map (·.2)=vH ((pre++(p,a)::(q,b)::post).map (·.2)) pre.length o:=by
 unfold vH;simp[List.drop_append]
theorem aCJ {M:List Mg}:∀{pre l l':Ch} {x p:Nat} {a a':Int},I7 (pre++(p,a)::l)->(∀c,pre.getLast?=some c->c.1≠x)->(∃c∈pre,c.1=x)->agF M (pre++(p,a)::l) x=agF M (pre++(p,a')::l') x
 | [],l,l',x,p,a,a',_,_,h=>by simp at h
 | [c],l,l',x,p,a,a',_,h1,h2=>by
  obtain⟨d,hd,e⟩:=h2;simp at hd;subst hd;exact absurd e (h1 _ rfl)
 | (r,u)::(s,v)::pre,l,l',x,p,a,a',hc,h1,h2=>by
  simp only[List.cons_append];rw[D2,D2]
  by_cases e:x=r
  ·rw[if_pos e,if_pos e]
  ·rw[if_neg e,if_neg e];have:=aCJ (M:=M) (pre:=(s,v)::pre) (l:=l) (l':=l') (x:=x) (p:=p) (a:=a) (a':=a') (List.pairwise_cons.1 hc).2 (fun c h=>h1 c (by simpa using h)) (by
    obtain⟨d,hd,e2⟩:=h2;rcases List.mem_cons.1 hd with rfl | h
    ·exact absurd e2.symm e
    ·exact⟨d,h,e2⟩)
   simpa using this
theorem S2 {M:List Mg}:∀{pre l:Ch} {x:Nat},(∀c∈pre,c.1≠x)->l≠[]->agF M (pre++l) x=agF M l x
 | [],l,x,_,_=>rfl
 | [(r,u)],(p,a)::l,x,h,_=>by
  simp only[List.cons_append,List.nil_append];rw[D2,if_neg (fun e=>h (r,u) (by simp) e.symm)]
 | (r,u)::(s,v)::pre,l,x,h,hl=>by
  simp only[List.cons_append];rw[D2,if_neg (fun e=>h (r,u) (by simp) e.symm)];have:=S2 (M:=M) (pre:=(s,v)::pre) (l:=l) (x:=x) (fun c hc=>h c (by simp[hc])) hl;simpa using this
 | [(r,u)],[],x,_,hl=>absurd rfl hl
def mJ (row:List Int):Ch:=(List.range row.length).zip row
theorem eO {row:List Int} {i:Nat} {a:Int} (h:row[i]?=some a):(mJ row)[i]?=some (i,a):=by
 have hi:=(List.getElem?_eq_some_iff.1 h).1;unfold mJ;rw[List.getElem?_zip_eq_some];exact⟨by simp[hi],h⟩
theorem xK (row:List Int):(mJ row).length=row.length:=by simp[mJ]
theorem chOf_map (row:List Int):(mJ row).map (·.2)=row:=by
 unfold mJ;rw[List.map_snd_zip];simp
theorem chOf_ok (row:List Int):I7 (mJ row):=by
 unfold I7;rw[List.pairwise_iff_getElem];intro i j hi hj hij;simp only[mJ,List.getElem_zip,List.getElem_range];exact hij
structure Ent where
 place:Int
 order:Int
 out:Int
 deriving DecidableEq
instance :Inhabited Ent:=⟨⟨0,0,0⟩⟩
def Ent.less (a b:Ent):Bool:=decide (a.order<b.order) || (decide (a.order=b.order) && decide (a.place<b.place))
theorem Ent.less_iff {a b:Ent}:a.less b=true↔a.order<b.order\/(a.order=b.order/\a.place<b.place):=by
 simp[Ent.less]
theorem Ent.ge_trans {a b c:Ent} (h1:¬a.less b=true) (h2:¬b.less c=true):¬a.less c=true:=by
 rw[Ent.less_iff]at *;omega
theorem Ent.less_asymm {a b:Ent} (h1:a.less b=true):¬b.less a=true:=by
 rw[Ent.less_iff]at *;omega
theorem Ent.not_self (a:Ent):¬a.less a=true:=by
 rw[Ent.less_iff];omega
def en (L:List Ent) (i:Nat):Ent:=L.getD i default
theorem dE {L:List Ent} {i:Nat} (h:i<L.length):L[i]?=some (en L i):=by simp[en,List.getD,h]
theorem gD {L:List Ent} {i:Nat} (h:i<L.length):L[i]=en L i:=by simp[en,List.getD,h]
def swp (L:List Ent) (i j:Nat):List Ent:=(L.set i (en L j)).set j (en L i)
theorem jC (L:List Ent) (i j:Nat):(swp L i j).length=L.length:=by simp[swp]
theorem cP {L:List Ent} {i:Nat} {x:Ent} (k:Nat) (h:i<L.length):en (L.set i x) k=if k=i then x else en L k:=by
 unfold en;simp only[List.getD,List.getElem?_set]
 by_cases hk:i=k
 ·subst hk;simp[h]
 ·rw[if_neg hk,if_neg (fun e=>hk e.symm)]
theorem F7 {L:List Ent} {i j:Nat} (k:Nat) (hi:i<L.length) (hj:j<L.length):en (swp L i j) k=if k=j then en L i else if k=i then en L j else en L k:=by
 unfold swp;rw[cP k (by simpa using hj),cP k hi]
def par (i:Nat):Nat:=(i-1) / 2
def pE (L:List Ent) (n:Nat):Prop:=∀i,0<i->i<n->¬(en L i).less (en L (par i))=true
structure fQ (L:List Ent) (n j:Nat):Prop where
 ok:∀i,0<i->i<n->i≠j->¬(en L i).less (en L (par i))=true
 kid:∀c,0<c->c<n->par c=j->0<j->¬(en L c).less (en L (par j))=true
theorem tV {L:List Ent} {n j:Nat} (h:fQ L n j) (hs:j=0\/¬(en L j).less (en L (par j))=true):pE L n:=fun i h0 hn=>by
 by_cases e:i=j
 ·subst e;rcases hs with h1 | h1
  ·omega
  ·exact h1
 ·exact h.ok i h0 hn e
theorem nD {i:Nat} (h:0<i):par i<i:=by unfold par;omega
theorem up_step {L:List Ent} {n j:Nat} (h:fQ L n j) (h0:0<j) (hj:j<n) (hl:n<=L.length) (hs:(en L j).less (en L (par j))=true):fQ (swp L (par j) j) n (par j):=by
 have hp:=nD h0;have hE:=fun k=>F7 (L:=L) (i:=par j) (j:=j) k (by omega) (by omega)
 refine⟨fun i i0 hi hne=> ?_,fun c c0 hc hcp hp0=> ?_⟩
 ·rw[hE i,hE (par i)]
  by_cases e1:i=j
  ·subst e1;rw[if_pos rfl,if_neg (by omega),if_pos rfl];exact Ent.less_asymm hs
  ·rw[if_neg e1,if_neg hne]
   by_cases e2:par i=j
   ·rw[if_pos e2];exact h.kid i i0 hi e2 h0
   ·rw[if_neg e2]
    by_cases e3:par i=par j
    ·rw[if_pos e3];have h1:=h.ok i i0 hi e1;rw[e3]at h1;exact Ent.ge_trans h1 (Ent.less_asymm hs)
    ·rw[if_neg e3];exact h.ok i i0 hi e1
 ·rw[hE c,hE (par (par j))];have hpp:=nD hp0;rw[if_neg (show par (par j)≠j by omega),if_neg (show par (par j)≠par j by omega)];have hq:¬(en L (par j)).less (en L (par (par j)))=true:=h.ok (par j) hp0 (by omega) (by omega)
  by_cases e1:c=j
  ·rw[if_pos e1];exact hq
  ·have e2:c≠par j:=fun e=>by have:=nD c0;rw[hcp,e]at this;omega
   rw[if_neg e1,if_neg e2];have h1:=h.ok c c0 hc e1;rw[hcp]at h1;exact Ent.ge_trans h1 hq
structure nO (L:List Ent) (n i:Nat) (g:Prop):Prop where
 ok:∀k,0<k->k<n->par k≠i->(k=i->g)->¬(en L k).less (en L (par k))=true
 kid:∀c,0<c->c<n->par c=i->0<i->¬(en L c).less (en L (par i))=true
theorem aDZ {L:List Ent} {n i:Nat} {g:Prop} (h:nO L n i g) (hs:∀c,0<c->c<n->par c=i->¬(en L c).less (en L i)=true):(g->pE L n)/\fQ L n i:=by
 have key:∀k,0<k->k<n->(k=i->g)->¬(en L k).less (en L (par k))=true:=fun k k0 hk hg=>by
  by_cases e:par k=i
  ·have:=hs k k0 hk e;rw[e];exact this
  ·exact h.ok k k0 hk e hg
 exact⟨fun hg k k0 hk=>key k k0 hk (fun _=>hg),fun k k0 hk e=>key k k0 hk (fun e2=>absurd e2 e),h.kid⟩
theorem aEa {L:List Ent} {n i j:Nat} {g:Prop} (h:nO L n i g) (hj:j<n) (hl:n<=L.length) (hj0:0<j) (hp:par j=i) (hm:∀c,0<c->c<n->par c=i->¬(en L c).less (en L j)=true) (hs:(en L j).less (en L i)=true):nO (swp L i j) n j True:=by
 have hij:i<j:=by have:=nD hj0;omega
 have hE:=fun k=>F7 (L:=L) (i:=i) (j:=j) k (by omega) (by omega)
 refine⟨fun k k0 hk hne _=> ?_,fun c c0 hc hcp _=> ?_⟩
 ·rw[hE k,hE (par k),if_neg hne];have hpk:=nD k0
  by_cases e1:k=j
  ·subst e1;rw[if_pos rfl,if_pos hp];exact Ent.less_asymm hs
  ·rw[if_neg e1]
   by_cases e2:k=i
   ·subst e2;rw[if_pos rfl,if_neg (by omega)];exact h.kid j hj0 hj hp k0
   ·rw[if_neg e2]
    by_cases e3:par k=i
    ·rw[if_pos e3];exact hm k k0 hk e3
    ·rw[if_neg e3];exact h.ok k k0 hk e3 (fun e=>absurd e e2)
 ·have hcj:j<c:=by have:=nD c0;omega
  have e1:en (swp L i j) c=en L c:=by rw[hE c,if_neg (by omega),if_neg (by omega)]
  have e2:en (swp L i j) (par j)=en L j:=by rw[hE (par j),if_neg (by omega),if_pos hp]
  rw[e1,e2];have:=h.ok c c0 hc (by rw[hcp];omega) (fun e=>by omega);rw[hcp]at this;exact this
theorem iZ {L:List Ent} {n i:Nat} {x:Ent} (h:pE L n) (hi:i<n) (hl:n<=L.length):nO (L.set i x) n i False:=by
 have hE:=fun k=>cP (L:=L) (i:=i) (x:=x) k (by omega)
 refine⟨fun k k0 hk hne hg=> ?_,fun c c0 hc hcp hi0=> ?_⟩
 ·rw[hE k,hE (par k),if_neg hne,if_neg (fun e=>hg e)];exact h k k0 hk
 ·have hci:c≠i:=by have:=nD c0;omega
  have hpi:par i≠i:=by have:=nD hi0;omega
  rw[hE c,hE (par i),if_neg hci,if_neg hpi];have h1:=h c c0 hc;rw[hcp]at h1;exact Ent.ge_trans h1 (h i hi0 hi)
theorem aV {L:List Ent} {n i:Nat} (h:pE L (n+1)) (hi:i<n) (hl:n+1<=L.length):nO (swp L i n) n i False:=by
 have h2:pE L n:=fun k k0 hk=>h k k0 (by omega)
 have h3:=iZ (x:=en L n) h2 hi (by omega);have hE:=fun k=>cP (L:=L) (i:=i) (x:=en L n) k (by omega)
 have hS:=fun k=>F7 (L:=L) (i:=i) (j:=n) k (by omega) (by omega)
 have same:∀k,k<n->en (swp L i n) k=en (L.set i (en L n)) k:=fun k hk=>by
  rw[hS k,hE k,if_neg (by omega)]
 refine⟨fun k k0 hk hne hg=> ?_,fun c c0 hc hcp hi0=> ?_⟩
 ·rw[same k hk,same (par k) (by have:=nD k0;omega)];exact h3.ok k k0 hk hne hg
 ·rw[same c hc,same (par i) (by have:=nD hi0;omega)];exact h3.kid c c0 hc hcp hi0
theorem aDQ {L:List Ent} {x:Ent} (h:pE L L.length):fQ (L++ [x]) (L.length+1) L.length:=by
 have hE:∀k,k<L.length->en (L++ [x]) k=en L k:=fun k hk=>by simp[en,List.getD,List.getElem?_append,hk]
 refine⟨fun i i0 hi hne=> ?_,fun c c0 hc hcp _=> ?_⟩
 ·rw[hE i (by omega),hE (par i) (by have:=nD i0;omega)];exact h i i0 (by omega)
 ·have:=nD c0;unfold par at *;omega
theorem pE.min {L:List Ent} {n:Nat} (h:pE L n):∀i,i<n->¬(en L i).less (en L 0)=true:=by
 intro i
 induction i using Nat.strongRecOn with
 | _ i ih=>
  intro hi;rcases Nat.eq_zero_or_pos i with h0 | h0
  ·subst h0;exact Ent.not_self _
  ·have hp:=nD h0;exact Ent.ge_trans (h i h0 hi) (ih (par i) hp (by omega))
theorem pE.zero (L:List Ent):pE L 0:=fun i _ h=>by omega
theorem pE.less {L:List Ent} {n m:Nat} (h:pE L n) (hm:m<=n):pE L m:=fun i i0 hi=>h i i0 (by omega)
def fF (L:List Ent):Prop:=∀i j,i<L.length->j<L.length->(en L i).place=(en L j).place->i=j
def agL (L:List Ent) (p:Int):Option (Int×Int):=(L.find? (fun e=>decide (e.place=p))).map (fun e=>(e.order,e.out))
theorem S1 {L:List Ent} (h:fF L) {p o d:Int}:agL L p=some (o,d)↔∃i,i<L.length/\en L i=⟨p,o,d⟩:=by
 unfold agL;rw[Option.map_eq_some_iff];constructor
 ·rintro⟨e,he,h1⟩;obtain⟨h2,i,hi,h3,_⟩:=List.find?_eq_some_iff_getElem.1 he;refine⟨i,hi,?_⟩;rw[<-gD hi,h3];obtain⟨a,b,c⟩:=e;simp at h2 h1;rw[h2,h1.1,h1.2]
 ·rintro⟨i,hi,h1⟩;refine⟨⟨p,o,d⟩,List.find?_eq_some_iff_getElem.2 ⟨by simp,i,hi,by rw[gD hi,h1],fun j hj=> ?_⟩,rfl⟩;rw[gD (by omega)];simp only[Bool.not_eq_true',decide_eq_false_iff_not];intro e;have:=h j i (by omega) hi (by rw[h1];exact e);omega
theorem agL_none {L:List Ent} {p:Int}:agL L p=none↔∀i,i<L.length->(en L i).place≠p:=by
 unfold agL;rw[Option.map_eq_none_iff,List.find?_eq_none];constructor
 ·intro h i hi e;have:=h (en L i) (List.mem_of_getElem? (dE hi));simp at this;exact this e
 ·intro h x hx;obtain⟨i,hi,rfl⟩:=List.getElem_of_mem hx;rw[gD hi];simpa using h i hi
def atL (L:List Ent) (p:Int):Option Int:=(L.findIdx? (fun e=>decide (e.place=p))).map (fun(i:Nat)=>(i:Int))
theorem vC {L:List Ent} (h:fF L) {p:Int} {i:Nat}:atL L p=some (i:Int)↔i<L.length/\(en L i).place=p:=by
 unfold atL;rw[Option.map_eq_some_iff];constructor
 ·rintro⟨k,hk,e⟩;obtain rfl:k=i:=by omega
  obtain⟨h1,h2,_⟩:=List.findIdx?_eq_some_iff_getElem.1 hk;rw[gD h1]at h2;exact⟨h1,by simpa using h2⟩
 ·rintro⟨h1,h2⟩;refine⟨i,List.findIdx?_eq_some_iff_getElem.2 ⟨h1,by rw[gD h1];simpa using h2,fun j hj=> ?_⟩,rfl⟩;rw[gD (by omega)];simp only[decide_eq_true_eq];intro e;have:=h j i (by omega) h1 (by rw[h2];exact e);omega
theorem iH {L:List Ent} {p:Int}:atL L p=none↔∀i,i<L.length->(en L i).place≠p:=by
 unfold atL;rw[Option.map_eq_none_iff,List.findIdx?_eq_none_iff];constructor
 ·intro h i hi e;have:=h (en L i) (List.mem_of_getElem? (dE hi));simp at this;exact this e
 ·intro h x hx;obtain⟨i,hi,rfl⟩:=List.getElem_of_mem hx;rw[gD hi];simpa using h i hi
open Go.RowKit Go.Maps Go.ChangeMaps Go.WideMaps
set_option linter.unusedSimpArgs false
section
variable {P:Program} {k t e:TypeId} {α:Type} {V:B4 P k α}
def dG (V:B4 P k α) (e:TypeId) (w:World) (mb sz:Nat) (f:α->Option Int) (st:α->Nat):Prop:=
 ∃es clock,w.heap[mb]?=some (.map es clock)/\A0 V e w mb sz f/\∀s,V.ok s->(f s).isSome=true->∃x∈es.toList,x.key=V.val s/\st s=x.born
theorem dG.rep {w:World} {mb sz:Nat} {f:α->Option Int} {st:α->Nat} (h:dG V e w mb sz f st):A0 V e w mb sz f:=let ⟨_,_,_,h1,_⟩:=h;h1
theorem A0.stamped (ht:P.underlying t=some (.map k e)) (he:P.underlying e=some (.int .i64)) (hz:∀w:World,(zeroValue e).run P w= .ok (.int .i64 0) w) {w:World} {mb sz:Nat} {f:α->Option Int} (h:A0 V e w mb sz f):∃st,dG V e w mb sz f st:=by
 have hm:=h;obtain⟨D,h1,h2,h3,h4⟩:=h;have h1':=h1;obtain⟨es,clock,hb,F,hsz,hD⟩:=h1;have key:∀s,V.ok s->(f s).isSome=true->∃x∈es.toList,x.key=V.val s:=fun s hs hf=>by
  rcases V.keyed.find w (V.key s hs) es.toList F.keys with⟨hn,_⟩ | ⟨j,e0,h5,h6,h7⟩
  ·obtain⟨v,ps,hrun,_⟩:=h1'.look_ok V.keyed ht (hz w) (plainElem_int he (by decide)) (V.key s hs);rw[(h4 s hs).1,hf]at hrun;simp[Instr.lookup,run_underlying ht,MapKept.run_getObj_map hb,V.keyed.check w _ (V.key s hs),hn,hz w,Result.andThen]at hrun
  ·exact⟨e0,List.mem_of_getElem? (show es.toList[j]?=some e0 from h6),h7⟩
 refine⟨fun s=>open Classical in if h:∃x∈es.toList,x.key=V.val s then h.choose.born else 0,es,clock,hb,hm,fun s hs hf=> ?_⟩;have h8:=key s hs hf;refine⟨h8.choose,h8.choose_spec.1,h8.choose_spec.2,?_⟩;simp only[dif_pos h8]
theorem dG.find {w:World} {mb sz:Nat} {f:α->Option Int} {es:Array MapEntry} {clock:Nat} (hb:w.heap[mb]?=some (.map es clock)) (h:A0 V e w mb sz f) {s:α} (hs:V.ok s) {x:MapEntry} (hxm:x∈es.toList) (hxk:x.key=V.val s):
  (es.toList.map (·.born)).Nodup/\∃j,es[j]?=some x/\∀W:World,(Instr.findKey k (V.val s) es.toList).run P W= .ok (some (j,x.val)) W:=by
 obtain⟨D,⟨es',clock',hb',F,hsz,hD⟩,_⟩:=h;rw[hb]at hb'
 cases hb'
 obtain⟨j,hj⟩:∃j,es[j]?=some x:=by
  obtain⟨j,hj,rfl⟩:=List.getElem_of_mem hxm;exact⟨j,by simp at hj;exact Array.getElem?_eq_getElem hj⟩
 have hjl:=(Array.getElem?_eq_some_iff.1 hj).1;have hnd:=F.stamped.2.2;refine⟨F.stamped.2.1,j,hj,fun W=> ?_⟩;rcases V.keyed.find W (V.key s hs) es.toList F.keys with⟨_,h2⟩ | ⟨j',e0,h1,h2,h3⟩
 ·exact absurd hxk (h2 x hxm)
 ·have hjj:j'=j:=by
   have hj':es[j']?=some e0:=by simpa using h2
   have hjl':=(Array.getElem?_eq_some_iff.1 hj').1;rcases Nat.lt_trichotomy j' j with h4 | h4 | h4
   ·have:=(List.pairwise_iff_getElem.1 hnd) j' j (by simpa using hjl') (by simpa using hjl) h4;simp only[List.getElem_map,Array.getElem_toList]at this;rw[(Array.getElem?_eq_some_iff.1 hj).2,(Array.getElem?_eq_some_iff.1 hj').2,hxk,h3]at this;exact absurd rfl this
   ·exact h4
   ·have:=(List.pairwise_iff_getElem.1 hnd) j j' (by simpa using hjl) (by simpa using hjl') h4;simp only[List.getElem_map,Array.getElem_toList]at this;rw[(Array.getElem?_eq_some_iff.1 hj).2,(Array.getElem?_eq_some_iff.1 hj').2,hxk,h3]at this;exact absurd rfl this
  subst hjj;have hj':es[j']?=some e0:=by simpa using h2
  rw[hj]at hj'
  cases hj'
  exact h1
theorem nT {W:World} {mb:Nat} {o:Obj} (h:W.heap[mb]?=some o):ChangeMaps.setBlock W mb o=W:=by
 have e:W.heap.setIfInBounds mb o=W.heap:=by
  apply Array.ext_getElem?;intro i;rw[Array.getElem?_setIfInBounds];split
  ·rename_i h1;subst h1;rw[if_pos (Array.getElem?_eq_some_iff.1 h).1,h]
  ·rfl
 unfold ChangeMaps.setBlock;rw[e]
theorem dG.entry (ht:P.underlying t=some (.map k e)) (he:P.underlying e=some (.int .i64)) (hz:∀w:World,(zeroValue e).run P w= .ok (.int .i64 0) w) {w:World} {mb sz:Nat} {f:α->Option Int} {st:α->Nat} (h:dG V e w mb sz f st) {s:α} (hs:V.ok s) {c:Int} (hf:f s=some c):
  (Instr.mapEntry t (.map (some mb)) (V.val s)).run P w= .ok (.tuple #[.int .i64 c,goInt (st s)]) w:=by
 obtain⟨es,clock,hb,hm,hst⟩:=h;obtain⟨x,hxm,hxk,hxs⟩:=hst s hs (by rw[hf];rfl);obtain⟨hnd,j,hj,hfind⟩:=dG.find hb hm hs hxm hxk;have hjl:=(Array.getElem?_eq_some_iff.1 hj).1;have hkey:=V.key s hs;have hmod:es.modify j (fun e=>{e with key:=V.val s})=es:=by
  apply Array.ext
  ·simp
  ·intro i h1 h2;rw[Array.getElem_modify];split
   ·subst i;have:es[j]=x:=(Array.getElem?_eq_some_iff.1 hj).2;rw[this,<-hxk]
   ·rfl
 have hstay:∀W:World,(Instr.keyThatStays x.key (V.val s)).run P W= .ok (V.val s) W:=fun W=>by
  rw[hxk];exact V.keyed.stays W hkey
 have hg:=A0.get (s:=s) ht he hz hm hs;have hv:x.val= .int .i64 c:=by
  rw[hf]at hg;simp[Instr.lookup,run_underlying ht,MapKept.run_getObj_map hb,V.keyed.check w _ hkey,hfind,Result.andThen]at hg;exact hg
 have hsame:({w with heap:=w.heap.setIfInBounds mb (.map es clock)}:World)=w:=nT hb;simp[Instr.mapEntry,run_underlying ht,MapKept.run_getObj_map hb,V.keyed.check w false hkey,hfind w,hstay w,hmod,MapKept.run_setObj_map _ hb,Result.andThen,hj,hsame,hv,hxs,ChangeMaps.setBlock]
theorem dG.store [DecidableEq α] (ht:P.underlying t=some (.map k e)) (he:P.underlying e=some (.int .i64)) {w:World} {mb sz:Nat} {f:α->Option Int} {st:α->Nat} (h:dG V e w mb sz f st) {s:α} (hs:V.ok s) (hf:(f s).isSome=true) {c:Int} (hc:(Lit.int .i64 c).wf=true) (hn:sz<maxLen):
  ∃o,(Instr.entryStore t (.map (some mb)) (goInt (st s)) (.int .i64 c)).run P w= .ok () (ChangeMaps.setBlock w mb o)/\dG V e (ChangeMaps.setBlock w mb o) mb sz (fun t=>if t=s then some c else f t) st:=by
 obtain⟨es,clock,hb,hm,hst⟩:=h;obtain⟨x,hxm,hxk,hxs⟩:=hst s hs hf;obtain⟨hnd,j,hj,hfind⟩:=dG.find hb hm hs hxm hxk;have hjl:=(Array.getElem?_eq_some_iff.1 hj).1;have hkey:=V.key s hs;have hstay:∀W:World,(Instr.keyThatStays x.key (V.val s)).run P W= .ok (V.val s) W:=fun W=>by
  rw[hxk];exact V.keyed.stays W hkey
 have hmod2:(es.modify j fun e=>{e with key:=V.val s,val:= .int .i64 c})=es.modify j (fun e=>{e with val:= .int .i64 c}):=by
  apply Array.ext
  ·simp
  ·intro i h1 h2;rw[Array.getElem_modify,Array.getElem_modify];split
   ·subst i;have:es[j]=x:=(Array.getElem?_eq_some_iff.1 hj).2;rw[this,<-hxk]
   ·rfl
 obtain⟨w',hrun,hm',hg'⟩:=A0.update (s:=s) ht he hm hs hc hn;have hrun2:(Instr.mapUpdate t (.map (some mb)) (V.val s) (.int .i64 c)).run P w= .ok () (ChangeMaps.setBlock w mb (.map (es.modify j (fun e=>{e with val:= .int .i64 c})) clock)):=by
  simp[Instr.mapUpdate,run_underlying ht,MapKept.run_getObj_map hb,V.keyed.check w false hkey,hfind w,hj,hstay w,hmod2,MapKept.run_setObj_map _ hb,Result.andThen,ChangeMaps.setBlock]
 rw[hrun]at hrun2;have hw':w'=_:=(Result.ok.inj hrun2).2;subst hw';refine⟨.map (es.modify j (fun e=>{e with val:= .int .i64 c})) clock,?_,_,_,heap_setBlock_same hb _,by rw[hf]at hm';exact hm',fun s' hs' hf'=> ?_⟩
 ·rw[hxs];simp[Instr.entryStore,MapKept.run_getObj_map hb,MapKept.run_setObj_map _ hb,Result.andThen,ChangeMaps.setBlock,goInt,asInt,asIntOf,dM hnd hj]
 ·have hf2:(f s').isSome=true:=by
   by_cases e1:s'=s
   ·subst e1;exact hf
   ·simpa[e1]using hf'
  obtain⟨x',hxm',hxk',hxs'⟩:=hst s' hs' hf2;obtain⟨i,hi,rfl⟩:=List.getElem_of_mem hxm';simp only[Array.length_toList]at hi;refine⟨(es.modify j (fun e=>{e with val:= .int .i64 c}))[i]'(by simpa using hi),Array.getElem_mem_toList _,?_,?_⟩
  ·rw[Array.getElem_modify];split<;>simpa using hxk'
  ·rw[Array.getElem_modify];split<;>simpa using hxs'
theorem A0.del [DecidableEq α] (ht:P.underlying t=some (.map k e)) {w:World} {mb sz:Nat} {f:α->Option Int} (h:A0 V e w mb sz f) {s:α} (hs:V.ok s) (ty:TypeId):
  ∃w',(Builtin.delete_ #[t,k] ty #[.map (some mb),V.val s]).run P w= .ok (.tuple #[]) w'/\A0 V e w' mb (if(f s).isSome then sz-1 else sz) (fun t=>if t=s then none else f t)/\w.mapTurned w' mb:=by
 obtain⟨D,h1,h2,h3,h4⟩:=h;obtain⟨w',hrun,hown,hturn⟩:=h1.drop V.keyed ht (V.key s hs) ty;have e1:size (D.del (V.lit s))=if(f s).isSome then sz-1 else sz:=by
  have:=size_del (k:=V.lit s) h2;rw[(h4 s hs).1,h3]at this;split at this<;>simp_all<;>omega
 refine⟨w',hrun,⟨D.del (V.lit s),?_,h2.del _,e1,fun t ht'=> ?_⟩,hturn⟩
 ·have:=fI hown;rw[e1]at this;exact this
 ·by_cases e2:t=s
  ·subst e2;simp only[if_true,Option.isSome_none];exact⟨has_del_same,fun c' hc'=>by cases hc'⟩
  ·have hne:V.lit t≠V.lit s:=fun h=>e2 (V.inj t s ht' hs h)
   simp only[e2,if_false];rw[has_del_other hne];exact⟨(h4 t ht').1,fun c' hc'=>by rw[atKey_del_other hne];exact(h4 t ht').2 c' hc'⟩
theorem A0.getOk (ht:P.underlying t=some (.map k e)) (he:P.underlying e=some (.int .i64)) (hz:∀w:World,(zeroValue e).run P w= .ok (.int .i64 0) w) {w:World} {mb sz:Nat} {f:α->Option Int} (h:A0 V e w mb sz f)
  {s:α} (hs:V.ok s):(Instr.lookup t (.map (some mb)) (V.val s) true).run P w= .ok (.tuple #[.int .i64 ((f s).getD 0), .bool (f s).isSome]) w:=by
 obtain⟨D,h1,h2,h3,h4⟩:=h;obtain⟨v,ps,hrun,hv⟩:=h1.look_ok V.keyed ht (hz w) (plainElem_int he (by decide)) (V.key s hs);obtain⟨c,rfl,hc,_⟩:=plainElem_int_inv he hv;have hat:=congrArg Prod.fst hc;have hh:=h4 s hs;rw[hh.1]at hrun;have hcc:c=(f s).getD 0:=by
  cases hf:f s with
  | none=>
   rw[hf]at hh;rw[atKey_of_not_has (by simpa using hh.1)]at hat;simpa using hat.symm
  | some c'=>
   have:=hh.2 c' hf;rw[this]at hat;simpa using hat.symm
 rw[<-hcc];exact hrun
end
theorem infoStr9:(Tryz.prog.info? 9).map (fun i=>(i.zero,i.size,i.bytes))=some (some (.string ByteArray.empty),1,16):=by kernel_rfl
theorem tC:(Tryz.prog.info? 3).map (fun i=>(i.zero,i.size,i.bytes))=some (some (.int .i64 0),1,8):=by kernel_rfl
abbrev D3 (w:World) (base:Nat) (v:Value) (T:List ByteArray):Prop:=w.ownsRow base 9 1 v T.length (T.map .string)
theorem aDj {P:Program} (t e:TypeId) (i:TypeInfo) (z:Value) (ht:P.underlying t=some (.slice e)) (hi:P.info? e=some i) (hz:i.zero=some z) (hs:i.size=1)
  (n:Nat) (hbytes:i.bytes*n<=281474976710656) (h63:n<=9223372036854775807) (w:World):
  (Instr.makeSlice t (.int .i64 (n:Int)) (.int .i64 (n:Int))).run P w= .ok (.slice (some ⟨w.heap.size,0,none⟩) n n) (w.alloc (.cells (madeCells z.cells n) e)):=by
 have hb:(i.bytes:Int)*(n:Int)<=281474976710656:=by
  have h:((i.bytes*n:Nat):Int)<=281474976710656:=by omega
  rwa [Int.natCast_mul]at h
 have hr:=run_make (P:=P) w t e i z ht hi hz .i64 .i64 n n (by omega) (by omega) hb (by omega);simp only[Int.toNat_natCast,hs,Nat.mul_one]at hr;exact hr
theorem aDq (w:World) (n:Nat) (hm:n<=maxLen):D3 (w.alloc (.cells (madeCells (Value.string ByteArray.empty).cells n) 9)) w.heap.size (.slice (some ⟨w.heap.size,0,none⟩) n n) (List.replicate n ByteArray.empty):=by
 have e:(madeCells (Value.string ByteArray.empty).cells n)=(List.replicate n (Value.string ByteArray.empty)).toArray:=by
  apply Array.ext';exact toList_madeCells_one _ n
 rw[e];refine⟨by simp, .inr ⟨w.heap.size,n,_,by simp,Nat.le_refl _,heap_alloc_new w _,by simp,hm,by simp,?_⟩⟩;simp
theorem D3.mono {w:World} {base base':Nat} {v:Value} {L:List ByteArray} (h:D3 w base v L) (hb:base'<=base):D3 w base' v L:=by
 obtain⟨h1,h2⟩:=h;refine⟨h1,?_⟩;rcases h2 with h2 | ⟨g,cap,cur,hv,hg,r⟩
 ·exact .inl h2
 ·exact .inr ⟨g,cap,cur,hv,by omega,r⟩
theorem D3.below {w w':World} {base:Nat} {v:Value} {L:List ByteArray} (h:D3 w base v L) (hb:Below w.heap.size w w'):D3 w' base v L:=
 jA h fun g hg=>hb.block g (World.ownsRow.lt h g hg).2
theorem Mg.enc_one (x:Mg):∀v∈x.enc,v.oneCell'=true:=by
 intro v hv;simp[Mg.enc]at hv;rcases hv with rfl | rfl | rfl | rfl<;>rfl
theorem Sp.enc_one (x:Sp):∀v∈x.enc,v.oneCell'=true:=by
 intro v hv;simp[Sp.enc]at hv;rcases hv with rfl | rfl<;>rfl
theorem infoSp:(Tryz.prog.info? 117).map (fun i=>(i.zero.map (·.cells.size),i.size,i.bytes))=some (some 2,2,24):=by kernel_rfl
theorem infoMg:(Tryz.prog.info? 170).map (fun i=>(i.zero.map (·.cells.size),i.size,i.bytes))=some (some 4,4,32):=by kernel_rfl
theorem B6 {t:TypeId} {k m b:Nat} (h:(Tryz.prog.info? t).map (fun i=>(i.zero.map (·.cells.size),i.size,i.bytes))=some (some k,m,b)):∃i z,Tryz.prog.info? t=some i/\i.zero=some z/\i.size=m/\i.bytes=b/\z.cells.size=k:=by
 cases hi:Tryz.prog.info? t with
 | none=>rw[hi]at h;cases h
 | some i=>
  rw[hi]at h;simp only[Option.map_some,Option.some.injEq,Prod.mk.injEq]at h;obtain⟨h1,h2,h3⟩:=h
  cases hz:i.zero with
  | none=>rw[hz]at h1;cases h1
  | some z=>rw[hz]at h1;exact⟨i,z,rfl,hz,h2,h3,by simpa using h1⟩
theorem qM {α:Type} {enc:α->List Value} {s:Nat} {t:TypeId} {w:World} {base n cap:Nat} {ao:Option Addr} {L:List α} (h:iA enc s t w base (.slice ao n cap) L):SlF s w ao n cap (flat enc L):=by
 obtain⟨a,c,e,hs⟩:=h.sl;simp only[Value.slice.injEq]at e;obtain⟨rfl,h1,rfl⟩:=e;rw[h1];exact hs
theorem cU {w:World} {g:Nat} {x y z:Value} {t:TypeId} (h:w.heap[g]?=some (.cells #[x,y,z] t)):(∀o,w.frozen? ⟨g,o,none⟩=false):=by
 intro o;simp[World.frozen?,h]
theorem cL (w:World) (g:Nat) (x y z:Value) {q:Nat} (h:q≠g):(((w.setCell ⟨g,0,none⟩ x).setCell ⟨g,1,none⟩ y).setCell ⟨g,2,none⟩ z).heap[q]?=w.heap[q]? :=by
 simp[World.setCell,Array.getElem?_modify,Ne.symm h]
def kH:Vd:=⟨none,0,0,none,0,0,none,0,0⟩
theorem uG {w:World} {base:Nat} {v:Value} {T:List ByteArray} (h:D3 w base v T):∃ao cap,v= .slice ao T.length cap/\SlS w ao T.length cap T:=Sl.of_own h
def mL (R:List Rw) (S:List Sp):Prop:=bG R S/\May (cR R S)
open Go.RowKit Go.Sort
theorem dL {α:Type} {enc:α->List Value} {s:Nat} (hs:∀x,(enc x).length=s):∀(L:List α) (k:Nat),flat enc (L.take k)=(flat enc L).take (k*s)
 | [],k=>by simp[flat]
 | y::L,0=>by simp[flat]
 | y::L,k+1=>by
  rw[xD,List.take_succ_cons,xD,dL hs L k];have e:(k+1)*s=(enc y).length+k*s:=by rw[hs,Nat.add_mul];omega
  rw[e,List.take_length_add_append]
theorem SlF.take {s:Nat} {w:World} {ao:Option Addr} {n cap:Nat} {xs:List Value} (h:SlF s w ao n cap xs) {k:Nat} (hk:k<=n):SlF s w ao k cap (xs.take (k*s)):=by
 have hl:=h.len;refine⟨by rw[List.length_take,hl];exact Nat.min_eq_left (Nat.mul_le_mul_right s hk),by have:=h.le;omega,h.max,h.nil,fun i u hu=> ?_⟩;rw[List.getElem?_take]at hu;split at hu
 ·exact h.at_ i u hu
 ·cases hu
theorem cC {α:Type} {enc:α->List Value} {s:Nat} {e:TypeId} {P:Program} {w:World} {ops:Array Oper} {rest:List Oper} {o:Oper} {a:Act} {Q:Exit->Act->World->Prop} (hgd:o.guard= .none) (t:TypeId) (x l:Operand)
  (ho:o.op= .slice t x .none (some l) .none) (i:TypeInfo) (ht:P.underlying t=some (.slice e)) (hi:P.info? e=some i) (hs:∀x,(enc x).length=s)
  {ao:Option Addr} {n cap:Nat} {L:List α} (hx:a.eval x= .slice ao n cap) (hS:SlF s w ao n cap (flat enc L)) {kl:IntKind} {K:Int} {k:Nat} (hl:a.eval l= .int kl K) (hL:K=(k:Int)) (hk:k<=n)
  (h:SlF s w ao k cap (flat enc (L.take k))->wpList P ops Q rest (a.put o.dst (.slice ao k cap)) w):wpList P ops Q (o::rest) a w:=by
 subst hL;have hle:=hS.le;refine mE hgd (v:= .slice ao k cap) (w':=w) ?_ (h (by rw[dL hs];exact hS.take hk))
 have hr:=tA ht hi w ao n cap .none (some (.int kl k)) 0 k (fun w=>by simp[Instr.sliceBounds,run_sliceBound,Nat.le_trans hk hle]);simp only[execOp,ho,hx,hl,Option.map_some,Option.map_none,Sem.run_bind,hr,Result.andThen_ok,Sem.run_pure,Nat.zero_mul];congr 3
 cases ao<;>simp[Addr.add]
theorem aCI (a b:Mg) (w:World):
  Calls Tryz.prog 144 #[.agg #[.int .i64 a.left, .int .i64 a.right, .int .i64 a.out, .int .i64 a.order], .agg #[.int .i64 b.left, .int .i64 b.right, .int .i64 b.out, .int .i64 b.order]] w
   fun e w'=>e= .returned (.bool (iB a b))/\∃q os,w'=grow (w.drewN q) os:=by
 obtain⟨w1,hw1⟩:∃w1,w.alloc (.cells #[.int .i64 a.left, .int .i64 a.right, .int .i64 a.out, .int .i64 a.order] 170)=w1:=⟨_,rfl⟩;obtain⟨w2,hw2⟩:∃w2,w1.alloc (.cells #[.int .i64 b.left, .int .i64 b.right, .int .i64 b.out, .int .i64 b.order] 170)=w2:=⟨_,rfl⟩;have hb1:Below w.heap.size w w1:=hw1▸aA w _;have hb2:Below w1.heap.size w1 w2:=hw2▸aA w1 _;have hs1:w1.heap.size=w.heap.size+1:=by rw[<-hw1];simp
 have ha1:w1.heap[w.heap.size]?=some (.cells #[.int .i64 a.left, .int .i64 a.right, .int .i64 a.out, .int .i64 a.order] 170):=by rw[<-hw1];exact heap_alloc_new w _
 have ha2:=(hb2.block w.heap.size (by omega)).trans ha1;have hbb:w2.heap[w1.heap.size]?=some (.cells #[.int .i64 b.left, .int .i64 b.right, .int .i64 b.out, .int .i64 b.order] 170):=by rw[<-hw2];exact heap_alloc_new w1 _
 obtain⟨a0,a1,_,a3⟩:=fH ha2;obtain⟨b0,b1,_,b3⟩:=fH hbb;have HG:Hid (∃q os,w2=grow (w.drewN q) os):=hW_ ⟨0,#[.cells #[.int .i64 a.left, .int .i64 a.right, .int .i64 a.out, .int .i64 a.order] 170, .cells #[.int .i64 b.left, .int .i64 b.right, .int .i64 b.out, .int .i64 b.order] 170],by
  rw[<-hw2,<-hw1,alloc_eq_grow,alloc_eq_grow,grow_grow];rfl⟩
 have H1:=hW_ hw1;have H2:=hW_ hw2;have hq:iB a b=decide (a.order<b.order\/(a.order=b.order/\(a.left<b.left\/(a.left=b.left/\a.right<b.right)))):=rfl;have HQ:=hW_ hq;rw[hs1]at b0 b1 b3;clear hb1 hb2 hs1 ha1 ha2 hbb hw1 hw2 hq
 by_cases ho:a.order=b.order
 ·have n1:(a.order != b.order)=false:=by simpa using ho
  by_cases hl:a.left=b.left
  ·have n2:(a.left != b.left)=false:=by simpa using hl
   have HF:Hid (iB a b=decide (a.right<b.right)):=hW_ (by rw[HQ.out];simp[ho,hl]);clear ho hl;go_enter Tryz.func144,Tryz.ntmps144;go_wp2_with (fail);rw[H1.out,H2.out];go_ret;exact⟨sA HF.out.symm,HG.out⟩
  ·have n2:(a.left != b.left)=true:=by simpa using hl
   have HF:Hid (iB a b=decide (a.left<b.left)):=hW_ (by rw[HQ.out];simp[ho,hl]);clear ho hl;go_enter Tryz.func144,Tryz.ntmps144;go_wp2_with (fail);rw[H1.out,H2.out];go_ret;exact⟨sA HF.out.symm,HG.out⟩
 ·have n1:(a.order != b.order)=true:=by simpa using ho
  have HF:Hid (iB a b=decide (a.order<b.order)):=hW_ (by rw[HQ.out];simp[ho]);clear ho;go_enter Tryz.func144,Tryz.ntmps144;go_wp2_with (fail);rw[H1.out,H2.out];go_ret;exact⟨sA HF.out.symm,HG.out⟩
def lL (M:List Mg):Prop:=M.Pairwise (fun a b=>iB b a=false)
def PutPost (M:List Mg) (m:Mg) (w:World) (e:Ending) (w':World):Prop:=
 (∃v M',e= .returned v/\iA Mg.enc 4 170 w' w.heap.size v M'/\M'.Perm (M++ [m])/\(lL M->lL M'))/\Below w.heap.size w w'
theorem xP {M:List Mg} {m:Mg} {k:Nat} (h1:∀j,j<k->iB (mg M j) m=true) (hk:k<=M.length) (h2:k=M.length\/iB (mg M k) m=false) (hs:lL M):lL (M.take k++m::M.drop k):=by
 refine dS (lt:=iB) (fun a b c=>gO) hs (fun j x hj hx=> ?_) (fun x hx=> ?_)
 ·rw[F2 (by omega)]at hx;simp only[Option.some.injEq]at hx;subst hx;exact zS _ _ (h1 j hj)
 ·rcases h2 with rfl | h2
  ·rw[List.getElem?_eq_none (Nat.le_refl _)]at hx;cases hx
  ·have hlt:=(List.getElem?_eq_some_iff.1 hx).1;rw[F2 hlt]at hx;simp only[Option.some.injEq]at hx;subst hx;exact h2
theorem aAK {M:List Mg} {mo:Option Addr} {mn mc:Nat} (l r o d:Int) (w:World) (hM:SlF 4 w mo mn mc (flat Mg.enc M)) (hn:mn<=300000):
  Calls Tryz.prog 107 #[.slice mo mn mc, .agg #[.int .i64 l, .int .i64 r, .int .i64 o, .int .i64 d]] w (PutPost M ⟨l,r,o,d⟩ w):=by
 obtain⟨i0,z0,hi,hz0,hz1,hz2,hz3⟩:=B6 infoMg;obtain⟨w0,hw0⟩:∃w0,w.alloc (.cells #[.int .i64 l, .int .i64 r, .int .i64 o, .int .i64 d] 170)=w0:=⟨_,rfl⟩;have hb0:Below w.heap.size w w0:=hw0▸aA w _;have hx0:w0.heap[w.heap.size]?=some (.cells #[.int .i64 l, .int .i64 r, .int .i64 o, .int .i64 d] 170):=by rw[<-hw0];exact heap_alloc_new w _
 have hs0:w.heap.size<w0.heap.size:=by rw[<-hw0];simp
 have HM:=hW_ (hM.below hb0);have HLM:=hW_ (hM.count Mg.enc_len (by omega));have HB0:=hW_ hb0;have HX0:=hW_ hx0;have HW0:=hW_ hw0;clear hM hb0 hx0 hw0;go_enter Tryz.func107,Tryz.ntmps107;go_wp2_with (fail);rw[HW0.out];go_loopw [5] (fun i wr=>∃k:Nat,k<=mn/\i= .int .i64 k/\Hid (∀j,j<k->iB (mg M j) ⟨l,r,o,d⟩=true)/\Below w0.heap.size w0 wr) (fun i _=>mn-(intOf i).toNat)
 case atStart=>exact⟨0,Nat.zero_le _,rfl,hW_ (fun j h=>by omega),Below.refl _ _⟩
 case round=>
  obtain⟨k,hk,rfl,HK,hb⟩:=hrel;have HB:=hW_ hb;have hbx:=(hb.block w.heap.size hs0).trans HX0.out;have hlt2:w.heap.size<wr.heap.size:=(Array.getElem?_eq_some_iff.1 hbx).1;obtain⟨b0,b1,b2,b3⟩:=fH hbx;clear hb hbx;obtain⟨w1,rfl⟩:∃w1:World,w1=wr:=⟨_,rfl⟩
  by_cases hlt:k<mn
  ·have hkM:k<M.length:=by have:=HLM.out;omega
   obtain⟨⟨pl,pr,po,pd⟩,hpeq⟩:∃m,mg M k=m:=⟨_,rfl⟩;obtain⟨b,of,rfl,hcp⟩:=(HM.out.below HB.out).elem Mg.enc_len (by omega) (F2 hkM);rw[hpeq]at hcp;have p0:=hcp 0 _ rfl;have p1:=hcp 1 _ rfl;have p2:=hcp 2 _ rfl;have p3:=hcp 3 _ rfl;rw[Nat.add_zero]at p0;simp only at p0 p1 p2 p3;have hmix:=oD;have hlt1:b<w1.heap.size:=World.block_lt_of_cell? w1 _ p0;have r0:=cell_grown (w:=w1) hlt1 p0;have r1:=cell_grown (w:=w1) hlt1 p1;have r2:=cell_grown (w:=w1) hlt1 p2;have r3:=cell_grown (w:=w1) hlt1 p3;have t0:=cell_grown (w:=w1) hlt2 b0;have t1:=cell_grown (w:=w1) hlt2 b1;have t2:=cell_grown (w:=w1) hlt2 b2;have t3:=cell_grown (w:=w1) hlt2 b3;have l1:=fun n os=>ld4 (P:=Tryz.prog) (r0 n os) (r1 n os) (r2 n os) (r3 n os)
   have l2:=fun n os=>ld4 (P:=Tryz.prog) (t0 n os) (t1 n os) (t2 n os) (t3 n os)
   have hg0:decide ((k:Int)<(mn:Int))=true:=by simp;omega
   have hg2:decide (k<mn)=true:=by simpa using hlt
   have hah:=fun w=>aCI ⟨pl,pr,po,pd⟩ ⟨l,r,o,d⟩ w
   have HPE:=hW_ hpeq;clear hcp hpeq hkM
   cases hal:iB ⟨pl,pr,po,pd⟩ ⟨l,r,o,d⟩with
   | true=>
    rw[hal]at hah;have HK2:Hid (∀j,j<k+1->iB (mg M j) ⟨l,r,o,d⟩=true):=hW_ (fun j hj=>by
     by_cases e:j=k
     ·subst e;rw[HPE.out];exact hal
     ·exact HK.out j (by omega))
    clear hal;go_wp2_with (fail);refine wp_region_quiet_grown (by assumption) (by kernel_rfl) ?_
    repeat (any_goals (first | go_big_quiet_step ((go_at_call 144;exact Calls.grown_of (hah _))) | quiet_step ((go_at_call 144;exact Calls.grown_of (hah _)))))
    refine wpQuiet_nil ?_
    intro _ hw';obtain⟨⟨nq2,osq2⟩,hw''⟩:=hw';subst hw'';go_wp2_with (fail);go_roundw
    case rel=>exact⟨k+1,by omega,by go_num,HK2,HB.out.trans ((oE _ _ _).mono HB.out.size)⟩
    case measure=>simp[intOf];omega
   | false=>
    rw[hal]at hah;have HST:Hid (k=M.length\/iB (mg M k) ⟨l,r,o,d⟩=false):=hW_ (.inr (by rw[HPE.out];exact hal));clear hal;go_wp2_with (fail);refine wp_region_quiet_grown (by assumption) (by kernel_rfl) ?_
    repeat (any_goals (first | go_big_quiet_step ((go_at_call 144;exact Calls.grown_of (hah _))) | quiet_step ((go_at_call 144;exact Calls.grown_of (hah _)))))
    refine wpQuiet_nil ?_
    intro _ hw';obtain⟨⟨nq2,osq2⟩,hw''⟩:=hw';subst hw'';have HBQ:Hid (Below w0.heap.size w0 (grow (w1.drewN nq2) osq2)):=hW_ (HB.out.trans ((oE _ _ _).mono HB.out.size));have HSO:=hW_ (xP HK.out (by have:=HLM.out;omega) HST.out);have HLT:Hid ((M.take k).length=k):=hW_ (by rw[List.length_take,HLM.out];omega);have hbz:=HBQ.out.block w.heap.size hs0;obtain⟨wq,hwq⟩:∃wq,(grow (w1.drewN nq2) osq2)=wq:=⟨_,rfl⟩;rw[hwq]at HBQ hbz |-;clear hwq;have HBX:=hW_ (hbz.trans HX0.out);clear hbz;have HMa:Hid (SlF 4 (wq.alloc (.cells #[] 170)) (some ⟨b,of,none⟩) mn mc (flat Mg.enc M)):=hW_ ((HM.out.below HBQ.out).alloc _);have HOa:Hid (iA Mg.enc 4 170 (wq.alloc (.cells #[] 170)) wq.heap.size (.slice (some ⟨wq.heap.size,0,none⟩) 0 0) []):=hW_ (iA.made0 wq);go_wp2_with (first
     | (refine cC (enc:=Mg.enc) rfl _ _ _ rfl i0 Tryz.underlying23 hi Mg.enc_len rfl HMa.out rfl (k:=k) rfl (by omega) ?_;intro hs1)
     | (at_builtin;go_loud (refine kA rfl _ _ 23 rfl i0 z0 32 Tryz.underlying23 hi hz0 hz1 hz2 hz3 Mg.enc_len (by omega) Mg.enc_one rfl HOa.out rfl hs1 (by unfold maxLen;simp only[List.length_nil];omega) (by simp only[List.length_nil];omega) (by simp) ?_)))
    intro v1 wb ho1 hg1 hb1;have hb1':=(aA wq (.cells #[] 170)).trans hb1;have HB1:=hW_ hb1';have hlq:w.heap.size<wq.heap.size:=(Array.getElem?_eq_some_iff.1 HBX.out).1;obtain⟨b0,b1,b2,b3⟩:=fH ((hb1'.block w.heap.size hlq).trans HBX.out);have HOb:Hid (iA Mg.enc 4 170 (wb.alloc (.cells #[.int .i64 l, .int .i64 r, .int .i64 o, .int .i64 d] 170)) wq.heap.size v1 (M.take k)):=hW_ (ho1.alloc _);have HSb:Hid (SlF 4 (wb.alloc (.cells #[.int .i64 l, .int .i64 r, .int .i64 o, .int .i64 d] 170)) (some ⟨wb.heap.size,0,none⟩) 1 1 (flat Mg.enc [⟨l,r,o,d⟩])):=hW_ (SlF.one Mg.enc_len wb ⟨l,r,o,d⟩ 170 (cs:=#[.int .i64 l, .int .i64 r, .int .i64 o, .int .i64 d]) rfl);have HSZ:Hid (wq.heap.size<=wb.heap.size):=hW_ hb1'.size;clear ho1 hg1 hb1 hb1' hlq;go_wp2_with (at_builtin;go_loud (refine kA rfl _ _ 23 rfl i0 z0 32 Tryz.underlying23 hi hz0 hz1 hz2 hz3 Mg.enc_len (by omega) Mg.enc_one rfl HOb.out rfl HSb.out (by have:=HLT.out;unfold maxLen;omega) (by have:=HLT.out;omega) (by have:=HSZ.out;simp;omega) ?_));intro v2 wc ho2 hg2 hb2;have hb2':=(HB1.out.alloc HB1.out.size _).trans hb2;have HB2:=hW_ hb2';have HMc:Hid (SlF 4 wc (some ⟨b,of,none⟩) mn mc (flat Mg.enc M)):=hW_ ((HM.out.below HBQ.out).below hb2');have HOc:=hW_ ho2;have HSZ2:Hid (wq.heap.size<=wc.heap.size):=hW_ hb2'.size;clear ho2 hg2 hb2 hb2' b0 b1 b2 b3;go_wp2_with (first
     | (refine iC (enc:=Mg.enc) rfl _ _ _ rfl i0 Tryz.underlying23 hi hz1 Mg.enc_len rfl HMc.out rfl (k:=k) rfl (by omega) ?_;intro ao' hs3 hao3)
     | (at_builtin;go_loud (refine kA rfl _ _ 23 rfl i0 z0 32 Tryz.underlying23 hi hz0 hz1 hz2 hz3 Mg.enc_len (by omega) Mg.enc_one rfl HOc.out rfl hs3 (by have:=HLT.out;unfold maxLen;rw[List.length_append];simp only[List.length_singleton];omega) (by have:=HLT.out;rw[List.length_append];simp only[List.length_singleton];omega) HSZ2.out ?_)))
    intro v3 wd ho3 hg3 hb3;have HO3:=hW_ (ho3.mono (Nat.le_trans HB0.out.size HBQ.out.size));have HB3:=hW_ (HB0.out.trans ((HBQ.out.trans ((HB2.out.trans hb3).mono HBQ.out.size)).mono HB0.out.size));clear ho3 hg3 hb3;go_wp2_with (fail);go_ret;exact⟨⟨v3,_,rfl,HO3.out,N6 M _ k,HSO.out⟩,HB3.out⟩
  ·obtain rfl:k=mn:=by omega
   have HST:Hid (k=M.length\/iB (mg M k) ⟨l,r,o,d⟩=false):=hW_ (.inl HLM.out.symm);have hmix:=oD;have hg0:decide ((k:Int)<(k:Int))=false:=by simp
   have hg2:decide (k<k)=false:=by simp
   have hah:=fun w=>aCI ⟨0,0,0,0⟩ ⟨l,r,o,d⟩ w
   go_wp2_with (fail);refine wp_region_quiet_grown (by assumption) (by kernel_rfl) ?_
   repeat (any_goals (first | go_big_quiet_step ((go_at_call 144;exact Calls.grown_of (hah _))) | quiet_step ((go_at_call 144;exact Calls.grown_of (hah _)))))
   refine wpQuiet_nil ?_
   intro _ hw';obtain⟨⟨nq2,osq2⟩,hw''⟩:=hw';subst hw'';have HBQ:Hid (Below w0.heap.size w0 (grow (w1.drewN nq2) osq2)):=hW_ (HB.out.trans ((oE _ _ _).mono HB.out.size));have HSO:=hW_ (xP HK.out (by have:=HLM.out;omega) HST.out);have HLT:Hid ((M.take k).length=k):=hW_ (by rw[List.length_take,HLM.out];omega);have hbz:=HBQ.out.block w.heap.size hs0;obtain⟨wq,hwq⟩:∃wq,(grow (w1.drewN nq2) osq2)=wq:=⟨_,rfl⟩;rw[hwq]at HBQ hbz |-;clear hwq;have HBX:=hW_ (hbz.trans HX0.out);clear hbz;have HMa:Hid (SlF 4 (wq.alloc (.cells #[] 170)) mo k mc (flat Mg.enc M)):=hW_ ((HM.out.below HBQ.out).alloc _);have HOa:Hid (iA Mg.enc 4 170 (wq.alloc (.cells #[] 170)) wq.heap.size (.slice (some ⟨wq.heap.size,0,none⟩) 0 0) []):=hW_ (iA.made0 wq);go_wp2_with (first
    | (refine cC (enc:=Mg.enc) rfl _ _ _ rfl i0 Tryz.underlying23 hi Mg.enc_len rfl HMa.out rfl (k:=k) rfl (by omega) ?_;intro hs1)
    | (at_builtin;go_loud (refine kA rfl _ _ 23 rfl i0 z0 32 Tryz.underlying23 hi hz0 hz1 hz2 hz3 Mg.enc_len (by omega) Mg.enc_one rfl HOa.out rfl hs1 (by unfold maxLen;simp only[List.length_nil];omega) (by simp only[List.length_nil];omega) (by simp) ?_)))
   intro v1 wb ho1 hg1 hb1;have hb1':=(aA wq (.cells #[] 170)).trans hb1;have HB1:=hW_ hb1';have hlq:w.heap.size<wq.heap.size:=(Array.getElem?_eq_some_iff.1 HBX.out).1;obtain⟨b0,b1,b2,b3⟩:=fH ((hb1'.block w.heap.size hlq).trans HBX.out);have HOb:Hid (iA Mg.enc 4 170 (wb.alloc (.cells #[.int .i64 l, .int .i64 r, .int .i64 o, .int .i64 d] 170)) wq.heap.size v1 (M.take k)):=hW_ (ho1.alloc _);have HSb:Hid (SlF 4 (wb.alloc (.cells #[.int .i64 l, .int .i64 r, .int .i64 o, .int .i64 d] 170)) (some ⟨wb.heap.size,0,none⟩) 1 1 (flat Mg.enc [⟨l,r,o,d⟩])):=hW_ (SlF.one Mg.enc_len wb ⟨l,r,o,d⟩ 170 (cs:=#[.int .i64 l, .int .i64 r, .int .i64 o, .int .i64 d]) rfl);have HSZ:Hid (wq.heap.size<=wb.heap.size):=hW_ hb1'.size;clear ho1 hg1 hb1 hb1' hlq;go_wp2_with (at_builtin;go_loud (refine kA rfl _ _ 23 rfl i0 z0 32 Tryz.underlying23 hi hz0 hz1 hz2 hz3 Mg.enc_len (by omega) Mg.enc_one rfl HOb.out rfl HSb.out (by have:=HLT.out;unfold maxLen;omega) (by have:=HLT.out;omega) (by have:=HSZ.out;simp;omega) ?_));intro v2 wc ho2 hg2 hb2;have hb2':=(HB1.out.alloc HB1.out.size _).trans hb2;have HB2:=hW_ hb2';have HMc:Hid (SlF 4 wc mo k mc (flat Mg.enc M)):=hW_ ((HM.out.below HBQ.out).below hb2');have HOc:=hW_ ho2;have HSZ2:Hid (wq.heap.size<=wc.heap.size):=hW_ hb2'.size;clear ho2 hg2 hb2 hb2' b0 b1 b2 b3;go_wp2_with (first
    | (refine iC (enc:=Mg.enc) rfl _ _ _ rfl i0 Tryz.underlying23 hi hz1 Mg.enc_len rfl HMc.out rfl (k:=k) rfl (by omega) ?_;intro ao' hs3 hao3)
    | (at_builtin;go_loud (refine kA rfl _ _ 23 rfl i0 z0 32 Tryz.underlying23 hi hz0 hz1 hz2 hz3 Mg.enc_len (by omega) Mg.enc_one rfl HOc.out rfl hs3 (by have:=HLT.out;unfold maxLen;rw[List.length_append];simp only[List.length_singleton];omega) (by have:=HLT.out;rw[List.length_append];simp only[List.length_singleton];omega) HSZ2.out ?_)))
   intro v3 wd ho3 hg3 hb3;have HO3:=hW_ (ho3.mono (Nat.le_trans HB0.out.size HBQ.out.size));have HB3:=hW_ (HB0.out.trans ((HBQ.out.trans ((HB2.out.trans hb3).mono HBQ.out.size)).mono HB0.out.size));clear ho3 hg3 hb3;go_wp2_with (fail);go_ret;exact⟨⟨v3,_,rfl,HO3.out,N6 M _ k,HSO.out⟩,HB3.out⟩
end Go.Proofs.YtahiballegpbgaaGreatDoor
