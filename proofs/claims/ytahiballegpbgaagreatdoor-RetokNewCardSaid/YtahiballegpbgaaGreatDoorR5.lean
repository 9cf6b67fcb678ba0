/- Walks: may specials be? (Printed by gSp.py.) -/
import Derived.Test.YtahiballegpbgaaGreatDoorR4
set_option linter.unusedVariables false
set_option maxHeartbeats 4000000
set_option maxRecDepth 100000
namespace Go.Proofs.YtahiballegpbgaaGreatDoor
open Go.RowKit
def sp (S:List Sp) (i:Nat):Sp:=S.getD i ⟨ByteArray.empty,0⟩
theorem mD {S:List Sp} {i:Nat} (h:i<S.length):S[i]?=some (sp S i):=by simp[sp,List.getD,h]
theorem D7 {S:List Sp} {i:Nat} (h:i<S.length):S[i]=sp S i:=by simp[sp,List.getD,h]
theorem B1 {s:ByteArray} (hs:s.size<=maxLen) (h:aC s) (w:World):Calls Tryz.prog 213 #[.string s] w fun e w'=>e= .returned (.bool true)/\w'=w:=
 (bM s hs w).mono fun e w' ⟨⟨b,h1,h2⟩,h3⟩=>⟨by rw[h1,h2.2 h],h3.symm⟩
theorem aBb {s:ByteArray} (hs:s.size<=maxLen) (h:¬aC s) (w:World):Calls Tryz.prog 213 #[.string s] w fun e w'=>e= .returned (.bool false)/\w'=w:=
 (bM s hs w).mono fun e w' ⟨⟨b,h1,h2⟩,h3⟩=>⟨by cases b with | false=>exact h1 | true=>exact absurd (h2.1 rfl) h,h3.symm⟩
structure K7 (T:List ByteArray) (S:List Sp) (k:Nat):Prop where
 ok:∀j,j<k->eU T (sp S j)
 rise:∀j,j+1<k->vA (sp S j).name (sp S (j+1)).name=true
 ids:∀i j,i<j->j<k->(sp S i).id≠(sp S j).id
theorem K7.zero (T:List ByteArray) (S:List Sp):K7 T S 0:=⟨fun j h=>by omega,fun j h=>by omega,fun i j _ h=>by omega⟩
theorem K7.next {T:List ByteArray} {S:List Sp} {k:Nat} (h:K7 T S k) (h1:eU T (sp S k)) (h2:0<k->vA (sp S (k-1)).name (sp S k).name=true) (h3:∀i,i<k->(sp S i).id≠(sp S k).id):K7 T S (k+1):=by
 refine⟨fun j hj=> ?_,fun j hj=> ?_,fun i j hi hj=> ?_⟩
 ·by_cases e:j=k
  ·subst e;exact h1
  ·exact h.ok j (by omega)
 ·by_cases e:j+1=k
  ·subst e;have:=h2 (by omega);simpa using this
  ·exact h.rise j (by omega)
 ·by_cases e:j=k
  ·subst e;exact h3 i hi
  ·exact h.ids i j hi (by omega)
theorem K7.all {T:List ByteArray} {S:List Sp} {k n:Nat} (h:K7 T S k) (hl:S.length=n) (hk:k<=n) (hk2:¬k<n) (hn:n<=16):cF T S:=by
 obtain rfl:k=n:=by omega
 refine⟨by omega,fun m hm=> ?_,?_⟩
 ·obtain⟨i,hi,rfl⟩:=List.getElem_of_mem hm;rw[D7 hi];exact h.ok i (by omega)
 ·have hr:S.Pairwise (fun a b=>vA a.name b.name=true):=nF (l:=S) (R:=fun a b=>vA a.name b.name=true) (fun a b c h1 h2=>aK (a:=a.name) (b:=b.name) (c:=c.name) h1 h2) (fun i a b ha hb=>by
   have h1:=(List.getElem?_eq_some_iff.1 ha).1;have h2:=(List.getElem?_eq_some_iff.1 hb).1;rw[mD h1]at ha;rw[mD h2]at hb
   cases ha;cases hb
   exact h.rise i (by omega))
  rw[List.pairwise_iff_getElem]at hr |-;intro i j hi hj hij;refine⟨hr i j hi hj hij,?_⟩;rw[D7 hi,D7 hj];exact h.ids i j hij (by omega)
theorem cF.ok {T:List ByteArray} {S:List Sp} (h:cF T S) {k:Nat} (hk:k<S.length):eU T (sp S k):=by
 rw[<-D7 hk];exact h.2.1 _ (List.getElem_mem _)
theorem cF.pair {T:List ByteArray} {S:List Sp} (h:cF T S) {i j:Nat} (hi:i<j) (hj:j<S.length):vA (sp S i).name (sp S j).name=true/\(sp S i).id≠(sp S j).id:=by
 have:=(List.pairwise_iff_getElem.1 h.2.2) i j (by omega) hj hi;rw[D7 hj,D7 (by omega)]at this;exact this
theorem L4 {T:List ByteArray} {S:List Sp} (h:16<S.length):(false=true↔cF T S):=⟨(fun h=>by cases h),fun h2=>by have:=h2.1;omega⟩
theorem B0 {T:List ByteArray} {S:List Sp} {k:Nat} (hk:k<S.length) (h:¬eU T (sp S k)):(false=true↔cF T S):=⟨(fun h=>by cases h),fun h2=>absurd (h2.ok hk) h⟩
theorem L1 {T:List ByteArray} {S:List Sp} {i k:Nat} (hi:i<k) (hk:k<S.length) (h:vA (sp S i).name (sp S k).name=false):(false=true↔cF T S):=⟨(fun h=>by cases h),fun h2=>by have:=(h2.pair hi hk).1;rw[h]at this;cases this⟩
theorem kK {T:List ByteArray} {S:List Sp} {i k:Nat} (hi:i<k) (hk:k<S.length) (h:(sp S i).id=(sp S k).id):(false=true↔cF T S):=⟨(fun h=>by cases h),fun h2=>absurd h (h2.pair hi hk).2⟩
def nV (T:List ByteArray) (S:List Sp) (w:World) (e:Ending) (w':World):Prop:=(∃b,e= .returned (.bool b)/\(b=true↔cF T S))/\Below w.heap.size w w'
def I4 (S:List Sp) (k:Nat) (f:Int->Option Int):Prop:=∀p c,f p=some c↔c=1/\∃j,j<k/\(sp S j).id=p
theorem I4.zero (S:List Sp):I4 S 0 (fun _=>none):=fun p c=>⟨(fun h=>by cases h),fun⟨_,j,hj,_⟩=>by omega⟩
theorem I4.next {S:List Sp} {k:Nat} {f:Int->Option Int} (h:I4 S k f):I4 S (k+1) (fun t=>if t=(sp S k).id then some 1 else f t):=fun p c=>by
 show(if p=(sp S k).id then some 1 else f p)=some c↔_
 by_cases e:p=(sp S k).id
 ·rw[if_pos e];constructor
  ·intro hc;simp at hc;exact⟨hc.symm,k,by omega,e.symm⟩
  ·rintro⟨hc,_⟩;rw[hc]
 ·rw[if_neg e,h p c];constructor
  ·rintro⟨hc,j,hj,he⟩;exact⟨hc,j,by omega,he⟩
  ·rintro⟨hc,j,hj,he⟩;have:j≠k:=fun ej=>e (by rw[<-he,ej])
   exact⟨hc,j,by omega,he⟩
theorem I4.yes {S:List Sp} {k:Nat} {f:Int->Option Int} (h:I4 S k f) {c:Int} (hf:f (sp S k).id=some c):c=1/\∃i,i<k/\(sp S i).id=(sp S k).id:=by
 obtain⟨hc,j,hj,he⟩:=(h _ _).1 hf;exact⟨hc,j,hj,he⟩
theorem I4.no {S:List Sp} {k:Nat} {f:Int->Option Int} (h:I4 S k f) (hf:f (sp S k).id=none):∀i,i<k->(sp S i).id≠(sp S k).id:=fun i hi e=>by
 have:f (sp S k).id=some 1:=(h _ _).2 ⟨rfl,i,hi,e⟩;rw[hf]at this;cases this
def lO (S:List Sp):Prop:=∀s∈S,s.name.size<=maxLen
theorem wN {T:List ByteArray} {S:List Sp} {ao so:Option Addr} {tn c sn sc:Nat} (w:World) (hT:SlS w ao tn c T) (hS:SlF 2 w so sn sc (flat Sp.enc S)) (hsz:lO S) (hn:sn<=1048576):
  Calls Tryz.prog 183 #[.slice ao tn c, .slice so sn sc] w (nV T S w):=by
 have hm:=Nat.le_trans (Sl.le hT) (Sl.max hT);have hmm:=Nat.le_trans hS.le hS.max;unfold maxLen at hm hmm;have hlen:=hW_ hT.count;have hlenS:=hW_ (hS.count Sp.enc_len (by omega));have hmk:=@run_makeMap Tryz.prog;have HT:=hW_ hT;have HSS:=hW_ hS;have HSZ:=hW_ hsz;have H0:=hW_ (A0.new VI 3 w);have HB0:=hW_ (aA w (.map #[] 0));clear hT hS hsz;go_enter Tryz.func183,Tryz.ntmps183;go_wp2_with (fail);go_loopw [6,7,11] (fun _ _ i wr=>∃(k sz:Nat) (f:Int->Option Int),k<=sn/\i= .int .i64 k/\sz<=k/\MapI wr w.heap.size sz f/\Hid (I4 S k f)/\Hid (K7 T S k)/\Below w.heap.size w wr) (fun _ _ i _=>sn-(intOf i).toNat)
 case atStart=>exact⟨0,0,_,Nat.zero_le _,rfl,Nat.le_refl _,H0.out,hW_ (I4.zero S),hW_ (K7.zero T S),HB0.out⟩
 case round=>
  obtain⟨k,sz,f,hk,rfl,hszk,hmap,HS,HG,hb⟩:=hrel;have HMp:=hW_ hmap;have HB:=hW_ hb;clear hmap hb
  by_cases hlt:k<sn
  ·have hkS:k<S.length:=by have:=hlenS.out;omega
   obtain⟨b,of,rfl,hce⟩:=(HSS.out.below HB.out).elem Sp.enc_len (by omega) (mD hkS);have HNS0:=hW_ (HSZ.out _ (List.mem_of_getElem? (mD hkS)));obtain⟨⟨nm,id⟩,hseq⟩:∃m,sp S k=m:=⟨_,rfl⟩;have HNS:Hid (nm.size<=maxLen):=hW_ (by have:=HNS0.out;rw[hseq]at this;exact this);rw[hseq]at hce;have d0:=hce 0 _ rfl;have d1:=hce 1 _ rfl;rw[Nat.add_zero]at d0;simp only at d0 d1;have HSK:=hW_ hseq;have hwb:=aA wr (.cells #[.string nm, .int .i64 id] 117);obtain⟨w1,hw1⟩:∃w1,wr.alloc (.cells #[.string nm, .int .i64 id] 117)=w1:=⟨_,rfl⟩;rw[hw1]at hwb;have HB1:=hW_ (HB.out.trans (hwb.mono HB.out.size));have HT1:=hW_ (Sl.below HT.out HB1.out);have HM1:=hW_ (HMp.out.below hwb);have hbx:w1.heap[wr.heap.size]?=some (.cells #[.string nm, .int .i64 id] 117):=by rw[<-hw1];exact heap_alloc_new wr _
   obtain⟨b0,b1⟩:=zH hbx;have HBX:=hW_ hbx;have HW1:=hW_ hw1;have d0':=eA hwb _ _ d0;clear hce hseq hbx hw1
   by_cases hnm:aC nm
   ·have HNM:=hW_ hnm;clear hnm
    by_cases hk0:k=0
    ·have hg00:decide ((0:Int)<(k:Int))=false:=by simp;omega
     have hg01:decide (0<k)=false:=by simp;omega
     have HK0:=hW_ hk0;clear hwb hk0
     by_cases hi0:id<0
     ·have hg:decide (id<0)=true:=by simpa using hi0
      have HF:=hW_ (B0 (T:=T) hkS (fun h=>by rw[HSK.out]at h;have:=h.2.1;simp only at this;omega));go_wp2_with (fail);rw[HW1.out];go_quiet ((go_at_call 213;exact Calls.quiet_of_same (B1 HNS.out HNM.out _)));go_wp2_with (fail);go_ret;exact⟨⟨_,rfl,HF.out⟩,bA HB1.out _⟩
     have hg0:decide (id<0)=false:=by simpa using hi0
     by_cases hi1:(tn:Int)<=id
     ·have hg:decide ((tn:Int)<=id)=true:=by simpa using hi1
      have HF:=hW_ (B0 (T:=T) hkS (fun h=>by rw[HSK.out]at h;have:=h.2.2.1;have:=hlen.out;simp only at *;omega));go_wp2_with (fail);rw[HW1.out];go_quiet ((go_at_call 213;exact Calls.quiet_of_same (B1 HNS.out HNM.out _)));go_wp2_with (fail);go_ret;exact⟨⟨_,rfl,HF.out⟩,bA HB1.out _⟩
     have hg1:decide ((tn:Int)<=id)=false:=by simpa using hi1
     obtain⟨q,rfl⟩:=Int.eq_ofNat_of_zero_le (Int.not_lt.1 hi0);have hqT:q<T.length:=by have:=hlen.out;omega
     obtain⟨bt,ot,hao,hct⟩:=SlS.cell HT1.out (sB hqT);subst hao;have gq:(q:Int)<(tn:Int):=by omega
     have gq2:decide ((tn:Int)<=(q:Int))=false:=by simp;omega
     have gq3:decide ((q:Int)<0)=false:=by simp
     have gq4:decide (tn<=q)=false:=by simp;omega
     clear hg0 hg1
     by_cases hz:(tk T q).size=0
     ·obtain⟨e1,e2,e3⟩:=lD hz;have e4:((tk T q).toList != [])=false:=by simp[e1]
      have HZ:=hW_ hz;have hwq:(Lit.int .i64 (q:Int)).wf=true:=by rw[gC];omega
      have HWQ:=hW_ hwq;clear hz hwq;have HOK:Hid (eU T (sp S k)):=hW_ (by rw[HSK.out];exact⟨HNM.out,by simp only;omega,by simp only;omega,HZ.out⟩)
      cases hf:f (q:Int)with
      | some c=>
       obtain⟨hcc,i,hi,hnp⟩:=HS.out.yes (c:=c) (by rw[HSK.out];exact hf);subst hcc;have HF:=hW_ (kK (T:=T) hi hkS hnp);have hlk:∀m,(Instr.lookup 281 (.map (some w.heap.size)) (.int .i64 (q:Int)) false).run Tryz.prog (w1.drewN m)= .ok (.int .i64 1) (w1.drewN m):=fun m=>by
        have:=A0.get (V:=VI) (s:=(q:Int)) Tryz.underlying281 Tryz.underlying3 zE (HM1.out.drewN m) HWQ.out;rw[hf]at this;exact this
       clear hnp hf;go_wp2_with (fail);rw[HW1.out];go_quiet ((go_at_call 213;exact Calls.quiet_of_same (B1 HNS.out HNM.out _)));go_wp2_with (fail);go_ret;exact⟨⟨_,rfl,HF.out⟩,bA HB1.out _⟩
      | none=>
       have HNO:=hW_ (HS.out.no (by rw[HSK.out];exact hf));have hlk:∀m,(Instr.lookup 281 (.map (some w.heap.size)) (.int .i64 (q:Int)) false).run Tryz.prog (w1.drewN m)= .ok (.int .i64 0) (w1.drewN m):=fun m=>by
        have:=A0.get (V:=VI) (s:=(q:Int)) Tryz.underlying281 Tryz.underlying3 zE (HM1.out.drewN m) HWQ.out;rw[hf]at this;exact this
       have HSn:Hid (I4 S (k+1) (fun t=>if t=(q:Int)then some 1 else f t)):=hW_ (by have:=HS.out.next;rw[HSK.out]at this;exact this);have HGn:Hid (K7 T S (k+1)):=hW_ (HG.out.next HOK.out (fun h=>by have:=HK0.out;omega) HNO.out);clear hf;go_wp2_with (fail);rw[HW1.out];go_quiet ((go_at_call 213;exact Calls.quiet_of_same (B1 HNS.out HNM.out _)));go_wp2_with (with_reducible show wpList _ _ _ (⟨_, .mapUpdate _ _ _ _,_,_,_,_⟩::_) _ _;refine cI rfl _ _ _ rfl rfl (HM1.out.drewN _) rfl HWQ.out rfl (by decide) (by unfold maxLen;omega) ?_);intro w2 sz2 hsz2 hm2 hg2';have HM2:=hW_ hm2;have HB2:=hW_ ((bA HB1.out _).grown hg2' HB1.out.size fun q hq=>by simp at hq;omega);clear hm2 hg2';go_wp2_with (fail);go_roundw
       case rel=>exact⟨k+1,sz2,_,by omega,by go_num,by omega,HM2.out,HSn,HGn,HB2.out⟩
       case measure=>simp[intOf];omega
     ·obtain⟨e1,e2,e3⟩:=E2 hz;have e4:((tk T q).toList != [])=true:=by simp[e1]
      have HF:=hW_ (B0 (T:=T) hkS (fun h=>by rw[HSK.out]at h;exact hz h.2.2.2));clear hz;go_wp2_with (fail);rw[HW1.out];go_quiet ((go_at_call 213;exact Calls.quiet_of_same (B1 HNS.out HNM.out _)));go_wp2_with (fail);go_ret;exact⟨⟨_,rfl,HF.out⟩,bA HB1.out _⟩
    ·obtain⟨⟨pn,pid⟩,hpeq⟩:∃m,sp S (k-1)=m:=⟨_,rfl⟩;obtain⟨bp,op,hao,hcp⟩:=((HSS.out.below HB.out).below hwb).elem Sp.enc_len (by omega) (mD (S:=S) (i:=k-1) (by omega));simp at hao;obtain⟨rfl,rfl⟩:=hao;rw[hpeq]at hcp;have p0:=hcp 0 _ rfl;rw[Nat.add_zero]at p0;simp only at p0;have HPEQ:=hW_ hpeq;have hg00:decide ((0:Int)<(k:Int))=true:=by simp;omega
     have hg01:0<k:=by omega
     have hg02:decide (0<k)=true:=by simpa using hg01
     have e1':IntKind.i64.wrap ((k:Int)-1)=(k:Int)-1:=by rw[IntKind.wrap_i64];omega
     have e2':(0:Int)<=(k:Int)-1:=by omega
     have e3':(1:Int)<=(k:Int):=by omega
     have e4':(k:Int)-1<(sn:Int):=by omega
     have hkm:((k:Int)-1).toNat=k-1:=by omega
     clear hcp hpeq hwb
     cases hbl:Op.bytesLess pn.toList nm.toList with
     | false=>
      have HF:=hW_ (L1 (T:=T) (i:=k-1) (by omega) hkS (by rw[HPEQ.out,HSK.out];exact hbl));go_wp2_with (fail);rw[HW1.out];go_quiet ((go_at_call 213;exact Calls.quiet_of_same (B1 HNS.out HNM.out _)));go_wp2_with (fail);go_ret;exact⟨⟨_,rfl,HF.out⟩,bA HB1.out _⟩
     | true=>
      by_cases hi0:id<0
      ·have hg:decide (id<0)=true:=by simpa using hi0
       have HF:=hW_ (B0 (T:=T) hkS (fun h=>by rw[HSK.out]at h;have:=h.2.1;simp only at this;omega));go_wp2_with (fail);rw[HW1.out];go_quiet ((go_at_call 213;exact Calls.quiet_of_same (B1 HNS.out HNM.out _)));go_wp2_with (fail);go_ret;exact⟨⟨_,rfl,HF.out⟩,bA HB1.out _⟩
      have hg0:decide (id<0)=false:=by simpa using hi0
      by_cases hi1:(tn:Int)<=id
      ·have hg:decide ((tn:Int)<=id)=true:=by simpa using hi1
       have HF:=hW_ (B0 (T:=T) hkS (fun h=>by rw[HSK.out]at h;have:=h.2.2.1;have:=hlen.out;simp only at *;omega));go_wp2_with (fail);rw[HW1.out];go_quiet ((go_at_call 213;exact Calls.quiet_of_same (B1 HNS.out HNM.out _)));go_wp2_with (fail);go_ret;exact⟨⟨_,rfl,HF.out⟩,bA HB1.out _⟩
      have hg1:decide ((tn:Int)<=id)=false:=by simpa using hi1
      obtain⟨q,rfl⟩:=Int.eq_ofNat_of_zero_le (Int.not_lt.1 hi0);have hqT:q<T.length:=by have:=hlen.out;omega
      obtain⟨bt,ot,hao,hct⟩:=SlS.cell HT1.out (sB hqT);subst hao;have gq:(q:Int)<(tn:Int):=by omega
      have gq2:decide ((tn:Int)<=(q:Int))=false:=by simp;omega
      have gq3:decide ((q:Int)<0)=false:=by simp
      have gq4:decide (tn<=q)=false:=by simp;omega
      clear hg0 hg1
      by_cases hz:(tk T q).size=0
      ·obtain⟨e1,e2,e3⟩:=lD hz;have e4:((tk T q).toList != [])=false:=by simp[e1]
       have HZ:=hW_ hz;have hwq:(Lit.int .i64 (q:Int)).wf=true:=by rw[gC];omega
       have HWQ:=hW_ hwq;clear hz hwq;have HOK:Hid (eU T (sp S k)):=hW_ (by rw[HSK.out];exact⟨HNM.out,by simp only;omega,by simp only;omega,HZ.out⟩)
       cases hf:f (q:Int)with
       | some c=>
        obtain⟨hcc,i,hi,hnp⟩:=HS.out.yes (c:=c) (by rw[HSK.out];exact hf);subst hcc;have HF:=hW_ (kK (T:=T) hi hkS hnp);have hlk:∀m,(Instr.lookup 281 (.map (some w.heap.size)) (.int .i64 (q:Int)) false).run Tryz.prog (w1.drewN m)= .ok (.int .i64 1) (w1.drewN m):=fun m=>by
         have:=A0.get (V:=VI) (s:=(q:Int)) Tryz.underlying281 Tryz.underlying3 zE (HM1.out.drewN m) HWQ.out;rw[hf]at this;exact this
        clear hnp hf;go_wp2_with (fail);rw[HW1.out];go_quiet ((go_at_call 213;exact Calls.quiet_of_same (B1 HNS.out HNM.out _)));go_wp2_with (fail);go_ret;exact⟨⟨_,rfl,HF.out⟩,bA HB1.out _⟩
       | none=>
        have HNO:=hW_ (HS.out.no (by rw[HSK.out];exact hf));have hlk:∀m,(Instr.lookup 281 (.map (some w.heap.size)) (.int .i64 (q:Int)) false).run Tryz.prog (w1.drewN m)= .ok (.int .i64 0) (w1.drewN m):=fun m=>by
         have:=A0.get (V:=VI) (s:=(q:Int)) Tryz.underlying281 Tryz.underlying3 zE (HM1.out.drewN m) HWQ.out;rw[hf]at this;exact this
        have HSn:Hid (I4 S (k+1) (fun t=>if t=(q:Int)then some 1 else f t)):=hW_ (by have:=HS.out.next;rw[HSK.out]at this;exact this);have HGn:Hid (K7 T S (k+1)):=hW_ (HG.out.next HOK.out (fun _=>by rw[HPEQ.out,HSK.out];exact hbl) HNO.out);clear hf;go_wp2_with (fail);rw[HW1.out];go_quiet ((go_at_call 213;exact Calls.quiet_of_same (B1 HNS.out HNM.out _)));go_wp2_with (with_reducible show wpList _ _ _ (⟨_, .mapUpdate _ _ _ _,_,_,_,_⟩::_) _ _;refine cI rfl _ _ _ rfl rfl (HM1.out.drewN _) rfl HWQ.out rfl (by decide) (by unfold maxLen;omega) ?_);intro w2 sz2 hsz2 hm2 hg2';have HM2:=hW_ hm2;have HB2:=hW_ ((bA HB1.out _).grown hg2' HB1.out.size fun q hq=>by simp at hq;omega);clear hm2 hg2';go_wp2_with (fail);go_roundw
        case rel=>exact⟨k+1,sz2,_,by omega,by go_num,by omega,HM2.out,HSn,HGn,HB2.out⟩
        case measure=>simp[intOf];omega
      ·obtain⟨e1,e2,e3⟩:=E2 hz;have e4:((tk T q).toList != [])=true:=by simp[e1]
       have HF:=hW_ (B0 (T:=T) hkS (fun h=>by rw[HSK.out]at h;exact hz h.2.2.2));clear hz;go_wp2_with (fail);rw[HW1.out];go_quiet ((go_at_call 213;exact Calls.quiet_of_same (B1 HNS.out HNM.out _)));go_wp2_with (fail);go_ret;exact⟨⟨_,rfl,HF.out⟩,bA HB1.out _⟩
   ·have HNM:=hW_ hnm;have HF:=hW_ (B0 (T:=T) hkS (fun h=>by rw[HSK.out]at h;exact hnm h.1));clear hnm;go_wp2_with (fail);rw[HW1.out];go_quiet ((go_at_call 213;exact Calls.quiet_of_same (aBb HNS.out HNM.out _)));go_wp2_with (fail);go_ret;exact⟨⟨_,rfl,HF.out⟩,bA HB1.out _⟩
  ·by_cases h16:(sn:Int)<=16
   ·have h16':sn<=16:=by omega
    have HF:=hW_ (HG.out.all hlenS.out hk hlt (by omega));go_wp2_with (fail);go_ret;exact⟨⟨_,rfl,(fun _=>HF.out),(fun _=>by simp<;>omega)⟩,HB.out⟩
   ·have h16':¬sn<=16:=by omega
    have HF:=hW_ (L4 (T:=T) (S:=S) (by have:=hlenS.out;omega));go_wp2_with (fail);go_ret;exact⟨⟨_,rfl,by simpa[h16']using HF.out⟩,HB.out⟩
end Go.Proofs.YtahiballegpbgaaGreatDoor
