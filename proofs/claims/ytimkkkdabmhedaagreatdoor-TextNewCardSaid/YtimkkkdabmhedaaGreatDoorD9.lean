/- Walk: may specials be, by the document? (Printed by gSpR.py.) -/
import Derived.Test.YtimkkkdabmhedaaGreatDoorD8
import Derived.Test.YtimkkkdabmhedaaGreatDoorD1
set_option linter.unusedVariables false
set_option maxHeartbeats 4000000
set_option maxRecDepth 100000
namespace Go.Proofs.YtimkkkdabmhedaaGreatDoor
open Go.RowKit
theorem rmayName_yes {s:ByteArray} (hs:s.size≤maxLen) (h:MayName s) (w:World):Calls Tryz.prog 86 #[.string s] w fun e w'=>e= .returned (.bool true)∧w=w':=
 (rmayName_calls s hs w).mono fun e w' ⟨⟨b,h1,h2⟩,h3⟩=>⟨by rw[h1,h2.2 h],h3⟩
theorem rmayName_no {s:ByteArray} (hs:s.size≤maxLen) (h:¬MayName s) (w:World):Calls Tryz.prog 86 #[.string s] w fun e w'=>e= .returned (.bool false)∧w=w':=
 (rmayName_calls s hs w).mono fun e w' ⟨⟨b,h1,h2⟩,h3⟩=>⟨by cases b with | false=>exact h1 | true=>exact absurd (h2.1 rfl) h,h3⟩
structure GoodSR (T:List ByteArray) (S:List Sp) (k:Nat):Prop where
 ok:∀j,j<k→OkSp T (sp S j)
 pair:∀i j,i<j→j<k→sless (sp S i).name (sp S j).name=true∧(sp S i).id≠(sp S j).id
theorem GoodSR.zero (T:List ByteArray) (S:List Sp):GoodSR T S 0:=⟨fun j h=>by omega,fun i j _ h=>by omega⟩
def SpTo (S:List Sp) (k q:Nat):Prop:=∀i,i<q→sless (sp S i).name (sp S k).name=true∧(sp S i).id≠(sp S k).id
theorem SpTo.zero (S:List Sp) (k:Nat):SpTo S k 0:=fun i h=>by omega
theorem SpTo.next {S:List Sp} {k q:Nat} (h:SpTo S k q) (h1:sless (sp S q).name (sp S k).name=true) (h2:(sp S q).id≠(sp S k).id):SpTo S k (q+1):=fun i hi=>by
 by_cases e:i=q
 ·subst e;exact⟨h1,h2⟩
 ·exact h i (by omega)
theorem GoodSR.next {T:List ByteArray} {S:List Sp} {k q:Nat} (h:GoodSR T S k) (h1:OkSp T (sp S k)) (h2:SpTo S k q) (hq:q≤k) (hq2:¬q<k):GoodSR T S (k+1):=by
 obtain rfl:q=k:=by omega
 refine⟨fun j hj=> ?_,fun i j hi hj=> ?_⟩
 ·by_cases e:j=q
  ·subst e;exact h1
  ·exact h.ok j (by omega)
 ·by_cases e:j=q
  ·subst e;exact h2 i hi
  ·exact h.pair i j hi (by omega)
theorem GoodSR.all {T:List ByteArray} {S:List Sp} {k n:Nat} (h:GoodSR T S k) (hl:S.length=n) (hk:k≤n) (hk2:¬k<n) (hn:n≤16):MaySp T S:=by
 obtain rfl:k=n:=by omega
 refine⟨by omega,fun m hm=> ?_,?_⟩
 ·obtain⟨i,hi,rfl⟩:=List.getElem_of_mem hm
  rw[sp_get hi];exact h.ok i (by omega)
 ·rw[List.pairwise_iff_getElem]
  intro i j hi hj hij
  rw[sp_get hi,sp_get hj]
  exact h.pair i j hij (by omega)
theorem rmaySpecials_calls {V:Vc} {dd:Vd} (w:World) (hV:VocR w dd V) (hsz:Sized V.specials):
  Calls Tryz.prog 85 #[dd.val] w (MaySpPost V.tokens V.specials w):=by
 obtain⟨T,M,S⟩:=V
 obtain⟨ta,tn,tc,ma,mn,mc,sa,sn,sc⟩:=dd
 obtain⟨hT,hM,hS⟩:=hV
 simp only at hT hM hS hsz ⊢
 have hm:=Nat.le_trans (Sl.le hT) (Sl.max hT)
 have hmm:=Nat.le_trans hS.le hS.max
 unfold maxLen at hm hmm
 have hlen:=Lib.hid hT.count
 have hlenS:=Lib.hid (hS.count Sp.enc_len (by omega))
 obtain⟨w0,hw0⟩:∃w0,w.alloc (.cells #[.slice ta tn tc, .slice ma mn mc, .slice sa sn sc] 26)=w0:=⟨_,rfl⟩
 have hb0:Below w.heap.size w w0:=hw0▸below_alloc w _
 have hx0:w0.heap[w.heap.size]?=some (.cells #[.slice ta tn tc, .slice ma mn mc, .slice sa sn sc] 26):=by rw[←hw0];exact heap_alloc_new w _
 have hs0:w.heap.size<w0.heap.size:=by rw[←hw0];simp
 obtain⟨c0,c1,c2⟩:=box3v hx0
 have HT:=Lib.hid (Sl.below hT hb0)
 have HSS:=Lib.hid (hS.below hb0)
 have HX0:=Lib.hid hx0
 have HB0:=Lib.hid hb0
 have HSZ:=Lib.hid hsz
 have HW0:=Lib.hid hw0
 clear hT hM hS hsz hb0 hx0 hw0
 by_cases hl:(16:Int)<sn
 ·have HF:=Lib.hid (notMaySp_long (T:=T) (S:=S) (by have:=hlenS.out;omega))
  go_enter Tryz.func85,Tryz.ntmps85
  go_wp2_with (fail)
  go_ret
  exact⟨⟨_,rfl,HF.out⟩,by rw[HW0.out];exact HB0.out⟩
 ·go_enter Tryz.func85,Tryz.ntmps85
  go_wp2_with (fail)
  rw[HW0.out]
  go_loopw [3,4,5,13] (fun _ _ _ i wr=>∃(k:Nat),k≤sn∧i= .int .i64 k∧Hid (GoodSR T S k)∧Below w0.heap.size w0 wr) (fun _ _ _ i _=>sn-(intOf i).toNat)
  case atStart=>exact⟨0,Nat.zero_le _,rfl,Lib.hid (GoodSR.zero T S),Below.refl _ _⟩
  case round=>
   obtain⟨k,hk,rfl,HG,hb⟩:=hrel
   have HB:=Lib.hid hb
   clear c0 c1 c2
   obtain⟨c0,c1,c2⟩:=box3v ((hb.block w.heap.size hs0).trans HX0.out)
   have hlt0:w.heap.size<wr.heap.size:=Nat.lt_of_lt_of_le hs0 hb.size
   clear hb
   by_cases hlt:k<sn
   ·have hkS:k<S.length:=by have:=hlenS.out;omega
    obtain⟨b,of,rfl,hce⟩:=(HSS.out.below HB.out).elem Sp.enc_len (by omega) (sp_eq hkS)
    have HNS0:=Lib.hid (HSZ.out _ (List.mem_of_getElem? (sp_eq hkS)))
    obtain⟨⟨nm,id⟩,hseq⟩:∃m,sp S k=m:=⟨_,rfl⟩
    have HNS:Hid (nm.size≤maxLen):=Lib.hid (by have:=HNS0.out;rw[hseq]at this;exact this)
    rw[hseq]at hce
    have d0:=hce 0 _ rfl
    have d1:=hce 1 _ rfl
    rw[Nat.add_zero]at d0
    simp only at d0 d1
    have HSK:=Lib.hid hseq
    obtain⟨w1,hw1⟩:∃w1,wr.alloc (.cells #[.string nm, .int .i64 id] 58)=w1:=⟨_,rfl⟩
    have hwb:Below wr.heap.size wr w1:=hw1▸below_alloc wr _
    have hwb':=below_alloc wr (.cells #[.string nm, .int .i64 id] 58)
    have HB1:=Lib.hid (HB.out.trans (hwb.mono HB.out.size))
    have HT1:=Lib.hid (Sl.below HT.out HB1.out)
    have hbx:w1.heap[wr.heap.size]?=some (.cells #[.string nm, .int .i64 id] 58):=by rw[←hw1];exact heap_alloc_new wr _
    obtain⟨b0,b1⟩:=box2' hbx
    have f0:=cell_below hwb _ _ c0
    have f2:=cell_below hwb _ _ c2
    have HW1:=Lib.hid hw1
    rw[hw1]at hwb'
    clear hce hseq hbx hw1 hwb'
    by_cases hnm:MayName nm
    ·have HNM:=Lib.hid hnm
     clear hnm
     by_cases hi0:id<0
     ·have hg:decide (id<0)=true:=by simpa using hi0
      have HF:=Lib.hid (notMaySp_ok (T:=T) hkS (fun h=>by rw[HSK.out]at h;have:=h.2.1;simp only at this;omega))
      go_wp2_with (fail)
      refine(rmayName_yes HNS.out HNM.out _).mono ?_
      rintro e w' ⟨rfl,rfl⟩
      rw[HW1.out]
      go_wp2_with (fail)
      go_ret
      exact⟨⟨_,rfl,HF.out⟩,HB0.out.trans (HB1.out.mono HB0.out.size)⟩
     have hg0:decide (id<0)=false:=by simpa using hi0
     by_cases hi1:(tn:Int)≤id
     ·have hg:decide ((tn:Int)≤id)=true:=by simpa using hi1
      have HF:=Lib.hid (notMaySp_ok (T:=T) hkS (fun h=>by rw[HSK.out]at h;have:=h.2.2.1;have:=hlen.out;simp only at *;omega))
      go_wp2_with (fail)
      refine(rmayName_yes HNS.out HNM.out _).mono ?_
      rintro e w' ⟨rfl,rfl⟩
      rw[HW1.out]
      go_wp2_with (fail)
      go_ret
      exact⟨⟨_,rfl,HF.out⟩,HB0.out.trans (HB1.out.mono HB0.out.size)⟩
     have hg1:decide ((tn:Int)≤id)=false:=by simpa using hi1
     obtain⟨q,rfl⟩:=Int.eq_ofNat_of_zero_le (Int.not_lt.1 hi0)
     have hqT:q<T.length:=by have:=hlen.out;omega
     obtain⟨bt,ot,hao,hct⟩:=SlS.cell HT1.out (tk_eq hqT)
     subst hao
     have gq:(q:Int)<(tn:Int):=by omega
     have gq2:decide ((tn:Int)≤(q:Int))=false:=by simp;omega
     have gq3:decide ((q:Int)<0)=false:=by simp
     have gq4:decide (tn≤q)=false:=by simp;omega
     clear hg0 hg1
     by_cases hz:(tk T q).size=0
     ·obtain⟨e1,e2,e3⟩:=strE_yes hz
      have e4:((tk T q).toList != [])=false:=by simp[e1]
      have HZ:=Lib.hid hz
      clear hz
      have HOK:Hid (OkSp T (sp S k)):=Lib.hid (by rw[HSK.out];exact⟨HNM.out,by simp only;omega,by simp only;omega,HZ.out⟩)
      go_wp2_with (fail)
      refine(rmayName_yes HNS.out HNM.out _).mono ?_
      rintro e w' ⟨rfl,rfl⟩
      rw[HW1.out]
      go_wp2_with (fail)
      obtain⟨wo,rfl⟩:∃wo:World,wo=wr:=⟨_,rfl⟩
      clear e1 e2 e3 e4 hct
      go_loopw [5] (fun i wq=>∃(p j:Nat),p≤k∧i= .int .i64 p∧Hid (SpTo S k p)∧wq=w1.drewN j) (fun i _=>k-(intOf i).toNat)
      case atStart=>exact⟨0,0,Nat.zero_le _,rfl,Lib.hid (SpTo.zero S k),rfl⟩
      case round=>
       obtain⟨p,j,hp,rfl,HP,rfl⟩:=hrel
       by_cases hlp:p<k
       ·obtain⟨⟨pn,pid⟩,hpeq⟩:∃m,sp S p=m:=⟨_,rfl⟩
        obtain⟨bp,op,hao,hcp⟩:=(HSS.out.below HB1.out).elem Sp.enc_len (by omega) (sp_eq (S:=S) (i:=p) (by omega))
        simp at hao
        obtain⟨rfl,rfl⟩:=hao
        rw[hpeq]at hcp
        have p0:=hcp 0 _ rfl
        have p1:=hcp 1 _ rfl
        rw[Nat.add_zero]at p0
        simp only at p0 p1
        have HPEQ:=Lib.hid hpeq
        have gp:(p:Int)<(sn:Int):=by omega
        clear hcp hpeq
        cases hbl:Op.bytesLess pn.toList nm.toList with
        | false=>
         have HF:=Lib.hid (notMaySp_rise (T:=T) hlp hkS (by rw[HPEQ.out,HSK.out];exact hbl))
         go_wp2_with (fail)
         go_quiet (fail)
         go_wp2_with (fail)
         go_ret
         exact⟨⟨_,rfl,HF.out⟩,HB0.out.trans ((below_drewN (below_drewN HB1.out _) _).mono HB0.out.size)⟩
        | true=>
         by_cases hid:pid=(q:Int)
         ·have q1:(pid==(q:Int))=true:=by simpa using hid
          have HF:=Lib.hid (notMaySp_id (T:=T) hlp hkS (by rw[HPEQ.out,HSK.out];exact hid))
          clear hid
          go_wp2_with (fail)
          go_quiet (fail)
          go_wp2_with (fail)
          go_ret
          exact⟨⟨_,rfl,HF.out⟩,HB0.out.trans ((below_drewN (below_drewN HB1.out _) _).mono HB0.out.size)⟩
         ·have q1:(pid==(q:Int))=false:=by simpa using hid
          have HPn:=Lib.hid (HP.out.next (by rw[HPEQ.out,HSK.out];exact hbl) (by rw[HPEQ.out,HSK.out];exact hid))
          clear hid
          go_wp2_with (fail)
          go_quiet (fail)
          go_wp2_with (fail)
          go_roundw
          case rel=>exact⟨p+1,_,by omega,by go_num,HPn,rfl⟩
          case measure=>simp[intOf];omega
       ·have HGn:=Lib.hid (HG.out.next HOK.out HP.out hp hlp)
        have HBn:=Lib.hid (below_drewN HB1.out j)
        go_wp2_with (fail)
        go_roundw
        case rel=>exact⟨k+1,by omega,by go_num,HGn,HBn.out⟩
        case measure=>simp[intOf];omega
     ·obtain⟨e1,e2,e3⟩:=strE_no hz
      have e4:((tk T q).toList != [])=true:=by simp[e1]
      have HF:=Lib.hid (notMaySp_ok (T:=T) hkS (fun h=>by rw[HSK.out]at h;exact hz h.2.2.2))
      clear hz
      go_wp2_with (fail)
      refine(rmayName_yes HNS.out HNM.out _).mono ?_
      rintro e w' ⟨rfl,rfl⟩
      rw[HW1.out]
      go_wp2_with (fail)
      go_ret
      exact⟨⟨_,rfl,HF.out⟩,HB0.out.trans (HB1.out.mono HB0.out.size)⟩
    ·have HNM:=Lib.hid hnm
     have HF:=Lib.hid (notMaySp_ok (T:=T) hkS (fun h=>by rw[HSK.out]at h;exact hnm h.1))
     clear hnm
     go_wp2_with (fail)
     refine(rmayName_no HNS.out HNM.out _).mono ?_
     rintro e w' ⟨rfl,rfl⟩
     rw[HW1.out]
     go_wp2_with (fail)
     go_ret
     exact⟨⟨_,rfl,HF.out⟩,HB0.out.trans (HB1.out.mono HB0.out.size)⟩
   ·have HF:=Lib.hid (HG.out.all hlenS.out hk hlt (by omega))
    go_wp2_with (fail)
    go_ret
    exact⟨⟨_,rfl,(fun _=>HF.out),(fun _=>rfl)⟩,HB0.out.trans (HB.out.mono HB0.out.size)⟩
def VOk (V:Vc):Prop:=(∀s∈V.tokens,s.size≤maxLen)∧Sized V.specials∧V.specials.length≤1048576
def MayPost (V:Vc) (w:World) (e:Ending) (w':World):Prop:=(∃b,e= .returned (.bool b)∧(b=true↔May V))∧Below w.heap.size w w'
theorem notMay1 {V:Vc} (h:¬MayTok V.tokens):(false=true↔May V):=⟨(fun h=>by cases h),fun h2=>absurd h2.1 h⟩
theorem notMay2 {V:Vc} (h:¬MayMg V.tokens V.merges):(false=true↔May V):=⟨(fun h=>by cases h),fun h2=>absurd h2.2.1 h⟩
theorem notMay3 {V:Vc} (h:¬MayMade V.tokens V.merges):(false=true↔May V):=⟨(fun h=>by cases h),fun h2=>absurd h2.2.2.1 h⟩
theorem may4 {V:Vc} {b:Bool} (h1:MayTok V.tokens) (h2:MayMg V.tokens V.merges) (h3:MayMade V.tokens V.merges) (h:b=true↔MaySp V.tokens V.specials):(b=true↔May V):=by
 rw[h];exact⟨fun h4=>⟨h1,h2,h3,h4⟩,fun h4=>h4.2.2.2⟩
theorem no_of {b:Bool} {P:Prop} (h:b=true↔P) (hb:b=false):¬P:=fun hp=>by rw[h.2 hp]at hb;cases hb
theorem may_calls {V:Vc} {dd:Vd} (w:World) (hV:VocR w dd V) (hok:VOk V):
  Calls Tryz.prog 111 #[dd.val] w (MayPost V w):=by
 have hspn:=hV.spc.count Sp.enc_len (by omega)
 obtain⟨ta,tn,tc,ma,mn,mc,sa,sn,sc⟩:=dd
 simp only at hspn ⊢
 obtain⟨w0,hw0⟩:∃w0,w.alloc (.cells #[.slice ta tn tc, .slice ma mn mc, .slice sa sn sc] 26)=w0:=⟨_,rfl⟩
 have hb0:Below w.heap.size w w0:=hw0▸below_alloc w _
 have hx0:w0.heap[w.heap.size]?=some (.cells #[.slice ta tn tc, .slice ma mn mc, .slice sa sn sc] 26):=by rw[←hw0];exact heap_alloc_new w _
 have hs0:w.heap.size<w0.heap.size:=by rw[←hw0];simp
 obtain⟨c0,c1,c2⟩:=box3v hx0
 have HV:=Lib.hid (hV.below hb0)
 have HX0:=Lib.hid hx0
 have HB0:=Lib.hid hb0
 have HOK:=Lib.hid hok
 have HW0:=Lib.hid hw0
 have HSN:=Lib.hid hspn
 clear hV hok hb0 hx0 hw0 hspn
 go_enter Tryz.func111,Tryz.ntmps111
 go_wp2_with (fail)
 rw[HW0.out]
 refine(mayTokens_calls w0 HV.out.tok HOK.out.1).mono ?_
 rintro e w1 ⟨⟨b1,rfl,hi1⟩,hb1⟩
 have HB1:=Lib.hid hb1
 have HI1:=Lib.hid hi1
 clear c0 c1 c2
 obtain⟨c0,c1,c2⟩:=box3v ((hb1.block w.heap.size hs0).trans HX0.out)
 clear hb1 hi1
 cases b1 with
 | false=>
  have HF:=Lib.hid (notMay1 (no_of HI1.out rfl))
  go_wp2_with (fail)
  go_ret
  exact⟨⟨_,rfl,HF.out⟩,HB0.out.trans (HB1.out.mono HB0.out.size)⟩
 | true=>
  have HT:=Lib.hid (HI1.out.1 rfl)
  go_wp2_with (fail)
  refine(mayMerges_calls w1 (HV.out.below HB1.out).tok (HV.out.below HB1.out).mrg HT.out).mono ?_
  rintro e w2 ⟨⟨b2,rfl,hi2⟩,hb2⟩
  have HB2:=Lib.hid (HB1.out.trans (hb2.mono HB1.out.size))
  have HI2:=Lib.hid hi2
  clear c0 c1 c2
  obtain⟨c0,c1,c2⟩:=box3v ((HB2.out.block w.heap.size hs0).trans HX0.out)
  clear hb2 hi2
  cases b2 with
  | false=>
   have HF:=Lib.hid (notMay2 (no_of HI2.out rfl))
   go_wp2_with (fail)
   go_ret
   exact⟨⟨_,rfl,HF.out⟩,HB0.out.trans (HB2.out.mono HB0.out.size)⟩
  | true=>
   have HM:=Lib.hid (HI2.out.1 rfl)
   go_wp2_with (fail)
   refine(mayMade_calls (V:=V) (dd:=⟨ta,tn,tc,ma,mn,mc,sa,sn,sc⟩) w2 (HV.out.below HB2.out) HT.out HM.out).mono ?_
   rintro e w3 ⟨⟨b3,rfl,hi3⟩,hb3⟩
   have HB3:=Lib.hid (HB2.out.trans (hb3.mono HB2.out.size))
   have HI3:=Lib.hid hi3
   clear c0 c1 c2
   obtain⟨c0,c1,c2⟩:=box3v ((HB3.out.block w.heap.size hs0).trans HX0.out)
   clear hb3 hi3
   cases b3 with
   | false=>
    have HF:=Lib.hid (notMay3 (no_of HI3.out rfl))
    go_wp2_with (fail)
    go_ret
    exact⟨⟨_,rfl,HF.out⟩,HB0.out.trans (HB3.out.mono HB0.out.size)⟩
   | true=>
    have HD:=Lib.hid (HI3.out.1 rfl)
    go_wp2_with (fail)
    refine(maySpecials_calls w3 (HV.out.below HB3.out).tok (HV.out.below HB3.out).spc HOK.out.2.1 (by have h1:=HOK.out.2.2;have h2:V.specials.length=sn:=HSN.out;show sn≤1048576;omega)).mono ?_
    rintro e w4 ⟨⟨b4,rfl,hi4⟩,hb4⟩
    have HB4:=Lib.hid (HB3.out.trans (hb4.mono HB3.out.size))
    have HF:=Lib.hid (may4 HT.out HM.out HD.out hi4)
    clear hb4 hi4
    go_wp2_with (fail)
    go_ret
    exact⟨⟨_,rfl,HF.out⟩,HB0.out.trans (HB4.out.mono HB0.out.size)⟩
theorem rmay_calls {V:Vc} {dd:Vd} (w:World) (hV:VocR w dd V) (hok:VOk V):
  Calls Tryz.prog 55 #[dd.val] w (MayPost V w):=by
 have hspn:=hV.spc.count Sp.enc_len (by omega)
 obtain⟨ta,tn,tc,ma,mn,mc,sa,sn,sc⟩:=dd
 simp only at hspn ⊢
 obtain⟨w0,hw0⟩:∃w0,w.alloc (.cells #[.slice ta tn tc, .slice ma mn mc, .slice sa sn sc] 26)=w0:=⟨_,rfl⟩
 have hb0:Below w.heap.size w w0:=hw0▸below_alloc w _
 have hx0:w0.heap[w.heap.size]?=some (.cells #[.slice ta tn tc, .slice ma mn mc, .slice sa sn sc] 26):=by rw[←hw0];exact heap_alloc_new w _
 have hs0:w.heap.size<w0.heap.size:=by rw[←hw0];simp
 obtain⟨c0,c1,c2⟩:=box3v hx0
 have HV:=Lib.hid (hV.below hb0)
 have HX0:=Lib.hid hx0
 have HB0:=Lib.hid hb0
 have HOK:=Lib.hid hok
 have HW0:=Lib.hid hw0
 have HSN:=Lib.hid hspn
 clear hV hok hb0 hx0 hw0 hspn
 go_enter Tryz.func55,Tryz.ntmps55
 go_wp2_with (fail)
 rw[HW0.out]
 refine(rmayTokens_calls w0 HV.out.tok HOK.out.1).mono ?_
 rintro e w1 ⟨⟨b1,rfl,hi1⟩,hb1⟩
 have HB1:=Lib.hid hb1
 have HI1:=Lib.hid hi1
 clear c0 c1 c2
 obtain⟨c0,c1,c2⟩:=box3v ((hb1.block w.heap.size hs0).trans HX0.out)
 clear hb1 hi1
 cases b1 with
 | false=>
  have HF:=Lib.hid (notMay1 (no_of HI1.out rfl))
  go_wp2_with (fail)
  go_ret
  exact⟨⟨_,rfl,HF.out⟩,HB0.out.trans (HB1.out.mono HB0.out.size)⟩
 | true=>
  have HT:=Lib.hid (HI1.out.1 rfl)
  go_wp2_with (fail)
  refine(rmayMerges_calls (V:=V) (dd:=⟨ta,tn,tc,ma,mn,mc,sa,sn,sc⟩) w1 (HV.out.below HB1.out) HT.out).mono ?_
  rintro e w2 ⟨⟨b2,rfl,hi2⟩,hb2⟩
  have HB2:=Lib.hid (HB1.out.trans (hb2.mono HB1.out.size))
  have HI2:=Lib.hid hi2
  clear c0 c1 c2
  obtain⟨c0,c1,c2⟩:=box3v ((HB2.out.block w.heap.size hs0).trans HX0.out)
  clear hb2 hi2
  cases b2 with
  | false=>
   have HF:=Lib.hid (notMay2 (no_of HI2.out rfl))
   go_wp2_with (fail)
   go_ret
   exact⟨⟨_,rfl,HF.out⟩,HB0.out.trans (HB2.out.mono HB0.out.size)⟩
  | true=>
   have HM:=Lib.hid (HI2.out.1 rfl)
   go_wp2_with (fail)
   refine(rmayMade_calls (V:=V) (dd:=⟨ta,tn,tc,ma,mn,mc,sa,sn,sc⟩) w2 (HV.out.below HB2.out) HT.out).mono ?_
   rintro e w3 ⟨⟨b3,rfl,hi3⟩,hb3⟩
   have HB3:=Lib.hid (HB2.out.trans (hb3.mono HB2.out.size))
   have HI3:=Lib.hid hi3
   clear c0 c1 c2
   obtain⟨c0,c1,c2⟩:=box3v ((HB3.out.block w.heap.size hs0).trans HX0.out)
   clear hb3 hi3
   cases b3 with
   | false=>
    have HF:=Lib.hid (notMay3 (no_of HI3.out rfl))
    go_wp2_with (fail)
    go_ret
    exact⟨⟨_,rfl,HF.out⟩,HB0.out.trans (HB3.out.mono HB0.out.size)⟩
   | true=>
    have HD:=Lib.hid (HI3.out.1 rfl)
    go_wp2_with (fail)
    refine(rmaySpecials_calls (V:=V) (dd:=⟨ta,tn,tc,ma,mn,mc,sa,sn,sc⟩) w3 (HV.out.below HB3.out) HOK.out.2.1).mono ?_
    rintro e w4 ⟨⟨b4,rfl,hi4⟩,hb4⟩
    have HB4:=Lib.hid (HB3.out.trans (hb4.mono HB3.out.size))
    have HF:=Lib.hid (may4 HT.out HM.out HD.out hi4)
    clear hb4 hi4
    go_wp2_with (fail)
    go_ret
    exact⟨⟨_,rfl,HF.out⟩,HB0.out.trans (HB4.out.mono HB0.out.size)⟩
def Rw.enc (r:Rw):List Value:=[.string r.token, .int .i64 r.rank]
theorem Rw.enc_len (r:Rw):r.enc.length=2:=rfl
def rw' (R:List Rw) (i:Nat):Rw:=R.getD i ⟨ByteArray.empty,0⟩
theorem rw_eq {R:List Rw} {i:Nat} (h:i<R.length):R[i]?=some (rw' R i):=by simp[rw',List.getD,h]
theorem rw_get {R:List Rw} {i:Nat} (h:i<R.length):R[i]=rw' R i:=by simp[rw',List.getD,h]
def topS (S:List Sp) (k:Nat):Int:=((S.take k).map (·.id+1)).foldl max 0
def topR (R:List Rw) (S:List Sp) (k:Nat):Int:=((R.take k).map (·.rank+1)).foldl max (topS S S.length)
theorem topS_succ {S:List Sp} {k:Nat} (h:k<S.length):topS S (k+1)=max (topS S k) ((sp S k).id+1):=by
 unfold topS;rw[List.take_add_one,sp_eq h];simp[List.foldl_append]
theorem topR_zero (R:List Rw) (S:List Sp):topR R S 0=topS S S.length:=rfl
theorem topR_succ {R:List Rw} {S:List Sp} {k:Nat} (h:k<R.length):topR R S (k+1)=max (topR R S k) ((rw' R k).rank+1):=by
 unfold topR;rw[List.take_add_one,rw_eq h];simp[List.foldl_append]
theorem topR_all (R:List Rw) (S:List Sp):topR R S R.length=top R S:=by
 unfold topR topS top;rw[List.take_length,List.take_length]
def OkS (S:List Sp) (k:Nat):Prop:=∀j,j<k→0≤(sp S j).id∧(sp S j).id<4096
def OkR (R:List Rw) (k:Nat):Prop:=∀j,j<k→0≤(rw' R j).rank∧(rw' R j).rank<4096
def ApR (R:List Rw) (k:Nat):Prop:=∀i j,i<j→j<k→(rw' R i).rank≠(rw' R j).rank
theorem topR_lt {R:List Rw} {S:List Sp} {k j:Nat} (hk:k≤R.length) (hj:j<k):(rw' R j).rank<topR R S k:=by
 induction k with
 | zero=>omega
 | succ k ih=>
  rw[topR_succ (by omega)]
  by_cases e:j=k
  ·subst e;omega
  ·have:=ih (by omega) (by omega);omega
theorem OkRows.of {R:List Rw} {S:List Sp} (h1:OkS S S.length) (h2:OkR R R.length) (h3:ApR R R.length):OkRows R S:=by
 refine⟨fun s hs=> ?_,fun r hr=> ?_,?_⟩
 ·obtain⟨j,hj,rfl⟩:=List.getElem_of_mem hs
  rw[sp_get hj];exact h1 j hj
 ·obtain⟨j,hj,rfl⟩:=List.getElem_of_mem hr
  rw[rw_get hj];exact h2 j hj
 ·rw[List.pairwise_iff_getElem]
  intro i j hi hj hij
  rw[rw_get hi,rw_get hj];exact h3 i j hij hj
theorem notOk_s {R:List Rw} {S:List Sp} {k:Nat} (hk:k<S.length) (h:¬(0≤(sp S k).id∧(sp S k).id<4096)):¬OkRows R S:=fun ho=>h (by
 have:=ho.1 _ (List.mem_of_getElem? (sp_eq hk));exact this)
theorem notOk_r {R:List Rw} {S:List Sp} {k:Nat} (hk:k<R.length) (h:¬(0≤(rw' R k).rank∧(rw' R k).rank<4096)):¬OkRows R S:=fun ho=>h (by
 have:=ho.2.1 _ (List.mem_of_getElem? (rw_eq hk));exact this)
theorem notOk_a {R:List Rw} {S:List Sp} {i k:Nat} (hi:i<k) (hk:k<R.length) (h:(rw' R i).rank=(rw' R k).rank):¬OkRows R S:=fun ho=>by
 have:=(List.pairwise_iff_getElem.1 ho.2.2) i k (by omega) hk hi
 rw[rw_get hk,rw_get (by omega)]at this
 exact this h
structure LaidR (R:List Rw) (k n:Nat) (L:List ByteArray) (A:List Int):Prop where
 len:L.length=n
 alen:A.length=n
 tok:∀i,i<n→tk L i=tokAt (R.take k) i
 hit:∀i,i<n→(ix A i=0∧∀j,j<k→(rw' R j).rank≠(i:Int))∨(ix A i=1∧∃j,j<k∧(rw' R j).rank=(i:Int))
theorem tokAt_none {R:List Rw} {i:Nat} (h:∀r∈R,r.rank≠(i:Int)):tokAt R i=ByteArray.empty:=by
 unfold tokAt
 have:R.find? (fun r=>decide (r.rank=(i:Int)))=none:=by
  rw[List.find?_eq_none];intro r hr;simpa using h r hr
 rw[this]
theorem tokAt_snoc {R:List Rw} {i:Nat} (h:∀r∈R,r.rank≠(i:Int)) (r:Rw):tokAt (R++ [r]) i=if r.rank=(i:Int)then r.token else ByteArray.empty:=by
 unfold tokAt
 have:R.find? (fun r=>decide (r.rank=(i:Int)))=none:=by
  rw[List.find?_eq_none];intro r hr;simpa using h r hr
 rw[List.find?_append,this]
 by_cases e:r.rank=(i:Int)
 ·simp[List.find?,e]
 ·simp[List.find?,e]
theorem tokAt_snoc_other {R:List Rw} {i:Nat} {r:Rw} (h:r.rank≠(i:Int)):tokAt (R++ [r]) i=tokAt R i:=by
 unfold tokAt
 rw[List.find?_append]
 cases R.find? (fun r=>decide (r.rank=(i:Int)))with
 | some x=>simp
 | none=>simp[List.find?,h]
theorem mem_take_rw {R:List Rw} {k:Nat} {r:Rw} (h:r∈R.take k):∃j,j<k∧j<R.length∧rw' R j=r:=by
 obtain⟨j,hj,rfl⟩:=List.getElem_of_mem h
 have h1:j<k:=by rw[List.length_take]at hj;omega
 have h2:j<R.length:=by rw[List.length_take]at hj;omega
 refine⟨j,h1,h2,?_⟩
 rw[List.getElem_take,rw_get h2]
theorem LaidR.zero (R:List Rw) (n:Nat):LaidR R 0 n (List.replicate n ByteArray.empty) (List.replicate n 0):=by
 refine⟨by simp,by simp,fun i hi=> ?_,fun i hi=> .inl ⟨by simp[ix,List.getD,hi],fun j hj=>by omega⟩⟩
 have:tokAt (R.take 0) i=ByteArray.empty:=tokAt_none (by simp)
 rw[this]
 simp[tk,List.getD,hi]
theorem LaidR.next {R:List Rw} {k n:Nat} {L:List ByteArray} {A:List Int} (h:LaidR R k n L A) (hk:k<R.length) {r:Nat} (hr:(rw' R k).rank=(r:Int)) (hrn:r<n) (h0:ix A r=0):
  LaidR R (k+1) n (L.set r (rw' R k).token) (A.set r 1):=by
 have hno:∀j,j<k→(rw' R j).rank≠(r:Int):=by
  rcases h.hit r hrn with⟨_,h2⟩ | ⟨h1,_⟩
  ·exact h2
  ·omega
 have htk:R.take (k+1)=R.take k++ [rw' R k]:=by rw[List.take_add_one,rw_eq hk];rfl
 refine⟨by rw[List.length_set];exact h.len,by rw[List.length_set];exact h.alen,fun i hi=> ?_,fun i hi=> ?_⟩
 ·rw[htk]
  by_cases e:i=r
  ·subst e
   rw[tokAt_snoc (fun x hx=>by obtain⟨j,hj,_,rfl⟩:=mem_take_rw hx;exact hno j hj),if_pos hr]
   simp[tk,List.getD,h.len,hi]
  ·rw[tokAt_snoc_other (by rw[hr];omega),←h.tok i hi]
   simp[tk,List.getD,Ne.symm e]
 ·by_cases e:i=r
  ·subst e
   right
   exact⟨by simp[ix,List.getD,h.alen,hi],k,by omega,hr⟩
  ·have e1:ix (A.set r 1) i=ix A i:=by simp[ix,List.getD,Ne.symm e]
   rw[e1]
   rcases h.hit i hi with⟨h1,h2⟩ | ⟨h1,j,hj,h2⟩
   ·left
    refine⟨h1,fun j hj=> ?_⟩
    by_cases ej:j=k
    ·subst ej;rw[hr];omega
    ·exact h2 j (by omega)
   ·exact .inr ⟨h1,j,by omega,h2⟩
theorem LaidR.apart {R:List Rw} {k n:Nat} {L:List ByteArray} {A:List Int} (h:LaidR R k n L A) {r:Nat} (hr:(rw' R k).rank=(r:Int)) (hrn:r<n) (h0:ix A r=0) (ha:ApR R k):ApR R (k+1):=fun i j h1 h2=>by
 by_cases e:j=k
 ·subst e
  rcases h.hit r hrn with⟨_,h3⟩ | ⟨h3,_⟩
  ·rw[hr];exact h3 i h1
  ·omega
 ·exact ha i j h1 (by omega)
theorem LaidR.all {R:List Rw} {S:List Sp} {k n rn:Nat} {L:List ByteArray} {A:List Int} (h:LaidR R k n L A) (hl:R.length=rn) (hk:k≤rn) (hk2:¬k<rn) (hn:(n:Int)=top R S):L=toksOf R S:=by
 obtain rfl:k=rn:=by omega
 have hn2:(top R S).toNat=n:=by omega
 unfold toksOf
 rw[hn2]
 apply List.ext_getElem?
 intro i
 by_cases hi:i<n
 ·rw[tk_eq (by rw[h.len];exact hi),h.tok i hi,←hl,List.take_length]
  simp[hi]
 ·rw[List.getElem?_eq_none (by rw[h.len];omega),List.getElem?_eq_none (by simp;omega)]
theorem own_stay {w w':World} {base:Nat} {e:TypeId} {s n:Nat} {v:Value} {xs:List Value} (h:w.ownsRow base e s v n xs) (hb:∀g,v.ownBlock=some g→w'.heap[g]?=w.heap[g]?):w'.ownsRow base e s v n xs:=by
 obtain⟨h1,h2⟩:=h
 refine⟨h1,?_⟩
 rcases h2 with h2 | ⟨g,cap,cur,hv,hg,hh,r⟩
 ·exact .inl h2
 ·exact .inr ⟨g,cap,cur,hv,hg,by rw[hb g (by rw[hv];rfl)];exact hh,r⟩
def cutAt (T:List ByteArray) (i k:Nat):Option Mg:=
 if 0≤ofT T ((tk T i).extract 0 (k+1))∧0≤ofT T ((tk T i).extract (k+1) (tk T i).size)then some ⟨ofT T ((tk T i).extract 0 (k+1)),ofT T ((tk T i).extract (k+1) (tk T i).size),i,i⟩else none
def cutsTo (T:List ByteArray) (i m:Nat):List Mg:=(List.range m).filterMap (cutAt T i)
def mergesTo (T:List ByteArray) (k:Nat):List Mg:=(List.range k).flatMap (cutsOf T)
theorem cutsOf_eq (T:List ByteArray) (i:Nat):cutsOf T i=cutsTo T i ((tk T i).size-1):=rfl
theorem cutsTo_zero (T:List ByteArray) (i:Nat):cutsTo T i 0= []:=rfl
theorem cutsTo_some {T:List ByteArray} {i k:Nat} {m:Mg} (h:cutAt T i k=some m):cutsTo T i (k+1)=cutsTo T i k++ [m]:=by
 unfold cutsTo;rw[List.range_succ,List.filterMap_append];simp[h]
theorem cutsTo_none {T:List ByteArray} {i k:Nat} (h:cutAt T i k=none):cutsTo T i (k+1)=cutsTo T i k:=by
 unfold cutsTo;rw[List.range_succ,List.filterMap_append];simp[h]
theorem cutsTo_len (T:List ByteArray) (i m:Nat):(cutsTo T i m).length≤m:=by
 unfold cutsTo;exact Nat.le_trans (List.length_filterMap_le _ _) (by simp)
theorem mergesTo_zero (T:List ByteArray):mergesTo T 0= []:=rfl
theorem mergesTo_succ (T:List ByteArray) (k:Nat):mergesTo T (k+1)=mergesTo T k++cutsOf T k:=by
 unfold mergesTo;rw[List.range_succ,List.flatMap_append];simp
theorem mergesTo_all (T:List ByteArray):mergesTo T T.length=mergesOf T:=rfl
theorem mergesTo_len {T:List ByteArray} (h:∀s∈T,s.size≤64) {k:Nat} (hk:k≤T.length):(mergesTo T k).length≤k*64:=by
 induction k with
 | zero=>simp[mergesTo_zero]
 | succ k ih=>
  rw[mergesTo_succ,List.length_append,cutsOf_eq]
  have h1:=cutsTo_len T k ((tk T k).size-1)
  have h2:=h (tk T k) (tk_mem (by omega))
  have h3:=ih (by omega)
  omega
theorem toks_sized {R:List Rw} {S:List Sp} {b:Nat} (h:∀r∈R,r.token.size≤b):∀s∈toksOf R S,s.size≤b:=by
 intro s hs
 unfold toksOf at hs
 obtain⟨i,_,rfl⟩:=List.mem_map.1 hs
 unfold tokAt
 cases hf:R.find? (fun r=>decide (r.rank=(i:Int)))with
 | none=>exact Nat.zero_le _
 | some r=>exact h r (List.mem_of_find?_eq_some hf)
def vocOf (R:List Rw) (S:List Sp):Vc:=⟨toksOf R S,sortMg (mergesOf (toksOf R S)),sortSp S⟩
theorem pairwise_uniq {α:Type} {R:α→α→Prop} {l:List α} (h:l.Pairwise R) {a b:α} (ha:a∈l) (hb:b∈l) (h1:¬R a b) (h2:¬R b a):a=b:=by
 rw[List.pairwise_iff_getElem]at h
 obtain⟨i,hi,rfl⟩:=List.getElem_of_mem ha
 obtain⟨j,hj,rfl⟩:=List.getElem_of_mem hb
 rcases Nat.lt_trichotomy i j with h3 | h3 | h3
 ·exact absurd (h i j hi hj h3) h1
 ·subst h3;rfl
 ·exact absurd (h j i hj hi h3) h2
theorem find_uniq {α:Type} {l:List α} {p:α→Bool} {x:α} (hx:x∈l) (hp:p x=true) (hu:∀y,y∈l→p y=true→y=x):l.find? p=some x:=by
 cases h:l.find? p with
 | none=>rw[List.find?_eq_none]at h;exact absurd hp (h x hx)
 | some y=>rw[hu y (List.mem_of_find?_eq_some h) (List.find?_some h)]
def spBy (S:List Sp) (id:Int):Option Sp:=S.find? (fun s=>decide (s.id=id))
def spNamed (S:List Sp) (n:ByteArray):Option Sp:=S.find? (fun s=>decide (s.name=n))
def nmOf:Option Sp→ByteArray
 | some s=>s.name
 | none=>ByteArray.empty
def idOf:Option Sp→Int
 | some s=>s.id
 | none=> -1
theorem spBy_mem {T:List ByteArray} {S:List Sp} (h:MaySp T S) {s:Sp} (hs:s∈S):spBy S s.id=some s:=
 find_uniq hs (by simp) fun y hy e=>pairwise_uniq h.2.2 hy hs (fun g=>g.2 (by simpa using e)) (fun g=>g.2 (by simpa using(Eq.symm (of_decide_eq_true e))))
theorem ins_sorted {α:Type} {lt:α→α→Bool} (hn:∀a b c,lt a b=false→lt b c=false→lt a c=false) {l:List α} (hs:l.Pairwise (fun a b=>lt b a=false)) {s:α} {at_:Nat}
  (h1:∀j x,j<at_→l[j]?=some x→lt s x=false) (h2:∀x,l[at_]?=some x→lt x s=false):(l.take at_++s::l.drop at_).Pairwise (fun a b=>lt b a=false):=by
 have h3:∀x∈l.drop at_,lt x s=false:=by
  intro x hx
  obtain⟨j,hj,rfl⟩:=List.getElem_of_mem hx
  rw[List.length_drop]at hj
  rw[List.getElem_drop]
  have hk:at_<l.length:=by omega
  have hy:=h2 _ (List.getElem?_eq_getElem hk)
  rcases Nat.eq_zero_or_pos j with e | e
  ·subst e;exact hy
  ·exact hn _ _ _ ((List.pairwise_iff_getElem.1 hs) at_ (at_+j) hk (by omega) (by omega)) hy
 rw[List.pairwise_append]
 refine⟨hs.sublist (List.take_sublist _ _),?_,?_⟩
 ·rw[List.pairwise_cons]
  exact⟨h3,hs.sublist (List.drop_sublist _ _)⟩
 ·intro a ha b hb
  obtain⟨j,hj,rfl⟩:=List.getElem_of_mem ha
  rw[List.length_take]at hj
  rw[List.getElem_take]
  rcases List.mem_cons.1 hb with rfl | hb
  ·exact h1 j _ (by omega) (List.getElem?_eq_getElem (by omega))
  ·obtain⟨i,hi,rfl⟩:=List.getElem_of_mem hb
   rw[List.length_drop]at hi
   rw[List.getElem_drop]
   exact(List.pairwise_iff_getElem.1 hs) j (at_+i) (by omega) (by omega) (by omega)
theorem ins_perm {α:Type} (l:List α) (s:α) (k:Nat):(l.take k++s::l.drop k).Perm (l++ [s]):=by
 have h1:(l.take k++s::l.drop k).Perm (s::(l.take k++l.drop k)):=List.perm_middle
 rw[List.take_append_drop]at h1
 exact h1.trans (List.perm_append_comm (l₁:=[s]) (l₂:=l))
open Go
structure Rg where
 lo:Int
 hi:Int
 cls:Int
instance :Inhabited Rg:=⟨⟨0,0,0⟩⟩
def Rg.enc (r:Rg):List Value:=[.int .i64 r.lo, .int .i64 r.hi, .int .i64 r.cls]
theorem Rg.enc_len (r:Rg):r.enc.length=3:=rfl
theorem Rg.enc_one (x:Rg):∀v∈x.enc,v.oneCell'=true:=by
 intro v hv
 simp[Rg.enc]at hv
 rcases hv with rfl | rfl | rfl<;>rfl
def rg (t:List Rg) (i:Nat):Rg:=t.getD i ⟨0,0,0⟩
theorem rg_eq {t:List Rg} {i:Nat} (h:i<t.length):t[i]?=some (rg t i):=by simp[rg,List.getD,h]
theorem rg_get {t:List Rg} {i:Nat} (h:i<t.length):t[i]=rg t i:=by simp[rg,List.getD,h]
def MayNames (N:List ByteArray):Prop:=N.length≤16∧(∀s∈N,MayName s)∧N.Pairwise (fun a b=>sless a b=true)
structure NamesTo (N:List ByteArray) (k:Nat):Prop where
 ok:∀j,j<k→MayName (tk N j)
 rise:∀j,j+1<k→sless (tk N j) (tk N (j+1))=true
theorem NamesTo.zero (N:List ByteArray):NamesTo N 0:=⟨fun j h=>by omega,fun j h=>by omega⟩
theorem NamesTo.next {N:List ByteArray} {k:Nat} (h:NamesTo N k) (h1:MayName (tk N k)) (h2:0<k→sless (tk N (k-1)) (tk N k)=true):NamesTo N (k+1):=by
 refine⟨fun j hj=> ?_,fun j hj=> ?_⟩
 ·by_cases e:j=k
  ·subst e;exact h1
  ·exact h.ok j (by omega)
 ·by_cases e:j+1=k
  ·subst e;exact h2 (by omega)
  ·exact h.rise j (by omega)
theorem NamesTo.all {N:List ByteArray} {k:Nat} (h:NamesTo N k) (hk:N.length=k) (h16:N.length≤16):MayNames N:=by
 refine⟨h16,fun s hs=> ?_,?_⟩
 ·obtain⟨j,hj,rfl⟩:=mem_tk hs
  exact h.ok j (by omega)
 ·refine pairwise_of_next (R:=fun a b=>sless a b=true) (fun a b c h1 h2=>sless_trans h1 h2) (fun i a b ha hb=> ?_)
  have hi:=(List.getElem?_eq_some_iff.1 hb).1
  rw[tk_eq (by omega)]at ha
  rw[tk_eq hi]at hb
  simp only[Option.some.injEq]at ha hb
  subst ha hb
  exact h.rise i (by omega)
theorem notNames_name {N:List ByteArray} {k:Nat} (hk:k<N.length) (h:¬MayName (tk N k)):(false=true↔MayNames N):=⟨(fun h=>by cases h),fun h2=>absurd (h2.2.1 _ (tk_mem hk)) h⟩
theorem notNames_rise {N:List ByteArray} {k:Nat} (h0:0<k) (hk:k<N.length) (h:sless (tk N (k-1)) (tk N k)=false):(false=true↔MayNames N):=⟨(fun h=>by cases h),fun h2=>by
 have h3:=(List.pairwise_iff_getElem.1 h2.2.2) (k-1) k (by omega) hk (by omega)
 have e1:N[k-1]'(by omega)=tk N (k-1):=by simp[tk,List.getD,show k-1<N.length by omega]
 have e2:N[k]=tk N k:=by simp[tk,List.getD,hk]
 rw[e1,e2,h]at h3
 cases h3⟩
def OkRg (r:Rg):Prop:=0≤r.lo∧r.lo≤r.hi∧r.hi≤1114111∧1≤r.cls∧r.cls≤4
def MayTab (t:List Rg):Prop:=t.length≤200∧(∀r∈t,OkRg r)∧t.Pairwise (fun a b=>a.hi<b.lo)
structure TabTo (t:List Rg) (k:Nat):Prop where
 ok:∀j,j<k→OkRg (rg t j)
 rise:∀j,j+1<k→(rg t j).hi<(rg t (j+1)).lo
theorem TabTo.zero (t:List Rg):TabTo t 0:=⟨fun j h=>by omega,fun j h=>by omega⟩
theorem TabTo.next {t:List Rg} {k:Nat} (h:TabTo t k) (h1:OkRg (rg t k)) (h2:0<k→(rg t (k-1)).hi<(rg t k).lo):TabTo t (k+1):=by
 refine⟨fun j hj=> ?_,fun j hj=> ?_⟩
 ·by_cases e:j=k
  ·subst e;exact h1
  ·exact h.ok j (by omega)
 ·by_cases e:j+1=k
  ·subst e;exact h2 (by omega)
  ·exact h.rise j (by omega)
theorem TabTo.all {t:List Rg} {k:Nat} (h:TabTo t k) (hk:t.length=k) (h2:t.length≤200):MayTab t:=by
 refine⟨h2,fun r hr=> ?_,?_⟩
 ·obtain⟨j,hj,rfl⟩:=List.getElem_of_mem hr
  rw[rg_get hj];exact h.ok j (by omega)
 ·rw[List.pairwise_iff_getElem]
  intro i j hi hj hij
  rw[rg_get hi,rg_get hj]
  have key:∀d,i+1+d<t.length→(rg t i).hi<(rg t (i+1+d)).lo:=by
   intro d
   induction d with
   | zero=>intro hd;exact h.rise i (by omega)
   | succ d ih=>
    intro hd
    have h3:=ih (by omega)
    have h4:=h.rise (i+1+d) (by omega)
    have h5:=(h.ok (i+1+d) (by omega)).2.1
    rw[show i+1+(d+1)=i+1+d+1 by omega]
    omega
  have:=key (j-i-1) (by omega)
  rwa [show i+1+(j-i-1)=j by omega]at this
theorem notTab_ok {t:List Rg} {k:Nat} (hk:k<t.length) (h:¬OkRg (rg t k)):(false=true↔MayTab t):=⟨(fun h=>by cases h),fun h2=>absurd (h2.2.1 _ (List.mem_of_getElem? (rg_eq hk))) h⟩
theorem notTab_rise {t:List Rg} {k:Nat} (h0:0<k) (hk:k<t.length) (h:¬(rg t (k-1)).hi<(rg t k).lo):(false=true↔MayTab t):=⟨(fun h=>by cases h),fun h2=>by
 have h3:=(List.pairwise_iff_getElem.1 h2.2.2) (k-1) k (by omega) hk (by omega)
 rw[rg_get (by omega),rg_get hk]at h3
 exact absurd h3 h⟩
theorem notTab_len {t:List Rg} (h:¬t.length≤200):(false=true↔MayTab t):=⟨(fun h=>by cases h),fun h2=>absurd h2.1 h⟩
def OkKit (N:List ByteArray) (kind:Int) (t:List Rg) (room:Int):Prop:=MayNames N∧0≤kind∧kind≤3∧MayTab t∧0≤room∧room≤1048576
def marksOf (S:List Sp) (N:List ByteArray):List Int:=N.map (fun s=>idOf (spNamed S s))
def bytesI (s:ByteArray):List Int:=s.data.toList.map (fun b=>(b.toNat:Int))
theorem bytesI_len (s:ByteArray):(bytesI s).length=s.size:=by simp[bytesI]
theorem bytesI_at {s:ByteArray} {i:Nat} (h:i<s.size):(bytesI s)[i]?=some (s[i].toNat:Int):=by
 unfold bytesI
 rw[List.getElem?_map,Array.getElem?_toList,Array.getElem?_eq_getElem (by simpa using h)]
 rfl
theorem bytesI_succ {s:ByteArray} {k:Nat} (h:k<s.size):(bytesI s).take (k+1)=(bytesI s).take k++ [(s[k].toNat:Int)]:=by
 rw[List.take_add_one,bytesI_at h];rfl
theorem bytesI_inj {s t:ByteArray} (h:bytesI s=bytesI t):s=t:=by
 unfold bytesI at h
 apply ByteArray.ext
 apply Array.toList_inj.1
 have hinj:Function.Injective (fun b:UInt8=>(b.toNat:Int)):=fun a b e=>UInt8.toNat_inj.1 (by have e:(a.toNat:Int)=(b.toNat:Int):=e;omega)
 exact(List.map_inj_right (f:=fun b:UInt8=>(b.toNat:Int)) (fun a b e=>hinj e)).1 h
theorem bytesI_lt {s:ByteArray}:∀x∈bytesI s,0≤x∧x<256:=by
 intro x hx
 unfold bytesI at hx
 obtain⟨b,_,rfl⟩:=List.mem_map.1 hx
 have:=b.toNat_lt
 exact⟨by omega,by omega⟩
def nameAt (N:List ByteArray) (n:ByteArray):Option Nat:=N.findIdx? (fun x=>decide (x=n))
theorem nameAt_some {N:List ByteArray} {n:ByteArray} {i:Nat} (hi:i<N.length) (he:tk N i=n) (hn:∀j,j<i→tk N j≠n):nameAt N n=some i:=by
 unfold nameAt
 rw[List.findIdx?_eq_some_iff_getElem]
 have ht:∀j (hj:j<N.length),N[j]=tk N j:=fun j hj=>by simp[tk,List.getD,hj]
 exact⟨hi,by rw[ht i hi];simpa using he,fun j hj=>by rw[ht j (by omega)];simpa using hn j hj⟩
theorem nameAt_none {N:List ByteArray} {n:ByteArray} (hn:∀j,j<N.length→tk N j≠n):nameAt N n=none:=by
 unfold nameAt
 rw[List.findIdx?_eq_none_iff]
 intro x hx
 obtain⟨j,hj,rfl⟩:=mem_tk hx
 simpa using hn j hj
def symsOf (V:Vc) (N:List ByteArray) (t:Int):List Int×Int:=
 if isTk V.tokens t=true then(bytesI (tk V.tokens t.toNat),0)
 else match spBy V.specials t with
  | none=>([],3)
  | some s=>match nameAt N s.name with
   | some k=>([256+(k:Int)],0)
   | none=>([],4)
def decTo (V:Vc) (N:List ByteArray):List Int→List Int×Int
 | []=>([],0)
 | t::l=>if(symsOf V N t).2=0 then(if(decTo V N l).2=0 then((symsOf V N t).1++(decTo V N l).1,0)else([],(decTo V N l).2))else([],(symsOf V N t).2)
def rowRg (c:Int) (A:List Int) (k:Nat):List Rg:=(List.range k).map (fun j=>⟨ix A (2*j),ix A (2*j+1),c⟩)
theorem rowRg_len (c:Int) (A:List Int) (k:Nat):(rowRg c A k).length=k:=by simp[rowRg]
theorem rowRg_succ (c:Int) (A:List Int) (k:Nat):rowRg c A k++ [⟨ix A (2*k),ix A (2*k+1),c⟩]=rowRg c A (k+1):=by
 unfold rowRg
 rw[List.range_succ,List.map_append]
 rfl
def us1:List Int:=[0x41,0x5a,0x61,0x7a,0xaa,0xaa,0xb5,0xb5,0xba,0xba,0xc0,0xd6,0xd8,0xf6,0xf8,0x2c1,0x370,0x373,0x376,0x377,0x37b,0x37d,0x37f,0x37f,0x386,0x386,0x388,0x3f5,0x3f7,0x481,0x48a,0x52f,0x531,0x556,0x561,0x587,0x5d0,0x5ea,0x620,0x64a,0x904,0x939,0xe01,0xe30,0x10a0,0x10ff,0x1100,0x1248,0x1e00,0x1fbc,0x3041,0x3096,0x30a1,0x30fa,0x4e00,0x9fff,0xac00,0xd7a3,0x20000,0x2a6df]
def us2:List Int:=[0x30,0x39,0xb2,0xb3,0xb9,0xb9,0xbc,0xbe,0x660,0x669,0x966,0x96f,0x2160,0x2188,0xff10,0xff19]
def us4:List Int:=[0xa,0xa,0xd,0xd]
def us3:List Int:=[0x9,0x9,0xb,0xc,0x20,0x20,0x85,0x85,0xa0,0xa0,0x1680,0x1680,0x2000,0x200a,0x2028,0x2029,0x202f,0x202f,0x205f,0x205f,0x3000,0x3000]
def usU:List Rg:=rowRg 1 us1 30++rowRg 2 us2 8++rowRg 4 us4 2++rowRg 3 us3 11
def insRg (S:List Rg) (r:Rg):List Rg:=S.takeWhile (fun x=>decide (x.lo<r.lo))++r::S.dropWhile (fun x=>decide (x.lo<r.lo))
theorem insRg_at {S:List Rg} {r:Rg} {k:Nat} (hk:k≤S.length) (h1:∀j,j<k→(rg S j).lo<r.lo) (h2:k=S.length∨¬(rg S k).lo<r.lo):insRg S r=S.take k++r::S.drop k:=by
 unfold insRg
 have e:S.takeWhile (fun x=>decide (x.lo<r.lo))=S.take k∧S.dropWhile (fun x=>decide (x.lo<r.lo))=S.drop k:=by
  induction S generalizing k with
  | nil=>simp at hk;subst hk;simp
  | cons x S ih=>
   cases k with
   | zero=>
    rcases h2 with h | h
    ·simp at h
    ·simp[rg]at h
     simp[h]
   | succ k=>
    have h0:=h1 0 (by omega)
    simp[rg]at h0
    have:=ih (k:=k) (by simp at hk;omega) (fun j hj=>by have:=h1 (j+1) (by omega);simpa[rg]using this) (by
     rcases h2 with h | h
     ·left;simpa using h
     ·right;simpa[rg]using h)
    simp[h0,this.1,this.2]
 rw[e.1,e.2]
def insTo (L:List Rg) (k:Nat):List Rg:=(L.take k).foldl insRg []
theorem insTo_succ {L:List Rg} {k:Nat} (h:k<L.length):insTo L (k+1)=insRg (insTo L k) (rg L k):=by
 unfold insTo
 rw[List.take_add_one,rg_eq h]
 simp
theorem insRg_len (S:List Rg) (r:Rg):(insRg S r).length=S.length+1:=by
 unfold insRg
 have:=congrArg List.length (List.takeWhile_append_dropWhile (p:=fun x:Rg=>decide (x.lo<r.lo)) (l:=S))
 rw[List.length_append]at this
 rw[List.length_append,List.length_cons]
 omega
theorem insTo_len (L:List Rg):∀{k:Nat},k≤L.length→(insTo L k).length=k
 | 0,_=>rfl
 | k+1,h=>by rw[insTo_succ h,insRg_len,insTo_len L (by omega)]
end Go.Proofs.YtimkkkdabmhedaaGreatDoor
