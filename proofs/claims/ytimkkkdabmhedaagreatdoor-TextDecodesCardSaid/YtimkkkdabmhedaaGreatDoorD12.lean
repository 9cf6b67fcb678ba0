/- Walks: the document's usual table. (Printed by gRTabs.py.) -/
import Derived.Test.YtimkkkdabmhedaaGreatDoorD9
import Derived.Test.YtimkkkdabmhedaaGreatDoorD11
import Derived.Deep.AppendLies
import Derived.Deep.RegionLaw
import Derived.Test.YtimkkkdabmhedaaGreatDoorD10
set_option linter.unusedVariables false
set_option maxHeartbeats 4000000
set_option maxRecDepth 100000
namespace Go.Proofs.YtimkkkdabmhedaaGreatDoor
open Go.RowKit
theorem rrow_calls (c:Int) {A:List Int} {ao:Option Addr} {n cap k:Nat} (w:World) (hA:SlI w ao n cap A) (hk:n=2*k) (hn:n≤100):
  Calls Tryz.prog 116 #[.int .i64 c, .slice ao n cap] w fun e w'=>∃v,e= .returned v∧OwnF Rg.enc 3 93 w' w.heap.size v (rowRg c A k)∧Below w.heap.size w w':=by
 obtain⟨i0,z0,hi,hz0,hz1,hz2,hz3⟩:=info_row infoRg
 have HA:=Lib.hid hA
 have HK:=Lib.hid hk
 obtain⟨w1,hw1⟩:∃w1,w.alloc (.cells #[] 93)=w1:=⟨_,rfl⟩
 have HB1:Hid (Below w.heap.size w w1):=Lib.hid (by rw[←hw1];exact below_alloc w _)
 have HO1:Hid (OwnF Rg.enc 3 93 w1 w.heap.size (.slice (some ⟨w.heap.size,0,none⟩) 0 0) []):=Lib.hid (by rw[←hw1];exact OwnF.made0 w)
 have HW1:=Lib.hid hw1
 clear hA hk hw1
 go_enter Tryz.func116,Tryz.ntmps116
 go_wp2_with (fail)
 rw[HW1.out]
 go_loopw [5,6] (fun v i wr=>∃j q:Nat,q≤n∧Hid (q=2*j)∧i= .int .i64 q∧OwnF Rg.enc 3 93 wr w.heap.size v (rowRg c A j)∧Below w.heap.size w wr) (fun _ i _=>n-(intOf i).toNat)
 case atStart=>exact⟨0,0,by omega,Lib.hid rfl,rfl,by simpa[rowRg]using HO1.out,HB1.out⟩
 case round=>
  obtain⟨j,q,hq,HQ,rfl,ho,hb⟩:=hrel
  have HO:=Lib.hid ho
  have HB:=Lib.hid hb
  clear ho hb
  by_cases hlt:q+1<n
  ·obtain⟨b,o,rfl,hc0⟩:=(HA.out.below HB.out).at_ (i:=q) (by omega)
   obtain⟨b',o',e',hc1⟩:=(HA.out.below HB.out).at_ (i:=q+1) (by omega)
   simp only[Option.some.injEq,Addr.mk.injEq,and_true]at e'
   obtain⟨rfl,rfl⟩:=e'
   obtain⟨x0,hx0⟩:∃x0,ix A q=x0:=⟨_,rfl⟩
   obtain⟨x1,hx1⟩:∃x1,ix A (q+1)=x1:=⟨_,rfl⟩
   rw[hx0]at hc0
   rw[hx1]at hc1
   have HX0:=Lib.hid hx0
   have HX1:=Lib.hid hx1
   clear hx0 hx1
   obtain⟨q1,hq1⟩:∃q1:Nat,q+1=q1:=⟨_,rfl⟩
   rw[hq1]at hc1 HX1
   have hwr:IntKind.i64.wrap ((q:Int)+1)=(q1:Int):=by rw[IntKind.wrap_i64];omega
   have hlt2:(q1:Int)<(n:Int):=by omega
   have hq2:(q:Int)<(n:Int):=by omega
   have HQ1:=Lib.hid hq1
   clear hq1
   go_wp2_with (fail)
   have hjl:2*j+1<100:=by have:=HQ.out;omega
   have HOa:Hid ((wr.drew.alloc (.cells #[.int .i64 x0, .int .i64 x1, .int .i64 c] 93)).ownsRow w.heap.size 93 3 u5 j (flat Rg.enc (rowRg c A j))):=Lib.hid (by
    have h:=(HO.out.drewN 1).alloc (.cells #[.int .i64 x0, .int .i64 x1, .int .i64 c] 93)
    unfold OwnF at h
    rw[rowRg_len]at h
    exact h)
   have HBa:Hid (Below w.heap.size w (wr.drew.alloc (.cells #[.int .i64 x0, .int .i64 x1, .int .i64 c] 93))):=Lib.hid ((HB.out.drew).alloc HB.out.size _)
   have HLT:=Lib.hid (World.ownsRow.lt HO.out)
   go_region_law (refine step_append_lies _ (by rfl) _ _ _ (by rfl) w.heap.size 93 i0 z0 3 24 Tryz.underlying27 hi hz0 hz1 hz2 hz3 (by omega) u5 j (flat Rg.enc (rowRg c A j)) (by rfl) HOa.out ⟨wr.heap.size,0,none⟩ 1 1 [.int .i64 x0, .int .i64 x1, .int .i64 c] (by rfl) (by rfl) (World.news_of_block (cs:=#[.int .i64 x0, .int .i64 x1, .int .i64 c]) (heap_alloc_new wr.drew _)) (by simp[Value.oneCell']) (by omega) (by unfold maxLen;omega) (by omega) HBa.out.size wr.heap.size.succ (by simp) ?_;intro gg cap2 w2 ho2 hg2 hat hb2)
   all_goals(
    have HO2:Hid (OwnF Rg.enc 3 93 w2 w.heap.size (.slice (some ⟨gg,0,none⟩) (j+1) cap2) (rowRg c A j++ [⟨x0,x1,c⟩])):=Lib.hid (by
     unfold OwnF
     rw[List.length_append,rowRg_len,flat_append]
     exact ho2)
    have HB2:Hid (Below w.heap.size w w2):=Lib.hid (HBa.out.grown hg2 HBa.out.size fun q hq=>(HLT.out q hq).1)
    clear ho2 hg2 hb2 hat
    go_wp2_with (fail)
    go_roundw
    ·have h1:=HO2.out
     have e1:x0=ix A (2*j):=by rw[←HX0.out,HQ.out]
     have e2:x1=ix A (2*j+1):=by rw[←HX1.out,←HQ1.out,HQ.out]
     rw[e1,e2,rowRg_succ]at h1
     exact⟨j+1,q+2,by omega,Lib.hid (by have:=HQ.out;omega),by simp,h1,HB2.out⟩
    ·simp[intOf];omega)
  ·have hlt2:¬((q:Int)+1<(n:Int)):=by omega
   have hlt3:(n:Int)≤(q:Int)+1:=by omega
   go_wp2_with (fail)
   go_ret
   have e:j=k:=by have:=HQ.out;have:=HK.out;omega
   subst e
   exact⟨_,rfl,HO.out,HB.out⟩
theorem SlI.lit (w:World) {cs:Array Value} {A:List Int} {n:Nat} (t:TypeId) (hcs:cs.toList=A.map (.int .i64)) (hn:A.length=n) (hm:n≤maxLen):SlI (w.alloc (.cells cs t)) (some ⟨w.heap.size,0, .none⟩) n n A:=by
 have hsz:cs.size=n:=by rw[←Array.length_toList,hcs,List.length_map,hn]
 refine⟨by simp[hn],Nat.le_refl _,hm,by simp,fun j u hu=>⟨_,_,rfl,?_⟩⟩
 have hb:(w.alloc (.cells cs t)).heap[w.heap.size]?=some (.cells cs t):=heap_alloc_new w _
 simp only[World.cell?,hb,Nat.zero_add]
 rw[←Array.getElem?_toList,hcs]
 exact hu
theorem rusual_calls (w:World):
  Calls Tryz.prog 87 #[] w fun e w'=>∃v,e= .returned v∧OwnF Rg.enc 3 93 w' w.heap.size v usU∧Below w.heap.size w w':=by
 obtain⟨i0,z0,hi,hz0,hz1,hz2,hz3⟩:=info_row infoRg
 go_enter Tryz.func87,Tryz.ntmps87
 obtain⟨wa,hwa⟩:∃wa,w.alloc (.cells (us1.map (Value.int .i64)).toArray 3)=wa:=⟨_,rfl⟩
 have HA1:Hid (SlI wa (some ⟨w.heap.size,0,none⟩) 60 60 us1):=Lib.hid (by rw[←hwa];exact SlI.lit w _ (by simp) rfl (by unfold maxLen;omega))
 have HBA:Hid (Below w.heap.size w wa):=Lib.hid (by rw[←hwa];exact below_alloc w _)
 have HWA:=Lib.hid hwa
 clear hwa
 go_wp2_with (fail)
 refine Calls.mono (R:=_) (by
  have h:=rrow_calls 1 wa HA1.out (k:=30) rfl (by omega)
  rw[←HWA.out]at h
  exact h) ?_
 rintro e w1 ⟨v1,rfl,ho1,hb1⟩
 rw[HWA.out]at ho1 hb1
 have HO1:=Lib.hid (OwnF.mono ho1 HBA.out.size)
 have HB1:=Lib.hid (HBA.out.trans (hb1.mono HBA.out.size))
 clear ho1 hb1
 obtain⟨wa2,hwa2⟩:∃wa2,w1.alloc (.cells (us2.map (Value.int .i64)).toArray 3)=wa2:=⟨_,rfl⟩
 have HA2:Hid (SlI wa2 (some ⟨w1.heap.size,0,none⟩) 16 16 us2):=Lib.hid (by rw[←hwa2];exact SlI.lit w1 _ (by simp) rfl (by unfold maxLen;omega))
 have HBA2:Hid (Below w1.heap.size w1 wa2):=Lib.hid (by rw[←hwa2];exact below_alloc w1 _)
 have HWA2:=Lib.hid hwa2
 clear hwa2
 go_wp2_with (fail)
 refine Calls.mono (R:=_) (by
  have h:=rrow_calls 2 wa2 HA2.out (k:=8) rfl (by omega)
  rw[←HWA2.out]at h
  exact h) ?_
 rintro e wb2 ⟨vb2,rfl,hob2,hbb2⟩
 rw[HWA2.out]at hob2 hbb2
 obtain⟨ra2,rc2,rfl,hsr2⟩:=hob2.sl
 rw[rowRg_len]at hsr2 ⊢
 have HS2:=Lib.hid hsr2
 have HBB2:=Lib.hid (HB1.out.trans ((HBA2.out.trans (hbb2.mono HBA2.out.size)).mono HB1.out.size))
 have HOO2:=Lib.hid (OwnF.below (OwnF.below HO1.out HBA2.out) hbb2)
 clear hob2 hbb2 hsr2
 go_wp2_with (at_builtin;go_loud (refine wpList_flat_app rfl _ _ 27 rfl i0 z0 24 Tryz.underlying27 hi hz0 hz1 hz2 hz3 Rg.enc_len (by omega) Rg.enc_one rfl HOO2.out rfl HS2.out (by simp only[rowRg_len];unfold maxLen;omega) (by simp only[rowRg_len];omega) HBB2.out.size ?_))
 intro v2 w2 ho2 hg2 hb2
 have HO2:=Lib.hid ho2
 have HB2:=Lib.hid (HBB2.out.trans hb2)
 clear ho2 hg2 hb2
 obtain⟨wa3,hwa3⟩:∃wa3,w2.alloc (.cells (us4.map (Value.int .i64)).toArray 3)=wa3:=⟨_,rfl⟩
 have HA3:Hid (SlI wa3 (some ⟨w2.heap.size,0,none⟩) 4 4 us4):=Lib.hid (by rw[←hwa3];exact SlI.lit w2 _ (by simp) rfl (by unfold maxLen;omega))
 have HBA3:Hid (Below w2.heap.size w2 wa3):=Lib.hid (by rw[←hwa3];exact below_alloc w2 _)
 have HWA3:=Lib.hid hwa3
 clear hwa3
 go_wp2_with (fail)
 refine Calls.mono (R:=_) (by
  have h:=rrow_calls 4 wa3 HA3.out (k:=2) rfl (by omega)
  rw[←HWA3.out]at h
  exact h) ?_
 rintro e wb3 ⟨vb3,rfl,hob3,hbb3⟩
 rw[HWA3.out]at hob3 hbb3
 obtain⟨ra3,rc3,rfl,hsr3⟩:=hob3.sl
 rw[rowRg_len]at hsr3 ⊢
 have HS3:=Lib.hid hsr3
 have HBB3:=Lib.hid (HB2.out.trans ((HBA3.out.trans (hbb3.mono HBA3.out.size)).mono HB2.out.size))
 have HOO3:=Lib.hid (OwnF.below (OwnF.below HO2.out HBA3.out) hbb3)
 clear hob3 hbb3 hsr3
 go_wp2_with (at_builtin;go_loud (refine wpList_flat_app rfl _ _ 27 rfl i0 z0 24 Tryz.underlying27 hi hz0 hz1 hz2 hz3 Rg.enc_len (by omega) Rg.enc_one rfl HOO3.out rfl HS3.out (by simp only[List.length_append,rowRg_len];unfold maxLen;omega) (by simp only[List.length_append,rowRg_len];omega) HBB3.out.size ?_))
 intro v3 w3 ho3 hg3 hb3
 have HO3:=Lib.hid ho3
 have HB3:=Lib.hid (HBB3.out.trans hb3)
 clear ho3 hg3 hb3
 obtain⟨wa4,hwa4⟩:∃wa4,w3.alloc (.cells (us3.map (Value.int .i64)).toArray 3)=wa4:=⟨_,rfl⟩
 have HA4:Hid (SlI wa4 (some ⟨w3.heap.size,0,none⟩) 22 22 us3):=Lib.hid (by rw[←hwa4];exact SlI.lit w3 _ (by simp) rfl (by unfold maxLen;omega))
 have HBA4:Hid (Below w3.heap.size w3 wa4):=Lib.hid (by rw[←hwa4];exact below_alloc w3 _)
 have HWA4:=Lib.hid hwa4
 clear hwa4
 go_wp2_with (fail)
 refine Calls.mono (R:=_) (by
  have h:=rrow_calls 3 wa4 HA4.out (k:=11) rfl (by omega)
  rw[←HWA4.out]at h
  exact h) ?_
 rintro e wb4 ⟨vb4,rfl,hob4,hbb4⟩
 rw[HWA4.out]at hob4 hbb4
 obtain⟨ra4,rc4,rfl,hsr4⟩:=hob4.sl
 rw[rowRg_len]at hsr4 ⊢
 have HS4:=Lib.hid hsr4
 have HBB4:=Lib.hid (HB3.out.trans ((HBA4.out.trans (hbb4.mono HBA4.out.size)).mono HB3.out.size))
 have HOO4:=Lib.hid (OwnF.below (OwnF.below HO3.out HBA4.out) hbb4)
 clear hob4 hbb4 hsr4
 go_wp2_with (at_builtin;go_loud (refine wpList_flat_app rfl _ _ 27 rfl i0 z0 24 Tryz.underlying27 hi hz0 hz1 hz2 hz3 Rg.enc_len (by omega) Rg.enc_one rfl HOO4.out rfl HS4.out (by simp only[List.length_append,rowRg_len];unfold maxLen;omega) (by simp only[List.length_append,rowRg_len];omega) HBB4.out.size ?_))
 intro v4 w4 ho4 hg4 hb4
 have HO4:=Lib.hid ho4
 have HB4:=Lib.hid (HBB4.out.trans hb4)
 clear ho4 hg4 hb4
 go_wp2_with (fail)
 go_ret
 exact⟨_,rfl,HO4.out,HB4.out⟩
theorem rname_q (s:ByteArray) (hs:s.size≤maxLen) (b:Bool) (hb:b=true↔MayName s) {w:World} (m:Nat):
  Calls Tryz.prog 86 #[.string s] (w.drewN m) fun e w'=>e= .returned (.bool b)∧w'=w.drewN m:=
 (rmayName_calls s hs (w.drewN m)).mono fun e w' ⟨⟨b',he,hb'⟩,hw⟩=>⟨by rw[he,bool_eq hb' hb],hw.symm⟩
theorem rmayNames_calls {N:List ByteArray} {no:Option Addr} {nn nc:Nat} (w:World) (hN:SlS w no nn nc N) (hsz:∀s∈N,s.size≤maxLen):
  Calls Tryz.prog 56 #[.slice no nn nc] w (NamesPost N w):=by
 have hm:=Nat.le_trans (Sl.le hN) (Sl.max hN)
 unfold maxLen at hm
 have HL:=Lib.hid hN.count
 have HN:=Lib.hid hN
 have HSZ:=Lib.hid hsz
 clear hN hsz
 go_enter Tryz.func56,Tryz.ntmps56
 go_wp2_with (fail)
 go_loopw [6] (fun i wr=>∃k:Nat,k≤nn∧i= .int .i64 k∧Hid (NamesTo N k)∧Below w.heap.size w wr) (fun i _=>nn-(intOf i).toNat)
 case atStart=>exact⟨0,Nat.zero_le _,rfl,Lib.hid (NamesTo.zero N),Below.refl _ _⟩
 case round=>
  obtain⟨k,hk,rfl,HT,hb⟩:=hrel
  have HB:=Lib.hid hb
  clear hb
  by_cases hlt:k<nn
  ·have hkN:k<N.length:=by have:=HL.out;omega
   obtain⟨b,o,rfl,hc⟩:=SlS.cell (Sl.below HN.out HB.out) (tk_eq hkN)
   have HS1:=Lib.hid (HSZ.out _ (tk_mem hkN))
   obtain⟨s,hs⟩:∃s,tk N k=s:=⟨_,rfl⟩
   rw[hs]at hc HS1
   have HSE:=Lib.hid hs
   have gk:(k:Int)<(nn:Int):=by omega
   clear hs
   by_cases hnm:MayName s
   ·have HM:=Lib.hid hnm
    have HQ:=Lib.hid (fun(w:World) (m:Nat)=>rname_q s HS1.out true ⟨fun _=>HM.out,fun _=>rfl⟩ (w:=w) m)
    clear hnm
    by_cases hk0:k=0
    ·have HT2:=Lib.hid (HT.out.next (by rw[HSE.out];exact HM.out) (fun h=>by omega))
     have q0:decide ((0:Int)<(k:Int))=false:=by simp;omega
     have q1:decide (0<k)=false:=by simp;omega
     clear hk0
     go_wp2_with (fail)
     go_quiet ((go_at_call 86;exact Calls.quiet_of_same (HQ.out _ _)))
     go_wp2_with (fail)
     go_roundw
     case rel=>exact⟨k+1,by omega,by go_num,HT2,below_drewN HB.out _⟩
     case measure=>simp[intOf];omega
    obtain⟨q,rfl⟩:∃q,k=q+1:=⟨k-1,by omega⟩
    obtain⟨b',o',hao,hp⟩:=SlS.cell (Sl.below HN.out HB.out) (tk_eq (T:=N) (i:=q) (by omega))
    simp only[Option.some.injEq,Addr.mk.injEq,and_true]at hao
    obtain⟨rfl,rfl⟩:=hao
    obtain⟨p,hpq⟩:∃p,tk N q=p:=⟨_,rfl⟩
    rw[hpq]at hp
    have HPE:=Lib.hid hpq
    have q0:decide ((0:Int)<((q+1:Nat):Int))=true:=by simp
    have q1:decide (0<q+1)=true:=by simp
    have q2:IntKind.i64.wrap (((q+1:Nat):Int)-1)=(q:Int):=by rw[IntKind.wrap_i64];omega
    have q3:((q+1:Nat):Int)-1=(q:Int):=by omega
    have q4:(q:Int)<(nn:Int):=by omega
    have q5:((q:Int)+1-1).toNat=q:=by omega
    have q6:(q:Int)+1-1=(q:Int):=by omega
    clear hpq hk0
    cases hbl:Op.bytesLess p.toList s.toList with
    | false=>
     have HF:=Lib.hid (notNames_rise (N:=N) (k:=q+1) (by omega) hkN (by rw[HSE.out,show q+1-1=q by omega,HPE.out];exact hbl))
     go_wp2_with (fail)
     go_quiet ((go_at_call 86;exact Calls.quiet_of_same (HQ.out _ _)))
     go_wp2_with (fail)
     go_ret
     exact⟨⟨_,rfl,HF.out⟩,below_drewN HB.out _⟩
    | true=>
     have HT2:=Lib.hid (HT.out.next (by rw[HSE.out];exact HM.out) (fun _=>by rw[HSE.out,show q+1-1=q by omega,HPE.out];exact hbl))
     go_wp2_with (fail)
     go_quiet ((go_at_call 86;exact Calls.quiet_of_same (HQ.out _ _)))
     go_wp2_with (fail)
     go_roundw
     case rel=>exact⟨q+1+1,by omega,by go_num,HT2,below_drewN HB.out _⟩
     case measure=>simp[intOf];omega
   ·have HF:=Lib.hid (notNames_name hkN (by rw[HSE.out];exact hnm))
    have HQ:=Lib.hid (fun(w:World) (m:Nat)=>rname_q s HS1.out false ⟨(fun h=>by cases h),(fun h=>absurd h hnm)⟩ (w:=w) m)
    clear hnm
    go_wp2_with (fail)
    go_quiet ((go_at_call 86;exact Calls.quiet_of_same (HQ.out _ _)))
    go_wp2_with (fail)
    go_ret
    exact⟨⟨_,rfl,HF.out⟩,below_drewN HB.out _⟩
  ·by_cases h2:(nn:Int)≤16
   ·have HF:Hid (MayNames N):=Lib.hid (HT.out.all (by have:=HL.out;omega) (by have:=HL.out;omega))
    have h2':nn≤16:=by omega
    go_wp2_with (fail)
    go_ret
    exact⟨⟨_,rfl,(fun _=>HF.out),(fun _=>by simp<;>omega)⟩,HB.out⟩
   ·have HF:Hid (¬MayNames N):=Lib.hid (fun h=>by have:=h.1;have:=HL.out;omega)
    have h2':¬nn≤16:=by omega
    go_wp2_with (fail)
    go_ret
    exact⟨⟨false,by simp<;>omega,(fun h=>by cases h),(fun h=>absurd h HF.out)⟩,HB.out⟩
def GreatV (V:Vc):Prop:=400<V.tokens.length∨300<V.merges.length∨20<V.specials.length∨(∃s∈V.tokens,80<s.size)∨∃s∈V.specials,40<s.name.size
def GreatPost (V:Vc) (w:World) (e:Ending) (w':World):Prop:=(∃b,e= .returned (.bool b)∧(b=true↔GreatV V))∧Below w.heap.size w w'
theorem greatV_calls {V:Vc} {dd:Vd} (w:World) (hV:VocR w dd V) (hok:(∀s∈V.tokens,s.size≤maxLen)∧Sized V.specials):
  Calls Tryz.prog 44 #[dd.val] w (GreatPost V w):=by
 have hcs:=hV.spc.count Sp.enc_len (by omega)
 have hcm:=hV.mrg.count Mg.enc_len (by omega)
 have hct:=hV.tok.count
 have hm1:=Nat.le_trans (Sl.le hV.tok) (Sl.max hV.tok)
 have hm2:=Nat.le_trans hV.mrg.le hV.mrg.max
 have hm3:=Nat.le_trans hV.spc.le hV.spc.max
 obtain⟨ta,tn,tc,ma,mn,mc,sa,sn,sc⟩:=dd
 simp only at hcs hcm hct hm1 hm2 hm3 ⊢
 unfold maxLen at hm1 hm2 hm3
 obtain⟨w0,hw0⟩:∃w0,w.alloc (.cells #[.slice ta tn tc, .slice ma mn mc, .slice sa sn sc] 26)=w0:=⟨_,rfl⟩
 have hb0:Below w.heap.size w w0:=hw0▸below_alloc w _
 have hx0:w0.heap[w.heap.size]?=some (.cells #[.slice ta tn tc, .slice ma mn mc, .slice sa sn sc] 26):=by rw[←hw0];exact heap_alloc_new w _
 obtain⟨c0,c1,c2⟩:=box3v hx0
 have HV:=Lib.hid (hV.below hb0)
 have HB0:=Lib.hid hb0
 have HOK:=Lib.hid hok
 have HW0:=Lib.hid hw0
 have HCS:=Lib.hid hcs
 have HCM:=Lib.hid hcm
 have HCT:=Lib.hid hct
 clear hV hok hb0 hx0 hw0 hcs hcm hct
 by_cases h1:(400:Int)<tn
 ·have HF:Hid (true=true↔GreatV V):=Lib.hid ⟨fun _=> .inl (by rw[HCT.out];omega),fun _=>rfl⟩
  go_enter Tryz.func44,Tryz.ntmps44
  go_wp2_with (fail)
  go_ret
  exact⟨⟨_,rfl,by simpa using HF.out⟩,by rw[HW0.out];exact HB0.out⟩
 by_cases h2:(300:Int)<mn
 ·have HF:Hid (true=true↔GreatV V):=Lib.hid ⟨fun _=> .inr (.inl (by rw[HCM.out];omega)),fun _=>rfl⟩
  go_enter Tryz.func44,Tryz.ntmps44
  go_wp2_with (fail)
  go_ret
  exact⟨⟨_,rfl,by simpa using HF.out⟩,by rw[HW0.out];exact HB0.out⟩
 by_cases h3:(20:Int)<sn
 ·have HF:Hid (true=true↔GreatV V):=Lib.hid ⟨fun _=> .inr (.inr (.inl (by rw[HCS.out];omega))),fun _=>rfl⟩
  go_enter Tryz.func44,Tryz.ntmps44
  go_wp2_with (fail)
  go_ret
  exact⟨⟨_,rfl,by simpa using HF.out⟩,by rw[HW0.out];exact HB0.out⟩
 go_enter Tryz.func44,Tryz.ntmps44
 go_wp2_with (fail)
 rw[HW0.out]
 go_loop [3,24] (fun _ i=>∃k:Nat,k≤tn∧i= .int .i64 k∧Hid (∀j,j<k→¬80<(tk V.tokens j).size)) (fun _ i=>tn-(intOf i).toNat)
 case atStart=>exact⟨0,Nat.zero_le _,rfl,Lib.hid (fun j h=>by omega)⟩
 case round=>
  obtain⟨k,hk,rfl,HK⟩:=hrel
  by_cases hlt:k<tn
  ·have hkT:k<V.tokens.length:=by have:=HCT.out;omega
   obtain⟨b,o,hao,hc⟩:=SlS.cell HV.out.tok (tk_eq hkT)
   simp only at hao
   subst hao
   have hks:=HOK.out.1 _ (tk_mem hkT)
   unfold maxLen at hks
   by_cases h80:(80:Int)<(tk V.tokens k).size
   ·have HF:Hid (GreatV V):=Lib.hid (.inr (.inr (.inr (.inl ⟨_,tk_mem hkT,by omega⟩))))
    go_wp2_with (fail)
    go_ret
    exact⟨⟨_,rfl,(fun _=>HF.out),(fun _=>rfl)⟩,HB0.out⟩
   ·have HK2:Hid (∀j,j<k+1→¬80<(tk V.tokens j).size):=Lib.hid (fun j hj=>by
     by_cases e:j=k
     ·subst e;omega
     ·exact HK.out j (by omega))
    go_wp2_with (fail)
    go_round
    case rel=>exact⟨k+1,by omega,by go_num,HK2⟩
    case measure=>simp[intOf];omega
  ·have HKA:Hid (∀s∈V.tokens,¬80<s.size):=Lib.hid (fun s hs=>by
    obtain⟨j,hj,rfl⟩:=mem_tk hs
    exact HK.out j (by have:=HCT.out;omega))
   go_wp2_with (fail)
   go_loop [4,38] (fun _ i=>∃q:Nat,q≤sn∧i= .int .i64 q∧Hid (∀j,j<q→¬40<(sp V.specials j).name.size)) (fun _ i=>sn-(intOf i).toNat)
   case atStart=>exact⟨0,Nat.zero_le _,rfl,Lib.hid (fun j h=>by omega)⟩
   case round=>
    obtain⟨q,hq,rfl,HQ⟩:=hrel
    by_cases hltq:q<sn
    ·have hqS:q<V.specials.length:=by have:=HCS.out;omega
     obtain⟨b,o,hao,hce⟩:=HV.out.spc.elem Sp.enc_len (by omega) (sp_eq hqS)
     simp only at hao
     subst hao
     have d0:=hce 0 _ rfl
     rw[Nat.add_zero]at d0
     have hks:=HOK.out.2 _ (List.mem_of_getElem? (sp_eq hqS))
     unfold maxLen at hks
     clear hce
     by_cases h40:(40:Int)<(sp V.specials q).name.size
     ·have HF:Hid (GreatV V):=Lib.hid (.inr (.inr (.inr (.inr ⟨_,List.mem_of_getElem? (sp_eq hqS),by omega⟩))))
      go_wp2_with (fail)
      go_ret
      exact⟨⟨_,rfl,(fun _=>HF.out),(fun _=>rfl)⟩,HB0.out⟩
     ·have HQ2:Hid (∀j,j<q+1→¬40<(sp V.specials j).name.size):=Lib.hid (fun j hj=>by
       by_cases e:j=q
       ·subst e;omega
       ·exact HQ.out j (by omega))
      go_wp2_with (fail)
      go_round
      case rel=>exact⟨q+1,by omega,by go_num,HQ2⟩
      case measure=>simp[intOf];omega
    ·have HF:Hid (¬GreatV V):=Lib.hid (by
      rintro(h | h | h | ⟨s,hs,h⟩ | ⟨s,hs,h⟩)
      ·have:=HCT.out;omega
      ·have:=HCM.out;omega
      ·have:=HCS.out;omega
      ·exact HKA.out s hs h
      ·obtain⟨j,hj,rfl⟩:=List.getElem_of_mem hs
       rw[sp_get hj]at h
       exact HQ.out j (by have:=HCS.out;omega) h)
     go_wp2_with (fail)
     go_ret
     exact⟨⟨_,rfl,(fun h=>by cases h),(fun h=>absurd h HF.out)⟩,HB0.out⟩
open Go.RowKit Go.Sort
theorem flat_take {α:Type} {enc:α→List Value} {s:Nat} (hs:∀x,(enc x).length=s):∀(L:List α) (k:Nat),flat enc (L.take k)=(flat enc L).take (k*s)
 | [],k=>by simp[flat]
 | y::L,0=>by simp[flat]
 | y::L,k+1=>by
  rw[flat_cons,List.take_succ_cons,flat_cons,flat_take hs L k]
  have e:(k+1)*s=(enc y).length+k*s:=by rw[hs,Nat.add_mul];omega
  rw[e,List.take_length_add_append]
theorem SlF.take {s:Nat} {w:World} {ao:Option Addr} {n cap:Nat} {xs:List Value} (h:SlF s w ao n cap xs) {k:Nat} (hk:k≤n):SlF s w ao k cap (xs.take (k*s)):=by
 have hl:=h.len
 refine⟨by rw[List.length_take,hl];exact Nat.min_eq_left (Nat.mul_le_mul_right s hk),by have:=h.le;omega,h.max,h.nil,fun i u hu=> ?_⟩
 rw[List.getElem?_take]at hu
 split at hu
 ·exact h.at_ i u hu
 ·cases hu
theorem wpList_flat_high {α:Type} {enc:α→List Value} {s:Nat} {e:TypeId} {P:Program} {w:World} {ops:Array Oper} {rest:List Oper} {o:Oper} {a:Act} {Q:Exit→Act→World→Prop} (hgd:o.guard= .none) (t:TypeId) (x l:Operand)
  (ho:o.op= .slice t x .none (some l) .none) (i:TypeInfo) (ht:P.underlying t=some (.slice e)) (hi:P.info? e=some i) (hs:∀x,(enc x).length=s)
  {ao:Option Addr} {n cap:Nat} {L:List α} (hx:a.eval x= .slice ao n cap) (hS:SlF s w ao n cap (flat enc L)) {kl:IntKind} {K:Int} {k:Nat} (hl:a.eval l= .int kl K) (hL:K=(k:Int)) (hk:k≤n)
  (h:SlF s w ao k cap (flat enc (L.take k))→wpList P ops Q rest (a.put o.dst (.slice ao k cap)) w):wpList P ops Q (o::rest) a w:=by
 subst hL
 have hle:=hS.le
 refine wpList_val hgd (v:= .slice ao k cap) (w':=w) ?_ (h (by rw[flat_take hs];exact hS.take hk))
 have hr:=run_sliceAt_lh ht hi w ao n cap .none (some (.int kl k)) 0 k (fun w=>by simp[Instr.sliceBounds,run_sliceBound,Nat.le_trans hk hle])
 simp only[execOp,ho,hx,hl,Option.map_some,Option.map_none,Sem.run_bind,hr,Result.andThen_ok,Sem.run_pure,Nat.zero_mul]
 congr 3
 cases ao<;>simp[Addr.add]
theorem ahead_g (a b:Mg) (w:World):
  Calls Tryz.prog 115 #[.agg #[.int .i64 a.left, .int .i64 a.right, .int .i64 a.out, .int .i64 a.order], .agg #[.int .i64 b.left, .int .i64 b.right, .int .i64 b.out, .int .i64 b.order]] w
   fun e w'=>e= .returned (.bool (ahead a b))∧∃q os,w'=grow (w.drewN q) os:=by
 obtain⟨w1,hw1⟩:∃w1,w.alloc (.cells #[.int .i64 a.left, .int .i64 a.right, .int .i64 a.out, .int .i64 a.order] 165)=w1:=⟨_,rfl⟩
 obtain⟨w2,hw2⟩:∃w2,w1.alloc (.cells #[.int .i64 b.left, .int .i64 b.right, .int .i64 b.out, .int .i64 b.order] 165)=w2:=⟨_,rfl⟩
 have hb1:Below w.heap.size w w1:=hw1▸below_alloc w _
 have hb2:Below w1.heap.size w1 w2:=hw2▸below_alloc w1 _
 have hs1:w1.heap.size=w.heap.size+1:=by rw[←hw1];simp
 have ha1:w1.heap[w.heap.size]?=some (.cells #[.int .i64 a.left, .int .i64 a.right, .int .i64 a.out, .int .i64 a.order] 165):=by rw[←hw1];exact heap_alloc_new w _
 have ha2:=(hb2.block w.heap.size (by omega)).trans ha1
 have hbb:w2.heap[w1.heap.size]?=some (.cells #[.int .i64 b.left, .int .i64 b.right, .int .i64 b.out, .int .i64 b.order] 165):=by rw[←hw2];exact heap_alloc_new w1 _
 obtain⟨a0,a1,_,a3⟩:=box4 ha2
 obtain⟨b0,b1,_,b3⟩:=box4 hbb
 have HG:Hid (∃q os,w2=grow (w.drewN q) os):=Lib.hid ⟨0,#[.cells #[.int .i64 a.left, .int .i64 a.right, .int .i64 a.out, .int .i64 a.order] 165, .cells #[.int .i64 b.left, .int .i64 b.right, .int .i64 b.out, .int .i64 b.order] 165],by
  rw[←hw2,←hw1,alloc_eq_grow,alloc_eq_grow,grow_grow];rfl⟩
 have H1:=Lib.hid hw1
 have H2:=Lib.hid hw2
 have hq:ahead a b=decide (a.order<b.order∨(a.order=b.order∧(a.left<b.left∨(a.left=b.left∧a.right<b.right)))):=rfl
 have HQ:=Lib.hid hq
 rw[hs1]at b0 b1 b3
 clear hb1 hb2 hs1 ha1 ha2 hbb hw1 hw2 hq
 by_cases ho:a.order=b.order
 ·have n1:(a.order != b.order)=false:=by simpa using ho
  by_cases hl:a.left=b.left
  ·have n2:(a.left != b.left)=false:=by simpa using hl
   have HF:Hid (ahead a b=decide (a.right<b.right)):=Lib.hid (by rw[HQ.out];simp[ho,hl])
   clear ho hl
   go_enter Tryz.func115,Tryz.ntmps115
   go_wp2_with (fail)
   rw[H1.out,H2.out]
   go_ret
   exact⟨ret_bool HF.out.symm,HG.out⟩
  ·have n2:(a.left != b.left)=true:=by simpa using hl
   have HF:Hid (ahead a b=decide (a.left<b.left)):=Lib.hid (by rw[HQ.out];simp[ho,hl])
   clear ho hl
   go_enter Tryz.func115,Tryz.ntmps115
   go_wp2_with (fail)
   rw[H1.out,H2.out]
   go_ret
   exact⟨ret_bool HF.out.symm,HG.out⟩
 ·have n1:(a.order != b.order)=true:=by simpa using ho
  have HF:Hid (ahead a b=decide (a.order<b.order)):=Lib.hid (by rw[HQ.out];simp[ho])
  clear ho
  go_enter Tryz.func115,Tryz.ntmps115
  go_wp2_with (fail)
  rw[H1.out,H2.out]
  go_ret
  exact⟨ret_bool HF.out.symm,HG.out⟩
def SortedM (M:List Mg):Prop:=M.Pairwise (fun a b=>ahead b a=false)
def PutPost (M:List Mg) (m:Mg) (w:World) (e:Ending) (w':World):Prop:=
 (∃v M',e= .returned v∧OwnF Mg.enc 4 165 w' w.heap.size v M'∧M'.Perm (M++ [m])∧(SortedM M→SortedM M'))∧Below w.heap.size w w'
theorem putM_sorted {M:List Mg} {m:Mg} {k:Nat} (h1:∀j,j<k→ahead (mg M j) m=true) (hk:k≤M.length) (h2:k=M.length∨ahead (mg M k) m=false) (hs:SortedM M):SortedM (M.take k++m::M.drop k):=by
 refine ins_sorted (lt:=ahead) (fun a b c=>ahead_ntrans) hs (fun j x hj hx=> ?_) (fun x hx=> ?_)
 ·rw[mg_eq (by omega)]at hx
  simp only[Option.some.injEq]at hx
  subst hx
  exact ahead_asym _ _ (h1 j hj)
 ·rcases h2 with rfl | h2
  ·rw[List.getElem?_eq_none (Nat.le_refl _)]at hx;cases hx
  ·have hlt:=(List.getElem?_eq_some_iff.1 hx).1
   rw[mg_eq hlt]at hx
   simp only[Option.some.injEq]at hx
   subst hx
   exact h2
theorem rput_calls {M:List Mg} {mo:Option Addr} {mn mc:Nat} (l r o d:Int) (w:World) (hM:SlF 4 w mo mn mc (flat Mg.enc M)) (hn:mn≤300000):
  Calls Tryz.prog 110 #[.slice mo mn mc, .agg #[.int .i64 l, .int .i64 r, .int .i64 o, .int .i64 d]] w (PutPost M ⟨l,r,o,d⟩ w):=by
 obtain⟨i0,z0,hi,hz0,hz1,hz2,hz3⟩:=info_row infoMg
 obtain⟨w0,hw0⟩:∃w0,w.alloc (.cells #[.int .i64 l, .int .i64 r, .int .i64 o, .int .i64 d] 165)=w0:=⟨_,rfl⟩
 have hb0:Below w.heap.size w w0:=hw0▸below_alloc w _
 have hx0:w0.heap[w.heap.size]?=some (.cells #[.int .i64 l, .int .i64 r, .int .i64 o, .int .i64 d] 165):=by rw[←hw0];exact heap_alloc_new w _
 have hs0:w.heap.size<w0.heap.size:=by rw[←hw0];simp
 have HM:=Lib.hid (hM.below hb0)
 have HLM:=Lib.hid (hM.count Mg.enc_len (by omega))
 have HB0:=Lib.hid hb0
 have HX0:=Lib.hid hx0
 have HW0:=Lib.hid hw0
 clear hM hb0 hx0 hw0
 go_enter Tryz.func110,Tryz.ntmps110
 go_wp2_with (fail)
 rw[HW0.out]
 go_loopw [5] (fun i wr=>∃k:Nat,k≤mn∧i= .int .i64 k∧Hid (∀j,j<k→ahead (mg M j) ⟨l,r,o,d⟩=true)∧Below w0.heap.size w0 wr) (fun i _=>mn-(intOf i).toNat)
 case atStart=>exact⟨0,Nat.zero_le _,rfl,Lib.hid (fun j h=>by omega),Below.refl _ _⟩
 case round=>
  obtain⟨k,hk,rfl,HK,hb⟩:=hrel
  have HB:=Lib.hid hb
  have hbx:=(hb.block w.heap.size hs0).trans HX0.out
  have hlt2:w.heap.size<wr.heap.size:=(Array.getElem?_eq_some_iff.1 hbx).1
  obtain⟨b0,b1,b2,b3⟩:=box4 hbx
  clear hb hbx
  obtain⟨w1,rfl⟩:∃w1:World,w1=wr:=⟨_,rfl⟩
  by_cases hlt:k<mn
  ·have hkM:k<M.length:=by have:=HLM.out;omega
   obtain⟨⟨pl,pr,po,pd⟩,hpeq⟩:∃m,mg M k=m:=⟨_,rfl⟩
   obtain⟨b,of,rfl,hcp⟩:=(HM.out.below HB.out).elem Mg.enc_len (by omega) (mg_eq hkM)
   rw[hpeq]at hcp
   have p0:=hcp 0 _ rfl
   have p1:=hcp 1 _ rfl
   have p2:=hcp 2 _ rfl
   have p3:=hcp 3 _ rfl
   rw[Nat.add_zero]at p0
   simp only at p0 p1 p2 p3
   have hmix:=mixedOrders
   have hlt1:b<w1.heap.size:=World.block_lt_of_cell? w1 _ p0
   have r0:=cell_grown (w:=w1) hlt1 p0
   have r1:=cell_grown (w:=w1) hlt1 p1
   have r2:=cell_grown (w:=w1) hlt1 p2
   have r3:=cell_grown (w:=w1) hlt1 p3
   have t0:=cell_grown (w:=w1) hlt2 b0
   have t1:=cell_grown (w:=w1) hlt2 b1
   have t2:=cell_grown (w:=w1) hlt2 b2
   have t3:=cell_grown (w:=w1) hlt2 b3
   have l1:=fun n os=>ld4 (P:=Tryz.prog) (r0 n os) (r1 n os) (r2 n os) (r3 n os)
   have l2:=fun n os=>ld4 (P:=Tryz.prog) (t0 n os) (t1 n os) (t2 n os) (t3 n os)
   have hg0:decide ((k:Int)<(mn:Int))=true:=by simp;omega
   have hg2:decide (k<mn)=true:=by simpa using hlt
   have hah:=fun w=>ahead_g ⟨pl,pr,po,pd⟩ ⟨l,r,o,d⟩ w
   have HPE:=Lib.hid hpeq
   clear hcp hpeq hkM
   cases hal:ahead ⟨pl,pr,po,pd⟩ ⟨l,r,o,d⟩with
   | true=>
    rw[hal]at hah
    have HK2:Hid (∀j,j<k+1→ahead (mg M j) ⟨l,r,o,d⟩=true):=Lib.hid (fun j hj=>by
     by_cases e:j=k
     ·subst e;rw[HPE.out];exact hal
     ·exact HK.out j (by omega))
    clear hal
    go_wp2_with (fail)
    refine wp_region_quiet_grown (by assumption) (by kernel_rfl) ?_
    repeat (any_goals (first | go_big_quiet_step ((go_at_call 115;exact Calls.grown_of (hah _))) | quiet_step ((go_at_call 115;exact Calls.grown_of (hah _)))))
    refine wpQuiet_nil ?_
    intro _ hw'
    obtain⟨⟨nq2,osq2⟩,hw''⟩:=hw'
    subst hw''
    go_wp2_with (fail)
    go_roundw
    case rel=>exact⟨k+1,by omega,by go_num,HK2,HB.out.trans ((below_grow _ _ _).mono HB.out.size)⟩
    case measure=>simp[intOf];omega
   | false=>
    rw[hal]at hah
    have HST:Hid (k=M.length∨ahead (mg M k) ⟨l,r,o,d⟩=false):=Lib.hid (.inr (by rw[HPE.out];exact hal))
    clear hal
    go_wp2_with (fail)
    refine wp_region_quiet_grown (by assumption) (by kernel_rfl) ?_
    repeat (any_goals (first | go_big_quiet_step ((go_at_call 115;exact Calls.grown_of (hah _))) | quiet_step ((go_at_call 115;exact Calls.grown_of (hah _)))))
    refine wpQuiet_nil ?_
    intro _ hw'
    obtain⟨⟨nq2,osq2⟩,hw''⟩:=hw'
    subst hw''
    have HBQ:Hid (Below w0.heap.size w0 (grow (w1.drewN nq2) osq2)):=Lib.hid (HB.out.trans ((below_grow _ _ _).mono HB.out.size))
    have HSO:=Lib.hid (putM_sorted HK.out (by have:=HLM.out;omega) HST.out)
    have HLT:Hid ((M.take k).length=k):=Lib.hid (by rw[List.length_take,HLM.out];omega)
    have hbz:=HBQ.out.block w.heap.size hs0
    obtain⟨wq,hwq⟩:∃wq,(grow (w1.drewN nq2) osq2)=wq:=⟨_,rfl⟩
    rw[hwq]at HBQ hbz ⊢
    clear hwq
    have HBX:=Lib.hid (hbz.trans HX0.out)
    clear hbz
    have HMa:Hid (SlF 4 (wq.alloc (.cells #[] 165)) (some ⟨b,of,none⟩) mn mc (flat Mg.enc M)):=Lib.hid ((HM.out.below HBQ.out).alloc _)
    have HOa:Hid (OwnF Mg.enc 4 165 (wq.alloc (.cells #[] 165)) wq.heap.size (.slice (some ⟨wq.heap.size,0,none⟩) 0 0) []):=Lib.hid (OwnF.made0 wq)
    go_wp2_with (first
     | (refine wpList_flat_high (enc:=Mg.enc) rfl _ _ _ rfl i0 Tryz.underlying23 hi Mg.enc_len rfl HMa.out rfl (k:=k) rfl (by omega) ?_;intro hs1)
     | (at_builtin;go_loud (refine wpList_flat_app rfl _ _ 23 rfl i0 z0 32 Tryz.underlying23 hi hz0 hz1 hz2 hz3 Mg.enc_len (by omega) Mg.enc_one rfl HOa.out rfl hs1 (by unfold maxLen;simp only[List.length_nil];omega) (by simp only[List.length_nil];omega) (by simp) ?_)))
    intro v1 wb ho1 hg1 hb1
    have hb1':=(below_alloc wq (.cells #[] 165)).trans hb1
    have HB1:=Lib.hid hb1'
    have hlq:w.heap.size<wq.heap.size:=(Array.getElem?_eq_some_iff.1 HBX.out).1
    obtain⟨b0,b1,b2,b3⟩:=box4 ((hb1'.block w.heap.size hlq).trans HBX.out)
    have HOb:Hid (OwnF Mg.enc 4 165 (wb.alloc (.cells #[.int .i64 l, .int .i64 r, .int .i64 o, .int .i64 d] 165)) wq.heap.size v1 (M.take k)):=Lib.hid (ho1.alloc _)
    have HSb:Hid (SlF 4 (wb.alloc (.cells #[.int .i64 l, .int .i64 r, .int .i64 o, .int .i64 d] 165)) (some ⟨wb.heap.size,0,none⟩) 1 1 (flat Mg.enc [⟨l,r,o,d⟩])):=Lib.hid (SlF.one Mg.enc_len wb ⟨l,r,o,d⟩ 165 (cs:=#[.int .i64 l, .int .i64 r, .int .i64 o, .int .i64 d]) rfl)
    have HSZ:Hid (wq.heap.size≤wb.heap.size):=Lib.hid hb1'.size
    clear ho1 hg1 hb1 hb1' hlq
    go_wp2_with (at_builtin;go_loud (refine wpList_flat_app rfl _ _ 23 rfl i0 z0 32 Tryz.underlying23 hi hz0 hz1 hz2 hz3 Mg.enc_len (by omega) Mg.enc_one rfl HOb.out rfl HSb.out (by have:=HLT.out;unfold maxLen;omega) (by have:=HLT.out;omega) (by have:=HSZ.out;simp;omega) ?_))
    intro v2 wc ho2 hg2 hb2
    have hb2':=(HB1.out.alloc HB1.out.size _).trans hb2
    have HB2:=Lib.hid hb2'
    have HMc:Hid (SlF 4 wc (some ⟨b,of,none⟩) mn mc (flat Mg.enc M)):=Lib.hid ((HM.out.below HBQ.out).below hb2')
    have HOc:=Lib.hid ho2
    have HSZ2:Hid (wq.heap.size≤wc.heap.size):=Lib.hid hb2'.size
    clear ho2 hg2 hb2 hb2' b0 b1 b2 b3
    go_wp2_with (first
     | (refine wpList_flat_low (enc:=Mg.enc) rfl _ _ _ rfl i0 Tryz.underlying23 hi hz1 Mg.enc_len rfl HMc.out rfl (k:=k) rfl (by omega) ?_;intro ao' hs3 hao3)
     | (at_builtin;go_loud (refine wpList_flat_app rfl _ _ 23 rfl i0 z0 32 Tryz.underlying23 hi hz0 hz1 hz2 hz3 Mg.enc_len (by omega) Mg.enc_one rfl HOc.out rfl hs3 (by have:=HLT.out;unfold maxLen;rw[List.length_append];simp only[List.length_singleton];omega) (by have:=HLT.out;rw[List.length_append];simp only[List.length_singleton];omega) HSZ2.out ?_)))
    intro v3 wd ho3 hg3 hb3
    have HO3:=Lib.hid (ho3.mono (Nat.le_trans HB0.out.size HBQ.out.size))
    have HB3:=Lib.hid (HB0.out.trans ((HBQ.out.trans ((HB2.out.trans hb3).mono HBQ.out.size)).mono HB0.out.size))
    clear ho3 hg3 hb3
    go_wp2_with (fail)
    go_ret
    exact⟨⟨v3,_,rfl,HO3.out,ins_perm M _ k,HSO.out⟩,HB3.out⟩
  ·obtain rfl:k=mn:=by omega
   have HST:Hid (k=M.length∨ahead (mg M k) ⟨l,r,o,d⟩=false):=Lib.hid (.inl HLM.out.symm)
   have hmix:=mixedOrders
   have hg0:decide ((k:Int)<(k:Int))=false:=by simp
   have hg2:decide (k<k)=false:=by simp
   have hah:=fun w=>ahead_g ⟨0,0,0,0⟩ ⟨l,r,o,d⟩ w
   go_wp2_with (fail)
   refine wp_region_quiet_grown (by assumption) (by kernel_rfl) ?_
   repeat (any_goals (first | go_big_quiet_step ((go_at_call 115;exact Calls.grown_of (hah _))) | quiet_step ((go_at_call 115;exact Calls.grown_of (hah _)))))
   refine wpQuiet_nil ?_
   intro _ hw'
   obtain⟨⟨nq2,osq2⟩,hw''⟩:=hw'
   subst hw''
   have HBQ:Hid (Below w0.heap.size w0 (grow (w1.drewN nq2) osq2)):=Lib.hid (HB.out.trans ((below_grow _ _ _).mono HB.out.size))
   have HSO:=Lib.hid (putM_sorted HK.out (by have:=HLM.out;omega) HST.out)
   have HLT:Hid ((M.take k).length=k):=Lib.hid (by rw[List.length_take,HLM.out];omega)
   have hbz:=HBQ.out.block w.heap.size hs0
   obtain⟨wq,hwq⟩:∃wq,(grow (w1.drewN nq2) osq2)=wq:=⟨_,rfl⟩
   rw[hwq]at HBQ hbz ⊢
   clear hwq
   have HBX:=Lib.hid (hbz.trans HX0.out)
   clear hbz
   have HMa:Hid (SlF 4 (wq.alloc (.cells #[] 165)) mo k mc (flat Mg.enc M)):=Lib.hid ((HM.out.below HBQ.out).alloc _)
   have HOa:Hid (OwnF Mg.enc 4 165 (wq.alloc (.cells #[] 165)) wq.heap.size (.slice (some ⟨wq.heap.size,0,none⟩) 0 0) []):=Lib.hid (OwnF.made0 wq)
   go_wp2_with (first
    | (refine wpList_flat_high (enc:=Mg.enc) rfl _ _ _ rfl i0 Tryz.underlying23 hi Mg.enc_len rfl HMa.out rfl (k:=k) rfl (by omega) ?_;intro hs1)
    | (at_builtin;go_loud (refine wpList_flat_app rfl _ _ 23 rfl i0 z0 32 Tryz.underlying23 hi hz0 hz1 hz2 hz3 Mg.enc_len (by omega) Mg.enc_one rfl HOa.out rfl hs1 (by unfold maxLen;simp only[List.length_nil];omega) (by simp only[List.length_nil];omega) (by simp) ?_)))
   intro v1 wb ho1 hg1 hb1
   have hb1':=(below_alloc wq (.cells #[] 165)).trans hb1
   have HB1:=Lib.hid hb1'
   have hlq:w.heap.size<wq.heap.size:=(Array.getElem?_eq_some_iff.1 HBX.out).1
   obtain⟨b0,b1,b2,b3⟩:=box4 ((hb1'.block w.heap.size hlq).trans HBX.out)
   have HOb:Hid (OwnF Mg.enc 4 165 (wb.alloc (.cells #[.int .i64 l, .int .i64 r, .int .i64 o, .int .i64 d] 165)) wq.heap.size v1 (M.take k)):=Lib.hid (ho1.alloc _)
   have HSb:Hid (SlF 4 (wb.alloc (.cells #[.int .i64 l, .int .i64 r, .int .i64 o, .int .i64 d] 165)) (some ⟨wb.heap.size,0,none⟩) 1 1 (flat Mg.enc [⟨l,r,o,d⟩])):=Lib.hid (SlF.one Mg.enc_len wb ⟨l,r,o,d⟩ 165 (cs:=#[.int .i64 l, .int .i64 r, .int .i64 o, .int .i64 d]) rfl)
   have HSZ:Hid (wq.heap.size≤wb.heap.size):=Lib.hid hb1'.size
   clear ho1 hg1 hb1 hb1' hlq
   go_wp2_with (at_builtin;go_loud (refine wpList_flat_app rfl _ _ 23 rfl i0 z0 32 Tryz.underlying23 hi hz0 hz1 hz2 hz3 Mg.enc_len (by omega) Mg.enc_one rfl HOb.out rfl HSb.out (by have:=HLT.out;unfold maxLen;omega) (by have:=HLT.out;omega) (by have:=HSZ.out;simp;omega) ?_))
   intro v2 wc ho2 hg2 hb2
   have hb2':=(HB1.out.alloc HB1.out.size _).trans hb2
   have HB2:=Lib.hid hb2'
   have HMc:Hid (SlF 4 wc mo k mc (flat Mg.enc M)):=Lib.hid ((HM.out.below HBQ.out).below hb2')
   have HOc:=Lib.hid ho2
   have HSZ2:Hid (wq.heap.size≤wc.heap.size):=Lib.hid hb2'.size
   clear ho2 hg2 hb2 hb2' b0 b1 b2 b3
   go_wp2_with (first
    | (refine wpList_flat_low (enc:=Mg.enc) rfl _ _ _ rfl i0 Tryz.underlying23 hi hz1 Mg.enc_len rfl HMc.out rfl (k:=k) rfl (by omega) ?_;intro ao' hs3 hao3)
    | (at_builtin;go_loud (refine wpList_flat_app rfl _ _ 23 rfl i0 z0 32 Tryz.underlying23 hi hz0 hz1 hz2 hz3 Mg.enc_len (by omega) Mg.enc_one rfl HOc.out rfl hs3 (by have:=HLT.out;unfold maxLen;rw[List.length_append];simp only[List.length_singleton];omega) (by have:=HLT.out;rw[List.length_append];simp only[List.length_singleton];omega) HSZ2.out ?_)))
   intro v3 wd ho3 hg3 hb3
   have HO3:=Lib.hid (ho3.mono (Nat.le_trans HB0.out.size HBQ.out.size))
   have HB3:=Lib.hid (HB0.out.trans ((HBQ.out.trans ((HB2.out.trans hb3).mono HBQ.out.size)).mono HB0.out.size))
   clear ho3 hg3 hb3
   go_wp2_with (fail)
   go_ret
   exact⟨⟨v3,_,rfl,HO3.out,ins_perm M _ k,HSO.out⟩,HB3.out⟩
open Go.ChangeShapes Go.WideShapes Go.ChangeAt Go.RowKit Go.Joins Go.Deep
theorem rgStruct:∃f0 f1 f2:Field,Tryz.prog.underlying 93=some (.struct #[f0,f1,f2])∧f0.type=3∧f1.type=3∧f2.type=3∧oneCellFields Tryz.prog #[f0,f1,f2]=true:=
 ⟨_,_,_,Tryz.underlying93,rfl,rfl,rfl,by kernel_rfl⟩
theorem cellsRg:Tryz.prog.cellsOf 93=3:=by kernel_rfl
theorem vocStruct:∃f0 f1 f2:Field,Tryz.prog.underlying 26=some (.struct #[f0,f1,f2])∧(f0.type=22∧f0.offset=0)∧(f1.type=23∧f1.offset=1)∧(f2.type=24∧f2.offset=2):=
 ⟨_,_,_,Tryz.underlying26,⟨rfl,rfl⟩,⟨rfl,rfl⟩,⟨rfl,rfl⟩⟩
theorem kitStruct:∃f0 f1 f2 f3 f4:Field,Tryz.prog.underlying 29=some (.struct #[f0,f1,f2,f3,f4])∧(f0.type=26∧f0.offset=0)∧(f1.type=22∧f1.offset=3)∧(f2.type=3∧f2.offset=4)∧(f3.type=27∧f3.offset=5)∧(f4.type=3∧f4.offset=6):=
 ⟨_,_,_,_,_,Tryz.underlying29,⟨rfl,rfl⟩,⟨rfl,rfl⟩,⟨rfl,rfl⟩,⟨rfl,rfl⟩,⟨rfl,rfl⟩⟩
theorem cellsKit:Tryz.prog.cellsOf 29=7:=by kernel_rfl
theorem cellsSlS:Tryz.prog.cellsOf 22=1:=by kernel_rfl
theorem cellsSlM:Tryz.prog.cellsOf 23=1:=by kernel_rfl
theorem cellsSlP:Tryz.prog.cellsOf 24=1:=by kernel_rfl
theorem cellsSlR:Tryz.prog.cellsOf 27=1:=by kernel_rfl
theorem cellsI:Tryz.prog.cellsOf 3=1:=by kernel_rfl
section
variable {H:Type} {enc:TypeId×Value→H} {W:World} {held:Bool}
theorem rgs_of_trod {fuel:Nat} {v:Value} {y:DataW H×List MemPlace} (h:DataW.trod enc Tryz.prog W 0 (fun _=>true) held fuel 27 [v]=some y):
  ∃ao n c T,v= .slice ao n c∧SlF 3 W ao n c (flat Rg.enc T):=by
 obtain⟨f0,f1,f2,hu,e0,e1,e2,hone⟩:=rgStruct
 rcases open_slice_fields Tryz.underlying27 hu hone (by rw[cellsRg];rfl) h with⟨hcs,_⟩ | ⟨a,len,cap,m,D,Pl,hcs,_,hl,hm,hmm,_,hrow⟩
 ·simp at hcs
  subst hcs
  exact⟨_,_,_,[],rfl,SlF.nothing _⟩
 ·simp at hcs
  subst hcs
  simp at hmm
  subst hmm
  obtain⟨M,hM,_⟩:=slF_mk (enc:=Rg.enc) (s:=3) (n:=len) (cap:=m) (w:=W) (a:=a) (R:=fun _=>True) Rg.enc_len (by omega) hl hm (by
   intro i hi
   obtain⟨ys,n',_,_,_,hf⟩:=hrow i (by omega)
   obtain⟨u0,y0,c0,_,t0⟩:=hf 0 f0 rfl
   obtain⟨u1,y1,c1,_,t1⟩:=hf 1 f1 rfl
   obtain⟨u2,y2,c2,_,t2⟩:=hf 2 f2 rfl
   rw[e0]at t0
   rw[e1]at t1
   rw[e2]at t2
   obtain⟨z0,ez0,_,_⟩:=DataW.trod_int Tryz.underlying3 t0
   obtain⟨z1,ez1,_,_⟩:=DataW.trod_int Tryz.underlying3 t1
   obtain⟨z2,ez2,_,_⟩:=DataW.trod_int Tryz.underlying3 t2
   simp at ez0 ez1 ez2
   subst ez0 ez1 ez2
   refine⟨⟨z0,z1,z2⟩,fun j u hu=> ?_,trivial⟩
   match j,hu with
   | 0,hu=>simp[Rg.enc]at hu;subst hu;exact c0
   | 1,hu=>simp[Rg.enc]at hu;subst hu;exact c1
   | 2,hu=>simp[Rg.enc]at hu;subst hu;exact c2
   | j+3,hu=>simp[Rg.enc]at hu)
  exact⟨_,_,_,M,rfl,hM⟩
theorem array7 {α:Type} {cs:Array α} (h:cs.size=7):∃c0 c1 c2 c3 c4 c5 c6,cs= #[c0,c1,c2,c3,c4,c5,c6]:=by
 obtain⟨l⟩:=cs
 match l,h with
 | [c0,c1,c2,c3,c4,c5,c6],_=>exact⟨c0,c1,c2,c3,c4,c5,c6,rfl⟩
theorem kit_open {v:Value} {d:DataW H} {p:List MemPlace} {r:Reach} {b0:Nat}
  (hv:Value.okWide Tryz.prog W r b0 29 v) (h:DataW.Trod enc Tryz.prog W 0 (fun _=>true) held 29 v d p):
  ∃(dd:Vd) (V:Vc) (no:Option Addr) (nn nc:Nat) (N:List ByteArray) (kind:Int) (to_:Option Addr) (tn tc:Nat) (T:List Rg) (room:Int),
   v= .agg #[.slice dd.ta dd.tn dd.tc, .slice dd.ma dd.mn dd.mc, .slice dd.sa dd.sn dd.sc, .slice no nn nc, .int .i64 kind, .slice to_ tn tc, .int .i64 room]∧
   VocR W dd V∧(∀s∈V.tokens,s.size≤maxLen)∧(∀s∈V.specials,s.name.size≤maxLen)∧(SlS W no nn nc N∧∀s∈N,s.size≤maxLen)∧SlF 3 W to_ tn tc (flat Rg.enc T):=by
 obtain⟨f0,f1,f2,f3,f4,hk,⟨a0,b0'⟩,⟨a1,b1⟩,⟨a2,b2⟩,⟨a3,b3⟩,⟨a4,b4⟩⟩:=kitStruct
 obtain⟨g0,g1,g2,hg,⟨x0,y0⟩,⟨x1,y1⟩,⟨x2,y2⟩⟩:=vocStruct
 obtain⟨cs,rfl,hsz⟩:=okWide_struct hk hv
 rw[cellsKit]at hsz
 obtain⟨c0,c1,c2,c3,c4,c5,c6,rfl⟩:=array7 hsz
 obtain⟨fuel,hf⟩:=h
 have hcells:(Value.cells (.agg #[c0,c1,c2,c3,c4,c5,c6])).toList= [c0,c1,c2,c3,c4,c5,c6]:=by simp[Value.cells]
 rw[hcells]at hf
 obtain⟨xs,n,_,_,_,hxl,hfs⟩:=DataW.trod_struct hk hf
 match xs,hxl,hfs with
 | [z0,z1,z2,z3,z4],_,hfs=>
  have t0:=hfs 0 f0 rfl
  have t1:=hfs 1 f1 rfl
  have t2:=hfs 2 f2 rfl
  have t3:=hfs 3 f3 rfl
  have t4:=hfs 4 f4 rfl
  rw[a0,b0',cellsVoc]at t0
  rw[a1,b1,cellsSlS]at t1
  rw[a2,b2,cellsI]at t2
  rw[a3,b3,cellsSlR]at t3
  rw[a4,b4,cellsI]at t4
  simp only[List.drop_zero,List.take_succ_cons,List.take_zero,List.drop_succ_cons,List.getElem?_cons_zero,List.getElem?_cons_succ]at t0 t1 t2 t3 t4
  obtain⟨ys,m,_,_,_,hyl,hgs⟩:=DataW.trod_struct hg t0
  match ys,hyl,hgs with
  | [q0,q1,q2],_,hgs=>
   have r0:=hgs 0 g0 rfl
   have r1:=hgs 1 g1 rfl
   have r2:=hgs 2 g2 rfl
   rw[x0,y0,cellsSlS]at r0
   rw[x1,y1,cellsSlM]at r1
   rw[x2,y2,cellsSlP]at r2
   simp only[List.drop_zero,List.take_succ_cons,List.take_zero,List.drop_succ_cons,List.getElem?_cons_zero,List.getElem?_cons_succ]at r0 r1 r2
   obtain⟨ta,tn',tc',T',rfl,hT,hsT⟩:=sls_of_trod r0
   obtain⟨ma,mn,mc,M,rfl,hM⟩:=mgs_of_trod r1
   obtain⟨sa,sn,sc,S,rfl,hS,hsS⟩:=sps_of_trod r2
   obtain⟨no,nn,nc,N,rfl,hN,hsN⟩:=sls_of_trod t1
   obtain⟨k,ek,_,_⟩:=DataW.trod_int Tryz.underlying3 t2
   obtain⟨to_,tn,tc,T,rfl,hR⟩:=rgs_of_trod t3
   obtain⟨ro,er,_,_⟩:=DataW.trod_int Tryz.underlying3 t4
   simp only[List.cons.injEq,and_true]at ek er
   subst ek er
   exact⟨⟨ta,tn',tc',ma,mn,mc,sa,sn,sc⟩,⟨T',M,S⟩,no,nn,nc,N,k,to_,tn,tc,T,ro,rfl,⟨hT,hM,hS⟩,hsT,hsS,⟨hN,hsN⟩,hR⟩
end
end Go.Proofs.YtimkkkdabmhedaaGreatDoor
