/- Walks: a text's first fault, by the document: ref16.id, ref16.Check; the coder's Counts. -/
import Derived.Test.YtimkkkdabmhedaaGreatDoorC36
import Derived.Test.YtimkkkdabmhedaaGreatDoorC18
import Derived.Test.YtimkkkdabmhedaaGreatDoorC1
import Derived.LoopN
import Derived.Test.YtimkkkdabmhedaaGreatDoorC9
set_option linter.unusedVariables false
set_option maxHeartbeats 4000000
set_option maxRecDepth 100000
namespace Go.Proofs.YtimkkkdabmhedaaGreatDoor
open Go.RowKit
theorem spNamed_hit {S:List Sp} {t:ByteArray} {k:Nat} (hk:k<S.length) (h:(sp S k).name=t) (hno:∀j,j<k→(sp S j).name≠t):spNamed S t=some (sp S k):=by
 unfold spNamed
 rw[List.find?_eq_some_iff_getElem]
 exact⟨by simpa using h,k,hk,sp_get hk,fun j hj=>by rw[sp_get (by omega)];simpa using hno j hj⟩
theorem spNamed_miss {S:List Sp} {t:ByteArray} (hno:∀j,j<S.length→(sp S j).name≠t):spNamed S t=none:=by
 unfold spNamed
 rw[List.find?_eq_none]
 intro x hx
 obtain⟨j,hj,rfl⟩:=List.getElem_of_mem hx
 rw[sp_get hj];simpa using hno j hj
theorem markAt_eq {V:Vc} {N:List ByteArray} {s:Int} {k:Nat} (hs:s-256=k) (hk:k<N.length):markAt V N s=idOf (spNamed V.specials (tk N k)):=by
 unfold markAt marksOf
 rw[hs,Int.toNat_natCast]
 simp[ix,List.getD,hk,tk]
theorem rid_calls {V:Vc} {N:List ByteArray} {dd:Vd} {no to_:Option Addr} {nn nc tn' tc':Nat} {kind:Int} (s:Int) (w:World) (h:CR w dd no nn nc V N) (hs:256≤s) (hl:s<256+(N.length:Int)):
  Calls Tryz.prog 62 #[cVal dd no nn nc kind to_ tn' tc', .int .i64 s] w fun e w'=>e= .returned (.int .i64 (markAt V N s))∧Below w.heap.size w w':=by
 obtain⟨hV,hN,-,hn16,hsp,-⟩:=h
 obtain⟨ta,tn,tc,ma,mn,mc,sa,sn,sc⟩:=dd
 obtain⟨w0,hw0⟩:∃w0,w.alloc (.cells #[.slice ta tn tc, .slice ma mn mc, .slice sa sn sc, .slice no nn nc, .int .i64 kind, .slice to_ tn' tc'] 37)=w0:=⟨_,rfl⟩
 have hb0:Below w.heap.size w w0:=hw0▸below_alloc w _
 have hx0:w0.heap[w.heap.size]?=some (.cells #[.slice ta tn tc, .slice ma mn mc, .slice sa sn sc, .slice no nn nc, .int .i64 kind, .slice to_ tn' tc'] 37):=by rw[←hw0];exact heap_alloc_new w _
 obtain⟨b0,b1,b2,b3,b4,b5,bf⟩:=box6 hx0
 have HCS:=Lib.hid (hV.spc.count Sp.enc_len (by omega))
 have hNc:=hN.count
 obtain⟨k,hk⟩:∃k:Nat,s-256=k:=⟨(s-256).toNat,by omega⟩
 have hkN:k<N.length:=by omega
 have hmk:=markAt_eq (V:=V) hk hkN
 obtain⟨b',of',hao,hcn⟩:=SlS.cell (Sl.below hN hb0) (tk_eq hkN)
 subst hao
 obtain⟨nm,hnm⟩:∃y,tk N k=y:=⟨_,rfl⟩
 rw[hnm]at hcn hmk
 have q2:IntKind.i64.wrap (s-256)=(k:Int):=by rw[IntKind.wrap_i64];omega
 have gk:(k:Int)<(nn:Int):=by omega
 have HMK:=Lib.hid hmk
 have HV:=Lib.hid (hV.below hb0)
 have HB0:=Lib.hid hb0
 have HW0:=Lib.hid hw0
 have hsn:sn≤1048576:=by have:=HCS.out;simp only at this;omega
 simp only at HCS
 unfold cVal
 clear hV hN hb0 hx0 hw0 hsp hmk hnm hk hNc
 have hcn2:=hcn
 rw[←HW0.out]at hcn2
 go_enter Tryz.func62,Tryz.ntmps62
 go_wp2_with (fail)
 rw[HW0.out]
 clear hcn2
 go_loopw [17] (fun i wr=>∃k:Nat,k≤sn∧i= .int .i64 k∧Hid (∀j,j<k→(sp V.specials j).name≠nm)∧wr=w0) (fun i _=>sn-(intOf i).toNat)
 case atStart=>exact⟨0,Nat.zero_le _,rfl,Lib.hid (fun j h=>by omega),rfl⟩
 case round=>
  obtain⟨q,hq,rfl,HK,hwr⟩:=hrel
  subst hwr
  by_cases hlt:q<sn
  ·have hkS:q<V.specials.length:=by have:=HCS.out;omega
   obtain⟨b,of,hao,hce⟩:=HV.out.spc.elem Sp.enc_len (by omega) (sp_eq hkS)
   simp only at hao
   subst hao
   obtain⟨⟨nm2,id⟩,hseq⟩:∃m,sp V.specials q=m:=⟨_,rfl⟩
   rw[hseq]at hce
   have d0:=hce 0 _ rfl
   have d1:=hce 1 _ rfl
   rw[Nat.add_zero]at d0
   simp only at d0 d1
   have HSK:=Lib.hid hseq
   have gq:(q:Int)<(sn:Int):=by omega
   clear hce hseq
   by_cases hid:nm2=nm
   ·have hb2:=beqS_yes hid
    have HE:Hid (markAt V N s=id):=Lib.hid (by
     rw[HMK.out,spNamed_hit hkS (by rw[HSK.out];exact hid) HK.out,HSK.out];rfl)
    clear hid
    go_wp2_with (fail)
    refine bodyPost_ret (results_tmp rfl _ _ _) rfl ⟨by rw[HE.out];rfl,HB0.out⟩
   ·have hb2:=beqS_no hid
    have HK2:Hid (∀j,j<q+1→(sp V.specials j).name≠nm):=Lib.hid (fun j hj=>by
     by_cases e:j=q
     ·subst e;rw[HSK.out];exact hid
     ·exact HK.out j (by omega))
    clear hid
    go_wp2_with (fail)
    go_roundw
    case rel=>exact⟨q+1,by omega,by go_num,HK2,by first | rfl | trivial⟩
    case measure=>simp[intOf];omega
  ·have HE:Hid (markAt V N s= -1):=Lib.hid (by
    rw[HMK.out,spNamed_miss (fun j hj=>HK.out j (by have:=HCS.out;omega))];rfl)
   go_wp2_with (fail)
   refine bodyPost_ret (results_tmp rfl _ _ _) rfl ⟨by rw[HE.out];rfl,HB0.out⟩
theorem rcheck_calls {V:Vc} {N:List ByteArray} {dd:Vd} {no to_:Option Addr} {nn nc tn' tc':Nat} {kind:Int} {A:List Int} {ao:Option Addr} {n c:Nat} (w:World) (h:CR w dd no nn nc V N) (hA:SlI w ao n c A) (hn:n≤1048576):
  Calls Tryz.prog 21 #[cVal dd no nn nc kind to_ tn' tc', .slice ao n c] w fun e w'=>e= .returned (.int .i64 (checkF V N A))∧Below w.heap.size w w':=by
 have hNl:N.length=nn:=by have:=h.names.count;omega
 have hn16:=h.n16
 have HC:=Lib.hid h
 obtain⟨ta,tn,tc,ma,mn,mc,sa,sn,sc⟩:=dd
 obtain⟨w0,hw0⟩:∃w0,w.alloc (.cells #[.slice ta tn tc, .slice ma mn mc, .slice sa sn sc, .slice no nn nc, .int .i64 kind, .slice to_ tn' tc'] 37)=w0:=⟨_,rfl⟩
 have hb0:Below w.heap.size w w0:=hw0▸below_alloc w _
 have hx0:w0.heap[w.heap.size]?=some (.cells #[.slice ta tn tc, .slice ma mn mc, .slice sa sn sc, .slice no nn nc, .int .i64 kind, .slice to_ tn' tc'] 37):=by rw[←hw0];exact heap_alloc_new w _
 have HSZ1:Hid (w.heap.size<w0.heap.size):=Lib.hid (by rw[←hw0];simp)
 have HA:=Lib.hid (SlI.below hA hb0)
 have HAL:=Lib.hid hA.len
 have HX0:=Lib.hid hx0
 have HB0:=Lib.hid hb0
 have HW0:=Lib.hid hw0
 have HNL:=Lib.hid hNl
 have q1:IntKind.i64.wrap (256+(nn:Int))=256+(nn:Int):=by rw[IntKind.wrap_i64];omega
 unfold cVal
 clear hx0 hb0 hw0 hA h hNl
 go_enter Tryz.func21,Tryz.ntmps21
 go_wp2_with (fail)
 rw[HW0.out]
 go_loopw [8] (fun i wr=>∃k:Nat,k≤n∧i= .int .i64 k∧Hid (checkF V N A=checkF V N (A.drop k))∧Hid (Below w0.heap.size w0 wr)) (fun i _=>n-(intOf i).toNat)
 case atStart=>exact⟨0,Nat.zero_le _,rfl,Lib.hid rfl,Lib.hid (Below.refl _ _)⟩
 case round=>
  obtain⟨k,hk,rfl,HK,HB⟩:=hrel
  obtain⟨b0,b1,b2,b3,b4,b5,bf⟩:=box6 ((HB.out.block w.heap.size HSZ1.out).trans HX0.out)
  by_cases hlt:k<n
  ·obtain⟨b,o,hao,hc⟩:=(SlI.below HA.out HB.out).at_ hlt
   subst hao
   have hkA:k<A.length:=by have:=HAL.out;omega
   have hdr:=checkF_drop (V:=V) (N:=N) hkA
   obtain⟨s,hs⟩:∃s,ix A k=s:=⟨_,rfl⟩
   rw[hs]at hc hdr
   have gk:(k:Int)<(n:Int):=by omega
   by_cases h1:s<0
   ·have g1:decide (s<0)=true:=by simpa using h1
    have HK2:Hid (checkF V N A=1):=Lib.hid (by
     have:faultF V N s=1:=by unfold faultF;rw[if_pos (.inl h1)]
     rw[HK.out,hdr,this];rfl)
    clear hdr hs h1
    go_wp2_with (fail)
    go_quiet (fail)
    go_wp2_with (fail)
    refine bodyPost_ret (results_tmp rfl _ _ _) rfl ⟨by rw[HK2.out];rfl,HB0.out.trans (Below.mono (below_drewN HB.out _) HB0.out.size)⟩
   have g1:decide (s<0)=false:=by simpa using h1
   by_cases h2:256+(nn:Int)≤s
   ·have g2:decide (256+(nn:Int)≤s)=true:=by simpa using h2
    have HK2:Hid (checkF V N A=1):=Lib.hid (by
     have:faultF V N s=1:=by unfold faultF;rw[HNL.out,if_pos (.inr h2)]
     rw[HK.out,hdr,this];rfl)
    clear hdr hs h1 h2
    go_wp2_with (fail)
    go_quiet (fail)
    go_wp2_with (fail)
    refine bodyPost_ret (results_tmp rfl _ _ _) rfl ⟨by rw[HK2.out];rfl,HB0.out.trans (Below.mono (below_drewN HB.out _) HB0.out.size)⟩
   have g2:decide (256+(nn:Int)≤s)=false:=by simpa using h2
   have hnn:¬(s<0∨256+(N.length:Int)≤s):=by rw[HNL.out];omega
   by_cases h3:256≤s
   ·have g3:decide (256≤s)=true:=by simpa using h3
    obtain⟨mk,hmk⟩:∃mk,markAt V N s=mk:=⟨_,rfl⟩
    have HID:Hid (∀W,Ge w0 W→Calls Tryz.prog 62 #[.agg #[.slice ta tn tc, .slice ma mn mc, .slice sa sn sc, .slice no nn nc, .int .i64 kind, .slice to_ tn' tc'], .int .i64 s] W fun e w'=>e= .returned (.int .i64 mk)∧Below W.heap.size W w'):=Lib.hid (fun W hW=>by
     have:=rid_calls (dd:=⟨ta,tn,tc,ma,mn,mc,sa,sn,sc⟩) (kind:=kind) (to_:=to_) (tn':=tn') (tc':=tc') s W ((HC.out.below HB0.out).below hW) h3 (by rw[HNL.out];omega)
     rw[hmk]at this
     exact this)
    by_cases h4:mk<0
    ·have g4:decide (mk<0)=true:=by simpa using h4
     have HK2:Hid (checkF V N A=4):=Lib.hid (by
      have:faultF V N s=4:=by unfold faultF;rw[if_neg hnn,if_pos ⟨h3,by rw[hmk];exact h4⟩]
      rw[HK.out,hdr,this];rfl)
     clear hdr hs h1 h2 h3 h4 hnn hmk
     go_wp2_with (fail)
     go_quiet (fail)
     go_wp2_with (fail)
     go_region_with (go_at_call 62;refine(HID.out _ (by exact below_drewN HB.out _)).mono ?_;rintro e w2 ⟨rfl,hb2⟩;have HB2:=Lib.hid hb2;clear hb2)
     all_goals(
      go_wp2_with (fail)
      refine bodyPost_ret (results_tmp rfl _ _ _) rfl ⟨by rw[HK2.out];rfl,HB0.out.trans (Below.mono ?_ HB0.out.size)⟩
      exact Below.trans (by exact below_drewN HB.out _) (HB2.out.mono HB.out.size))
    ·have g4:decide (mk<0)=false:=by simpa using h4
     have HK2:Hid (checkF V N A=checkF V N (A.drop (k+1))):=Lib.hid (by
      have:faultF V N s=0:=by unfold faultF;rw[if_neg hnn,if_neg (fun h=>h4 (by rw[←hmk];exact h.2))]
      rw[HK.out,hdr,this];rfl)
     clear hdr hs h1 h2 h3 h4 hnn hmk
     go_wp2_with (fail)
     go_quiet (fail)
     go_wp2_with (fail)
     go_region_with (go_at_call 62;refine(HID.out _ (by exact below_drewN HB.out _)).mono ?_;rintro e w2 ⟨rfl,hb2⟩;have HB2:=Lib.hid hb2;clear hb2)
     all_goals(
      go_wp2_with (fail)
      go_roundw
      case rel=>exact⟨k+1,by omega,by go_num,HK2,Lib.hid (Below.trans (by exact below_drewN HB.out _) (HB2.out.mono HB.out.size))⟩
      case measure=>simp[intOf];omega)
   ·have g3:decide (256≤s)=false:=by simpa using h3
    have HK2:Hid (checkF V N A=checkF V N (A.drop (k+1))):=Lib.hid (by
     have:faultF V N s=0:=by unfold faultF;rw[if_neg hnn,if_neg (fun h=>h3 h.1)]
     rw[HK.out,hdr,this];rfl)
    clear hdr hs h1 h2 h3 hnn
    go_wp2_with (fail)
    go_quiet (fail)
    go_wp2_with (fail)
    go_quiet (fail)
    go_wp2_with (fail)
    go_roundw
    case rel=>exact⟨k+1,by omega,by go_num,HK2,Lib.hid (by exact below_drewN HB.out _)⟩
    case measure=>simp[intOf];omega
  ·obtain rfl:k=n:=by omega
   have HK2:Hid (checkF V N A=0):=Lib.hid (by rw[HK.out,List.drop_eq_nil_of_le (by have:=HAL.out;omega)];rfl)
   go_wp2_with (fail)
   refine bodyPost_ret (results_tmp rfl _ _ _) rfl ⟨by rw[HK2.out];rfl,HB0.out.trans (Below.mono HB.out HB0.out.size)⟩
theorem tcounts_calls {P:Nat→Prop} {V:Vc} {N:List ByteArray} {kind:Int} {T:List Rg} {base g:Nat} {room:Int} {cnt:Int} (w:World) (h:Cdr w base g V N kind T room cnt P):
  Calls Tryz.prog 19 #[.pointer (some ⟨g,0,none⟩)] w fun e w'=>∃hits misses,e= .returned (.tuple #[.int .i64 hits, .int .i64 misses])∧hits+misses=cnt∧0≤hits∧0≤misses∧(room=0→hits=0)∧Below w.heap.size w w':=by
 obtain⟨cb,mb,no,l,hits,misses,hq,hok,hsum⟩:=h
 have HC:=Lib.hid (crep_counts hq.rep.rep)
 obtain⟨_,_,_,_,_,_,_,_,_,_,_,_,hbx,_⟩:=hq.codR.cod
 obtain⟨c0,c1,c2,c3,c4,c5,c6,c7,c8,cf⟩:=box9 hbx
 have HO:=Lib.hid hok
 have HS:=Lib.hid hsum
 clear hq hok hsum hbx
 go_enter Tryz.func19,Tryz.ntmps19
 go_wp2_with (go_at_call 61;refine HC.out.mono ?_;rintro e w1 ⟨rfl,hb1⟩;have HB1:=Lib.hid hb1;clear hb1)
 refine bodyPost_ret (v:= .tuple #[.int .i64 hits, .int .i64 misses]) ?_ rfl ⟨hits,misses,rfl,HS.out,HO.out.hz,HO.out.mz,fun e=>(HO.out.zr e).1,HB1.out⟩
 simp[results,Tryz.results19,go_sem]
open Go
def PcsOk:List (Int×Bool)→List Int→Prop
 | [],A=>A= []
 | p::ps,A=>1≤p.1∧p.1≤A.length∧MayPc (A.take p.1.toNat)∧PcsOk ps (A.drop p.1.toNat)
theorem run_take {text:List Int} {n:Int} (h1:1≤n) (h2:n≤(runOf text).length):text.take n.toNat=(runOf text).take n.toNat:=by
 obtain⟨r,hr⟩:runOf text <+:text:=List.takeWhile_prefix isB
 rw[←hr,List.take_append_of_le_length (by omega)]
 have:runOf (runOf text++r)=runOf text:=by rw[hr]
 rw[this]
theorem splitGo_ok {kind:Int} {t:List Rg} {final:Bool} (ht:MayTab t):∀{k:Nat} {text:List Int} {op:Bool},text.length≤k→(∀y∈text,0≤y)→PcsOk (splitGo kind t final k text op) text
 | 0,text,op,h,_=>by
  have:text= []:=List.eq_nil_of_length_eq_zero (by omega)
  subst this
  rfl
 | k+1,text,op,h,hp=>by
  by_cases h0:text= []
  ·subst h0;rw[splitGo_nil];rfl
  ·have hl:=List.length_pos_iff.2 h0
   by_cases hr:runOf text= []
   ·cases text with
    | nil=>exact absurd rfl h0
    | cons m l=>
     have hm:isB m=false:=by
      cases hb:isB m with
      | false=>rfl
      | true=>simp[runOf,hb]at hr
     rw[splitGo_mark hm]
     have hm2:256≤m:=by
      have h1:=hp m (by simp)
      rcases Int.lt_or_le m 256 with h2 | h2
      ·rw[isB_iff.2 ⟨h1,h2⟩]at hm;cases hm
      ·exact h2
     refine⟨by simp,by simp;omega, .inl ⟨m,by simp,hm2⟩,?_⟩
     exact splitGo_ok ht (by simp only[List.length_cons]at h;show l.length≤k;omega) (fun y hy=>hp y (List.mem_of_mem_drop (i:=(1:Int).toNat) hy))
   ·obtain⟨⟨n,d⟩,hn⟩:∃x,nextF kind t (runOf text) (final || decide ((runOf text).length<text.length))=x:=⟨_,rfl⟩
    have hle:=nextF_le (kind:=kind) ht runOf_b hr (final || decide ((runOf text).length<text.length))
    rw[hn]at hle
    simp only at hle
    have hrl:=runOf_le text
    rw[splitGo_run hr hn]
    refine⟨hle.1,by simp only;omega, .inr ⟨?_,?_⟩,?_⟩
    ·simp only
     intro e
     have h9:=congrArg List.length e
     rw[List.length_take,List.length_nil]at h9
     omega
    ·simp only
     rw[run_take hle.1 hle.2]
     intro y hy
     exact runOf_b y (List.mem_of_mem_take hy)
    ·exact splitGo_ok ht (by simp only[List.length_drop];omega) (fun y hy=>hp y (List.mem_of_mem_drop hy))
theorem faultF_pos {V:Vc} {N:List ByteArray} {s:Int} (h:faultF V N s=0):0≤s∧s<256+(N.length:Int):=by
 unfold faultF at h
 by_cases h1:s<0∨256+(N.length:Int)≤s
 ·rw[if_pos h1]at h;cases h
 ·omega
theorem split_ok {V:Vc} {N:List ByteArray} {kind:Int} {t:List Rg} {final:Bool} (ht:MayTab t) {A:List Int} (hc:checkF V N A=0):PcsOk (splitF kind t A final) A:=
 splitGo_ok ht (Nat.le_refl _) (fun y hy=>(faultF_pos (checkF_all.1 hc y hy)).1)
theorem checkF_take {V:Vc} {N:List ByteArray} {A:List Int} (hc:checkF V N A=0) (k:Nat):checkF V N (A.take k)=0∧checkF V N (A.drop k)=0:=
 ⟨checkF_all.2 (fun s hs=>checkF_all.1 hc s (List.mem_of_mem_take hs)),checkF_all.2 (fun s hs=>checkF_all.1 hc s (List.mem_of_mem_drop hs))⟩
theorem wpList_ints_lies {w:World} {ops:Array Oper} {rest:List Oper} {o:Oper} {a:Act} {Q:Exit→Act→World→Prop} (hgd:o.guard=none) (s x:Operand)
  (ho:o.op= .call {callee:= .builtin .append,args:=#[s,x],argTypes:=#[43,43]})
  {base b m c k:Nat} {v:Value} {A R:List Int} (hs:a.eval s=v) (hown:Own w base v A) (hk:A.length=k) (hx:a.eval x= .slice (some ⟨b,0,none⟩) m c)
  (hl:SlI w (some ⟨b,0,none⟩) m c R) (hm0:0<m) (hm:k+m<1048576) (hbase:base≤w.heap.size)
  (hK:∀g cap' w',Own w' base (.slice (some ⟨g,0,none⟩) (k+m) cap') (A++R)→w.grownBy w' v.ownBlock→(v.ownBlock=some g∨g=w.heap.size)→wpList Tryz.prog ops Q rest (a.put o.dst (.slice (some ⟨g,0,none⟩) (k+m) cap')) w'):
  wpList Tryz.prog ops Q (o::rest) a w:=by
 obtain⟨i0,hi0,hz0,hz1,hz2⟩:=info_parts infoInt3
 subst hk
 have hRl:=hl.len
 refine wpList_append_lies (P:=Tryz.prog) (w:=w) hgd s x 43 ho base 3 i0 _ 1 8 Tryz.underlying43 hi0 hz0 hz1 hz2 rfl (by omega) _ A.length _ hs hown ⟨b,0,none⟩ m c (R.map (.int .i64)) hx (by rw[List.length_map];omega)
  (fun j u hu=> ?_) (int_one R) hm0 (by unfold maxLen;omega) (by omega) hbase w.heap.size rfl ?_
 ·obtain⟨b',o',e,hc⟩:=Sl.at_ hl j u hu
  simp only[Option.some.injEq,Addr.mk.injEq,and_true]at e
  obtain⟨rfl,rfl⟩:=e
  rw[Addr.add_lit];exact hc
 ·intro g cap' w' ho' hgr hat hlt
  refine hK g cap' w' ?_ hgr hat
  unfold Own
  rw[List.length_append,List.map_append,hRl]
  exact ho'
theorem two_sl {w:World} {tb:Nat} {x m:Int} {t:TypeId} (h:w.heap[tb]?=some (.cells #[.int .i64 x, .int .i64 m] t)):SlI w (some ⟨tb,0,none⟩) 2 2 [x,m]:=by
 refine⟨rfl,Nat.le_refl _,by unfold maxLen;omega,fun h=>(by cases h),fun i u hu=>⟨tb,0,rfl,?_⟩⟩
 match i,hu with
 | 0,hu=>simp at hu;subst hu;simp[World.cell?,h]
 | 1,hu=>simp at hu;subst hu;simp[World.cell?,h]
 | i+2,hu=>simp at hu
theorem Cch.base {cb mb base:Nat} {no no':Option Addr} {w w':World} (h:Cch cb mb no no' w w') (hf:∀q,Ft cb mb no q→base≤q) (hb:base≤w.heap.size):Below base w w':=
 ⟨h.os,h.tape,h.output,h.size,fun q hq=>h.block q (by omega) (fun e=>by have:=hf q e;omega)⟩
theorem stepF_pos {M:List Mg} {row r:List Int} (h:stepF M row=some r):0<r.length:=by
 have hl:=stepF_len h
 unfold stepF at h
 split at h
 ·next he=>
  obtain⟨a,b,h1,h2,h3⟩:=he.choose_spec.at_
  have:=(List.getElem?_eq_some_iff.1 h2).1
  omega
 ·cases h
theorem runF_pos {M:List Mg}:∀(k:Nat) (r:List Int),0<r.length→0<(runF M k r).length
 | 0,r,h=>h
 | k+1,r,h=>by
  cases hs:stepF M r with
  | none=>rw[runF_end hs];exact h
  | some r'=>
   have:=runF_pos k r' (stepF_pos hs) (M:=M)
   simp only[runF,hs]
   exact this
theorem encF_pos {V:Vc} {A:List Int} (h:0<A.length):0<(encF V A).length:=
 runF_pos (M:=V.merges) A.length (rowOf V A) (by rw[rowOf_len];exact h)
theorem pieceF_len {V:Vc} {N:List ByteArray} {A:List Int} (hc:checkF V N A=0) (hm:MayPc A):0<(pieceF V N A).length∧(pieceF V N A).length≤A.length:=by
 rcases hm with⟨x,rfl,hx⟩ | ⟨hne,hb⟩
 ·rw[pieceF_mark hc hx];simp
 ·rw[pieceF_bytes hc hne hb]
  exact⟨encF_pos (List.length_pos_iff.2 hne),encF_le V A⟩
def byN:List (Int×Bool)→List Int→Int
 | [],_=>0
 | p::ps,A=>isBy (A.take p.1.toNat)+byN ps (A.drop p.1.toNat)
theorem isBy_01 (A:List Int):0≤isBy A∧isBy A≤1:=by
 unfold isBy;split<;>omega
theorem PcsOk.len:∀{ps:List (Int×Bool)} {A:List Int},PcsOk ps A→ps.length≤A.length
 | [],A,h=>Nat.zero_le _
 | p::ps,A,h=>by
  have:=PcsOk.len h.2.2.2
  have:=h.1
  have:=h.2.1
  simp only[List.length_drop,List.length_cons]at *
  omega
theorem pieceQ_calls {P:Nat→Prop} {V:Vc} {N:List ByteArray} {kind:Int} {T:List Rg} {base g:Nat} {room:Int} {cnt:Int} {A:List Int} {ao:Option Addr} {n c:Nat} (w:World) (h:Cdr w base g V N kind T room cnt P) (hM:May V) (hN:N.length≤16) (hr:room≤1048576)
  (hA:SlI w ao n c A) (hn:n≤100000) (hm:MayPc A) (hc:checkF V N A=0) (hcnt:cnt<1000000):
  Calls Tryz.prog 59 #[.pointer (some ⟨g,0,none⟩), .slice ao n c] w (PcQ w base g V N kind T room cnt P (pieceF V N A) (isBy A)):=by
 have hl:=hA.len
 rcases hm with⟨x,rfl,hx⟩ | ⟨hne,hb⟩
 ·simp only[List.length_singleton]at hl
  subst hl
  exact pieceQ_mark w h hN hA hx hc
 ·exact pieceQ_bytes w h hM hN hr hA (by have:=List.length_pos_iff.2 hne;omega) hn hb hc hcnt
def EncQ (w:World) (base g:Nat) (V:Vc) (N:List ByteArray) (kind:Int) (T:List Rg) (room cnt:Int) (P:Nat→Prop) (R:List Int) (d:Int) (e:Ending) (w':World):Prop:=
 ∃v P',e= .returned (.tuple #[v, .int .i64 0])∧Own w' w.heap.size v R∧Cdr w' base g V N kind T room (cnt+d) P'∧(∀q,P' q→P q∨w.heap.size≤q)∧(∀q,v.ownBlock=some q→¬P' q)∧Keeps P w w'
structure EnL (V:Vc) (N:List ByteArray) (ps:List (Int×Bool)) (w1 wr:World) (base g:Nat) (kind:Int) (T:List Rg) (room cnt:Int) (P:Nat→Prop) (ao:Option Addr) (n c:Nat) (A R:List Int) (D:Int) (k:Nat) (O B:List Int) (bo:Option Addr) (m c':Nat) (P':Nat→Prop) (d:Int) (o:Value):Prop where
 own:Own wr w1.heap.size o O
 cdr:Cdr wr base g V N kind T room (cnt+d) P'
 sub:∀q,P' q→P q∨w1.heap.size≤q
 fresh:∀q,o.ownBlock=some q→¬P' q
 kp:Keeps (fun q=>P q∨w1.heap.size≤q) w1 wr
 sl:∀W,SlI W ao n c A→SlI W bo m c' B
 ok:PcsOk (ps.drop k) B
 ck:checkF V N B=0
 tot:O++piecesT V N (ps.drop k) B=R
 by_:d+byN (ps.drop k) B=D
 le:O.length+B.length≤n∧d+B.length≤n∧0≤d
theorem tencode_calls {P:Nat→Prop} {V:Vc} {N:List ByteArray} {kind:Int} {T:List Rg} {base g:Nat} {room:Int} {cnt:Int} {A:List Int} {ao:Option Addr} {n c:Nat} (w:World) (h:Cdr w base g V N kind T room cnt P) (hM:May V) (hN:N.length≤16) (hT:MayTab T) (hk0:0≤kind) (hk3:kind≤3) (hr:room≤1048576)
  (hA:SlI w ao n c A) (hAo:∀ad,ao=some ad→0<n→ad.block<w.heap.size∧¬P ad.block) (hn:n≤100000) (hcnt:cnt+n<1000000) (hc:checkF V N A=0):
  Calls Tryz.prog 17 #[.pointer (some ⟨g,0,none⟩), .slice ao n c] w (EncQ w base g V N kind T room cnt P (textF V N kind T A) (byN (splitF kind T A true) A)):=by
 obtain⟨ps,hps⟩:∃ps,splitF kind T A true=ps:=⟨_,rfl⟩
 have hok:PcsOk ps A:=hps▸split_ok hT hc
 obtain⟨cb,hcod⟩:=h.cod
 have hCk:=check_calls w hcod hN hA (by omega)
 rw[hc]at hCk
 have hSp:=tsplit_calls true w hcod hA (by omega) hT hk0 hk3
 rw[hps]at hSp
 obtain⟨R,hR⟩:∃R,textF V N kind T A=R:=⟨_,rfl⟩
 have htot:piecesT V N ps A=R:=by rw[←hR,textF,hps]
 rw[hR,hps]
 obtain⟨D,hD⟩:∃D,byN ps A=D:=⟨_,rfl⟩
 rw[hD]
 have hAl:=hA.len
 have hps1:ps.length≤100000:=by have:=hok.len;omega
 have HCK:=Lib.hid hCk
 have HSP:=Lib.hid hSp
 have HV:=Lib.hid h
 have HA:=Lib.hid hA
 have HAL:=Lib.hid hAl
 have HAO:=Lib.hid hAo
 have HMY:=Lib.hid hM
 have HI:=Lib.hid (And.intro hok (And.intro hc (And.intro htot hD)))
 have HCN:=Lib.hid hcnt
 clear h hA hAl hAo hc hps hCk hSp hM hok hR htot hD hcod hcnt
 obtain⟨i0,hi0,hz0,hz1,hz2⟩:=info_parts infoInt3
 go_enter Tryz.func17,Tryz.ntmps17
 go_wp2_with (go_at_call 33;refine HCK.out.mono ?_;rintro e w1 ⟨rfl,rfl⟩)
 go_at_call 18
 refine HSP.out.mono ?_
 rintro e w1 ⟨⟨pv,rfl,ho⟩,hb1⟩
 obtain⟨pa,pc',rfl,hps⟩:=ho.sl
 have hplt:0<ps.length→∀ad,pa=some ad→ad.block<w1.heap.size∧w.heap.size≤ad.block:=fun hl ad e=>by
  obtain⟨pb,pc,hpv,hpb,hpl⟩:=OwnF.at0 ho hl
  obtain⟨rfl,-,rfl⟩:=Value.slice.inj hpv
  obtain rfl:(⟨pb,0,none⟩:Addr)=ad:=Option.some.inj e
  exact⟨hpl,hpb⟩
 have HPS:=Lib.hid hps
 have HPL:=Lib.hid hplt
 have HB1:=Lib.hid hb1
 have HPW:=Lib.hid (fun q (hq:P q)=>(HV.out.lt q hq).2)
 clear ho hps hplt hb1
 go_wp2_with (fail)
 go_loopw [1,7,20] (fun tx o i wr=>∃(k:Nat) (O B:List Int) (bo:Option Addr) (m c':Nat) (P':Nat→Prop) (d:Int),k≤ps.length∧i= .int .i64 k∧tx= .slice bo m c'∧Hid (EnL V N ps w1 wr base g kind T room cnt P ao n c A R D k O B bo m c' P' d o)) (fun _ _ i _=>ps.length-(intOf i).toNat)
 case atStart=>exact⟨0,[],A,ao,n,c,P,0,Nat.zero_le _,rfl,rfl,Lib.hid ⟨Own.nil _ _,by rw[Int.add_zero];exact HV.out.below HB1.out,fun q hq=> .inl hq,fun q hq=>(by cases hq),Keeps.refl _ _,fun W hW=>hW,HI.out.1,HI.out.2.1,HI.out.2.2.1,by rw[Int.zero_add];exact HI.out.2.2.2,by have:=HAL.out;simp;omega⟩⟩
 case round=>
  obtain⟨k,O,B,bo,m,c',P',d,hk,rfl,rfl,HL⟩:=hrel
  obtain⟨ov,hov⟩:∃ov,ov=u7:=⟨_,rfl⟩
  subst hov
  by_cases hlt:k<ps.length
  ·obtain⟨⟨pn,pd⟩,hp⟩:∃x,ps[k]=x:=⟨_,rfl⟩
   have hdr:ps.drop k=(pn,pd)::ps.drop (k+1):=by rw[List.drop_eq_getElem_cons hlt,hp]
   have hok:=HL.out.ok
   rw[hdr]at hok
   obtain⟨h1,h2,h3,h4⟩:=hok
   simp only at h1 h2 h3 h4
   obtain⟨j,rfl⟩:∃j:Nat,pn=j:=⟨pn.toNat,by omega⟩
   rw[Int.toNat_natCast]at h3 h4
   have hBm:B.length=m:=by
    have hs:=HL.out.sl w HA.out
    exact hs.len
   have hjm:j≤m:=by omega
   have htot:=HL.out.tot
   have hby:=HL.out.by_
   rw[hdr]at htot hby
   simp only[piecesT,byN,Int.toNat_natCast]at htot hby
   have hPq:∀q,w.heap.size≤q→q<w1.heap.size→¬(P q∨w1.heap.size≤q):=fun q h1 h2 h3=>by
    rcases h3 with h3 | h3
    ·have:=HPW.out q h3;omega
    ·omega
   have hpw:SlF 2 wr pa ps.length pc' (flat pcEnc ps):=HPS.out.keep0 (fun ad e hl=>by
    obtain⟨a1,a2⟩:=HPL.out hl ad e
    exact HL.out.kp.block _ a1 (hPq _ a2 a1))
   obtain⟨b,of,rfl,hce⟩:=hpw.elem pcEnc_len (by omega) (k:=k) (x:=((j:Int),pd)) (by rw[←hp];exact List.getElem?_eq_getElem hlt)
   have d0:=hce 0 _ rfl
   have d1:=hce 1 _ rfl
   rw[Nat.add_zero]at d0
   simp only at d0 d1
   have gk:(k:Int)<(ps.length:Int):=by omega
   have hAw:SlI wr ao n c A:=(SlI.below HA.out HB1.out).keep0 (fun ad e hl=>by
    obtain⟨a1,a2⟩:=HAO.out ad e hl
    refine HL.out.kp.block _ (Nat.lt_of_lt_of_le a1 HB1.out.size) (fun hq=> ?_)
    rcases hq with hq | hq
    ·exact a2 hq
    ·have:=HB1.out.size;omega)
   have hBw:=HL.out.sl wr hAw
   have hb2:=below_alloc wr (.cells #[.int .i64 j, .bool pd] 51)
   have HSA:Hid (SlI (wr.alloc (.cells #[.int .i64 j, .bool pd] 51)) bo m c' B):=Lib.hid (SlI.below hBw hb2)
   obtain⟨W2,hW2⟩:∃W2,wr.alloc (.cells #[.int .i64 j, .bool pd] 51)=W2:=⟨_,rfl⟩
   have hx2:W2.heap[wr.heap.size]?=some (.cells #[.int .i64 j, .bool pd] 51):=by rw[←hW2];exact heap_alloc_new wr _
   have hS2:wr.heap.size<W2.heap.size:=by rw[←hW2];simp
   rw[hW2]at hb2
   have hcw:=HL.out.cdr
   have hckB:checkF V N (B.take j)=0:=(checkF_take HL.out.ck j).1
   have hckD:checkF V N (B.drop j)=0:=(checkF_take HL.out.ck j).2
   have hpl:=pieceF_len hckB h3
   rw[List.length_take]at hpl
   have hBW2:SlI W2 bo m c' B:=SlI.below hBw hb2
   have HPC:=Lib.hid (pieceQ_calls W2 (hcw.below hb2) HMY.out hN hr (hBW2.take hjm) (by have:=HL.out.le;omega) h3 hckB (by have:=HL.out.le;have:=HCN.out;omega))
   obtain⟨pr,hpr⟩:∃pr,pieceF V N (B.take j)=pr:=⟨_,rfl⟩
   rw[hpr]at HPC hpl htot
   obtain⟨dd,hdd⟩:∃dd,isBy (B.take j)=dd:=⟨_,rfl⟩
   have hd01:=isBy_01 (B.take j)
   rw[hdd]at HPC hby hd01
   have HF:=Lib.hid (And.intro h4 (And.intro hckD (And.intro htot (And.intro hby (And.intro hpl hd01)))))
   have HW2:=Lib.hid hW2
   have HX2:=Lib.hid hx2
   have HS2:=Lib.hid hS2
   have HB2:=Lib.hid hb2
   have HBM:=Lib.hid hBm
   have HLE:=Lib.hid (Sl.le hBw)
   have HCL:=Lib.hid hcw.lt
   clear hce hpw hAw hBw hb2 hW2 hx2 hS2 hcw hckB hckD hpl hBW2 h1 h2 h3 h4 htot hby hPq hp hdr hpr hdd hd01 hBm
   go_wp2_with (with_reducible show wpList _ _ _ (⟨_, .slice _ _ none (some _) none,_,_,_,_⟩::_) _ _;refine wpList_int_high rfl 43 _ _ rfl 3 i0 Tryz.underlying43 hi0 hz1 (k:=j) rfl HSA.out rfl rfl hjm ?_;intro hb';clear hb')
   rw[HW2.out]
   go_at_call 59
   refine HPC.out.mono ?_
   rintro e w3 ⟨v3,P3,rfl,ho3,hV3,hs3,hk3'⟩
   obtain⟨rb,rc,hv3⟩:=own_at0 ho3 HF.out.2.2.2.2.1.1
   subst hv3
   obtain⟨ra,rc',e3,hsl3⟩:=ho3.sl
   obtain⟨rfl,-,rfl⟩:=Value.slice.inj e3
   have h9:w3.cell? ⟨wr.heap.size,0,none⟩=some (.int .i64 j):=by
    have hh:=hk3'.block wr.heap.size HS2.out (fun hq=>by have:=(HCL.out _ hq).2;omega)
    rw[World.cell?_of_block (w:=W2) hh]
    simp[World.cell?,HX2.out]
   have hlt7:∀q,ov.ownBlock=some q→w1.heap.size≤q∧q<wr.heap.size:=fun q hq=>World.ownsRow.lt HL.out.own q hq
   have HO3:Hid (Own w3 w1.heap.size ov O):=Lib.hid (own_stay (HL.out.own.below HB2.out) (fun q hq=>hk3'.block q (Nat.lt_trans (hlt7 q hq).2 HS2.out) (HL.out.fresh q hq)))
   have HS3:Hid (W2.heap.size≤w3.heap.size):=Lib.hid hk3'.size
   have HSL3:=Lib.hid hsl3
   have HV3:=Lib.hid hV3
   have HK3:=Lib.hid hk3'
   have HP3:=Lib.hid hs3
   have H7:=Lib.hid hlt7
   have HBS:Hid (w1.heap.size≤w3.heap.size):=Lib.hid (by have:=HL.out.kp.size;have:=HS2.out;have:=HS3.out;omega)
   have hPL:0<pr.length∧O.length+pr.length<1048576:=⟨HF.out.2.2.2.2.1.1,by have:=HF.out.2.2.2.2.1.2;have:=HL.out.le;have:=HBM.out;omega⟩
   clear ho3 e3 hsl3 hV3 hk3' hs3 hlt7 d0 d1
   obtain⟨oa,oc,hov,-⟩:=HO3.out.sl
   subst hov
   go_wp2_with (first
    | (at_builtin;refine wpList_ints_lies rfl _ _ rfl (base:=w1.heap.size) (v:= .slice oa O.length oc) (k:=O.length) (m:=pr.length) rfl HO3.out rfl rfl HSL3.out hPL.1 hPL.2 HBS.out ?_;intro gg cap w4 ho4 hg4 hat4;have k9:w4.cell? ⟨wr.heap.size,0,none⟩=some (.int .i64 j):=(World.cell?_of_block (w:=w3) (hg4.block wr.heap.size (Nat.lt_of_lt_of_le HS2.out HS3.out) (fun e=>by have:=(H7.out _ e.symm).2;omega))).trans h9;have HO4:=Lib.hid ho4;have HG4:=Lib.hid hg4;have HAT4:=Lib.hid hat4;clear ho4 hg4 hat4)
    | (with_reducible show wpList _ _ _ (⟨_, .slice _ _ (some _) none none,_,_,_,_⟩::_) _ _;refine wpList_slice_low_at rfl 43 _ _ rfl 3 i0 Tryz.underlying43 hi0 hz1 bo m c' rfl HLE.out .i64 (j:Int) j rfl rfl hjm ?_;intro bo' hbo;have HBO:=Lib.hid hbo;clear hbo))
   have hnP:∀q,(Value.slice oa O.length oc).ownBlock=some q→¬P3 q:=fun q hq h3=>by
    rcases HP3.out q h3 with h3 | h3
    ·exact HL.out.fresh q hq h3
    ·have:=(H7.out q hq).2;have:=HS2.out;omega
   have HEN:Hid (EnL V N ps w1 w4 base g kind T room cnt P ao n c A R D (k+1) (O++pr) (B.drop j) bo' (m-j) (c'-j) P3 (d+dd) (.slice (some ⟨gg,0,none⟩) (O.length+pr.length) cap)):=Lib.hid (by
    obtain⟨f1,f2,f3,f4,f5,f6⟩:=HF.out
    refine⟨HO4.out,?_,fun q hq=> ?_,fun q hq h3=> ?_,?_,fun W hW=> ?_,f1,f2,by rw[List.append_assoc];exact f3,by rw[Int.add_assoc];exact f4,?_⟩
    ·have h:=HV3.out
     rw[Int.add_assoc]at h
     exact h.stay (fun q hq=>HG4.out.block q (h.lt q hq).2 (fun e=>hnP q e.symm hq)) HG4.out.size
    ·rcases HP3.out q hq with h3 | h3
     ·exact HL.out.sub q h3
     ·exact .inr (by have:=HL.out.kp.size;have:=HS2.out;omega)
    ·obtain rfl:gg=q:=by simpa[Value.ownBlock]using hq
     rcases HAT4.out with h5 | h5
     ·exact hnP gg h5 h3
     ·have:=(HV3.out.lt gg h3).2;omega
    ·refine Keeps.grown (((HL.out.kp.trans (Keeps.of_below HB2.out)).trans (HK3.out.mono (fun q _ hq=>HL.out.sub q hq)))) HG4.out (fun q e hq=> .inr (H7.out q e).1)
    ·have:=HBO.out W _ (HL.out.sl W hW)
     unfold SlI
     rw[List.map_drop]
     exact this
    ·have:=HL.out.le
     have:=HBM.out
     rw[List.length_append,List.length_drop]
     omega)
   clear hnP k9 h9
   go_wp2_with (fail)
   go_roundw
   case rel=>exact⟨k+1,_,_,bo',m-j,c'-j,P3,d+dd,by omega,by go_num,rfl,HEN⟩
   case measure=>simp[intOf];omega
  ·obtain rfl:k=ps.length:=by omega
   have HE:Hid (O=R∧d=D):=Lib.hid (by
    have h1:=HL.out.tot
    have h2:=HL.out.by_
    rw[List.drop_length]at h1 h2
    simp only[piecesT,byN,List.append_nil]at h1 h2
    exact⟨h1,by omega⟩)
   go_wp2_with (fail)
   refine bodyPost_ret (v:= .tuple #[ov, .int .i64 0]) ?_ rfl ⟨ov,P',rfl,?_,?_,fun q hq=> ?_,HL.out.fresh,?_⟩
   ·simp[results,Tryz.results17,go_sem]
   ·rw[←HE.out.1];exact HL.out.own.mono HB1.out.size
   ·rw[←HE.out.2];exact HL.out.cdr
   ·exact(HL.out.sub q hq).imp id (fun h=>Nat.le_trans HB1.out.size h)
   ·exact((Keeps.of_below HB1.out).trans HL.out.kp).mono (fun q h1 h2=>h2.resolve_right (fun h3=>by have:=HB1.out.size;omega))
theorem tencode_fault {V:Vc} {N:List ByteArray} {kind:Int} {T:List Rg} {base g cb:Nat} {A:List Int} {ao:Option Addr} {n c:Nat} (w:World) (hcod:TCod w base g V N kind T cb) (hN:N.length≤16)
  (hA:SlI w ao n c A) (hn:n≤100000) (hc:checkF V N A≠0):
  Calls Tryz.prog 17 #[.pointer (some ⟨g,0,none⟩), .slice ao n c] w (fun e w'=>e= .returned (.tuple #[.slice none 0 0, .int .i64 (checkF V N A)])∧w'=w):=by
 have hCk:=check_calls w hcod hN hA (by omega)
 obtain⟨x,hx⟩:∃x,checkF V N A=x:=⟨_,rfl⟩
 rw[hx]at hCk hc ⊢
 have gx:(x==0)=false:=by simpa using hc
 have HCK:=Lib.hid hCk
 clear hCk hx hc
 go_enter Tryz.func17,Tryz.ntmps17
 go_wp2_with (go_at_call 33;refine HCK.out.mono ?_;rintro e w1 ⟨rfl,rfl⟩)
 refine bodyPost_ret (v:= .tuple #[.slice none 0 0, .int .i64 x]) ?_ rfl ⟨rfl,rfl⟩
 simp[results,Tryz.results17,go_sem]
def rowsN (n:Nat):List Rw:=(List.range n).map fun b=>⟨one b,(b:Int)⟩
theorem rowsN_succ (n:Nat):rowsN (n+1)=rowsN n++ [⟨one n,(n:Int)⟩]:=by
 unfold rowsN;rw[List.range_succ,List.map_append];rfl
theorem rowsN_mem {n:Nat} {r:Rw} (h:r∈rowsN n):∃b,b<n∧r=⟨one b,(b:Int)⟩:=by
 unfold rowsN at h
 obtain⟨b,hb,rfl⟩:=List.mem_map.1 h
 exact⟨b,List.mem_range.1 hb,rfl⟩
theorem rowsN_len (n:Nat):(rowsN n).length=n:=by simp[rowsN]
theorem rowsN_tok (n i:Nat):tokAt (rowsN n) i=if i<n then one i else ByteArray.empty:=by
 induction n with
 | zero=>rfl
 | succ n ih=>
  rw[rowsN_succ]
  by_cases e:i=n
  ·subst e
   rw[tokAt_snoc (fun r hr=>by obtain⟨b,hb,rfl⟩:=rowsN_mem hr;simp only;omega)]
   simp
  ·rw[tokAt_snoc_other (by simp only;omega),ih]
   by_cases h:i<n
   ·rw[if_pos h,if_pos (by omega)]
   ·rw[if_neg h,if_neg (by omega)]
def abS:ByteArray:=⟨#[97,98]⟩
def R0:List Rw:=rowsN 256++ [⟨abS,256⟩]
def T0:List ByteArray:=(List.range 256).map one++ [abS]
theorem T0_len:T0.length=257:=by simp[T0]
theorem T0_low {i:Nat} (h:i<256):tk T0 i=one i:=by
 unfold tk T0
 rw[List.getD_eq_getElem?_getD,List.getElem?_append_left (by simpa using h)]
 simp[h]
theorem T0_top:tk T0 256=abS:=by
 unfold tk T0
 rw[List.getD_eq_getElem?_getD,List.getElem?_append_right (by simp)]
 simp
theorem one_inj {i j:Nat} (hi:i<256) (hj:j<256) (h:one i=one j):i=j:=by
 unfold one at h
 simp only[ByteArray.mk.injEq,Array.mk.injEq,List.cons.injEq,and_true]at h
 have:=congrArg UInt8.toNat h
 simp at this
 omega
theorem uniq_T0:Uniq T0:=fun i j h1 h2 e=>by
 rw[T0_len]at h2
 by_cases hj:j=256
 ·subst hj
  rw[T0_low (by omega),T0_top]at e
  have:=congrArg ByteArray.size e
  simp[one,abS,ByteArray.size]at this
 ·rw[T0_low (by omega),T0_low (by omega)]at e
  have:=one_inj (by omega) (by omega) e
  omega
def m0:Mg:=⟨97,98,256,256⟩
theorem ok_R0:OkRows R0 []:=by
 refine⟨by simp,fun r hr=> ?_,?_⟩
 ·rcases List.mem_append.1 hr with h | h
  ·obtain⟨b,hb,rfl⟩:=rowsN_mem h
   simp only;omega
  ·obtain rfl:=List.mem_singleton.1 h
   simp only;omega
 ·unfold R0
  rw[List.pairwise_append]
  refine⟨?_,by simp,fun a ha b hb=> ?_⟩
  ·unfold rowsN
   rw[List.pairwise_map]
   exact List.pairwise_lt_range.imp (fun h=>by simp only;omega)
  ·obtain⟨q,hq,rfl⟩:=rowsN_mem ha
   obtain rfl:=List.mem_singleton.1 hb
   simp only;omega
end Go.Proofs.YtimkkkdabmhedaaGreatDoor
