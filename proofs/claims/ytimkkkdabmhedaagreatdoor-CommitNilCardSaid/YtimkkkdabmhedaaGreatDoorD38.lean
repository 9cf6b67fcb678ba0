/- Walks: a text's first fault, by the document: ref16.id, ref16.Check; the coder's Counts. -/
import Derived.Test.YtimkkkdabmhedaaGreatDoorD36
import Derived.Test.YtimkkkdabmhedaaGreatDoorD18
import Derived.LoopN
import Derived.Test.YtimkkkdabmhedaaGreatDoorD37
import Derived.Test.YtimkkkdabmhedaaGreatDoorD19
set_option linter.unusedVariables false
set_option maxHeartbeats 2000000
set_option maxRecDepth 100000
namespace Go.Proofs.YtimkkkdabmhedaaGreatDoor
open Go.RowKit
theorem spNamed_hit {S:List Sp} {t:ByteArray} {k:Nat} (hk:k<S.length) (h:(sp S k).name=t) (hno:∀j,j<k→(sp S j).name≠t):spNamed S t=some (sp S k):=by
 unfold spNamed
 rw[List.find?_eq_some_iff_getElem]
 exact⟨by simpa using h,k,hk,sp_get hk,fun j hj=>by rw[sp_get (by omega)];simpa using hno j hj⟩
theorem spNamed_miss {S:List Sp} {t:ByteArray} (hno:∀j,j<S.length→(sp S j).name≠t):spNamed S t=none:=by
 unfold spNamed
 rw[List.find?_eq_none]
 intro x hx
 obtain⟨j,hj,rfl⟩:=List.getElem_of_mem hx
 rw[sp_get hj];simpa using hno j hj
theorem markAt_eq {V:Vc} {N:List ByteArray} {s:Int} {k:Nat} (hs:s-256=k) (hk:k<N.length):markAt V N s=idOf (spNamed V.specials (tk N k)):=by
 unfold markAt marksOf
 rw[hs,Int.toNat_natCast]
 simp[ix,List.getD,hk,tk]
theorem rid_calls {V:Vc} {N:List ByteArray} {dd:Vd} {no to_:Option Addr} {nn nc tn' tc':Nat} {kind:Int} (s:Int) (w:World) (h:CR w dd no nn nc V N) (hs:256≤s) (hl:s<256+(N.length:Int)):
  Calls Tryz.prog 62 #[cVal dd no nn nc kind to_ tn' tc', .int .i64 s] w fun e w'=>e= .returned (.int .i64 (markAt V N s))∧Below w.heap.size w w':=by
 obtain⟨hV,hN,-,hn16,hsp,-⟩:=h
 obtain⟨ta,tn,tc,ma,mn,mc,sa,sn,sc⟩:=dd
 obtain⟨w0,hw0⟩:∃w0,w.alloc (.cells #[.slice ta tn tc, .slice ma mn mc, .slice sa sn sc, .slice no nn nc, .int .i64 kind, .slice to_ tn' tc'] 37)=w0:=⟨_,rfl⟩
 have hb0:Below w.heap.size w w0:=hw0▸below_alloc w _
 have hx0:w0.heap[w.heap.size]?=some (.cells #[.slice ta tn tc, .slice ma mn mc, .slice sa sn sc, .slice no nn nc, .int .i64 kind, .slice to_ tn' tc'] 37):=by rw[←hw0];exact heap_alloc_new w _
 obtain⟨b0,b1,b2,b3,b4,b5,bf⟩:=box6 hx0
 have HCS:=Lib.hid (hV.spc.count Sp.enc_len (by omega))
 have hNc:=hN.count
 obtain⟨k,hk⟩:∃k:Nat,s-256=k:=⟨(s-256).toNat,by omega⟩
 have hkN:k<N.length:=by omega
 have hmk:=markAt_eq (V:=V) hk hkN
 obtain⟨b',of',hao,hcn⟩:=SlS.cell (Sl.below hN hb0) (tk_eq hkN)
 subst hao
 obtain⟨nm,hnm⟩:∃y,tk N k=y:=⟨_,rfl⟩
 rw[hnm]at hcn hmk
 have q2:IntKind.i64.wrap (s-256)=(k:Int):=by rw[IntKind.wrap_i64];omega
 have gk:(k:Int)<(nn:Int):=by omega
 have HMK:=Lib.hid hmk
 have HV:=Lib.hid (hV.below hb0)
 have HB0:=Lib.hid hb0
 have HW0:=Lib.hid hw0
 have hsn:sn≤1048576:=by have:=HCS.out;simp only at this;omega
 simp only at HCS
 unfold cVal
 clear hV hN hb0 hx0 hw0 hsp hmk hnm hk hNc
 have hcn2:=hcn
 rw[←HW0.out]at hcn2
 go_enter Tryz.func62,Tryz.ntmps62
 go_wp2_with (fail)
 rw[HW0.out]
 clear hcn2
 go_loopw [17] (fun i wr=>∃k:Nat,k≤sn∧i= .int .i64 k∧Hid (∀j,j<k→(sp V.specials j).name≠nm)∧wr=w0) (fun i _=>sn-(intOf i).toNat)
 case atStart=>exact⟨0,Nat.zero_le _,rfl,Lib.hid (fun j h=>by omega),rfl⟩
 case round=>
  obtain⟨q,hq,rfl,HK,hwr⟩:=hrel
  subst hwr
  by_cases hlt:q<sn
  ·have hkS:q<V.specials.length:=by have:=HCS.out;omega
   obtain⟨b,of,hao,hce⟩:=HV.out.spc.elem Sp.enc_len (by omega) (sp_eq hkS)
   simp only at hao
   subst hao
   obtain⟨⟨nm2,id⟩,hseq⟩:∃m,sp V.specials q=m:=⟨_,rfl⟩
   rw[hseq]at hce
   have d0:=hce 0 _ rfl
   have d1:=hce 1 _ rfl
   rw[Nat.add_zero]at d0
   simp only at d0 d1
   have HSK:=Lib.hid hseq
   have gq:(q:Int)<(sn:Int):=by omega
   clear hce hseq
   by_cases hid:nm2=nm
   ·have hb2:=beqS_yes hid
    have HE:Hid (markAt V N s=id):=Lib.hid (by
     rw[HMK.out,spNamed_hit hkS (by rw[HSK.out];exact hid) HK.out,HSK.out];rfl)
    clear hid
    go_wp2_with (fail)
    refine bodyPost_ret (results_tmp rfl _ _ _) rfl ⟨by rw[HE.out];rfl,HB0.out⟩
   ·have hb2:=beqS_no hid
    have HK2:Hid (∀j,j<q+1→(sp V.specials j).name≠nm):=Lib.hid (fun j hj=>by
     by_cases e:j=q
     ·subst e;rw[HSK.out];exact hid
     ·exact HK.out j (by omega))
    clear hid
    go_wp2_with (fail)
    go_roundw
    case rel=>exact⟨q+1,by omega,by go_num,HK2,by first | rfl | trivial⟩
    case measure=>simp[intOf];omega
  ·have HE:Hid (markAt V N s= -1):=Lib.hid (by
    rw[HMK.out,spNamed_miss (fun j hj=>HK.out j (by have:=HCS.out;omega))];rfl)
   go_wp2_with (fail)
   refine bodyPost_ret (results_tmp rfl _ _ _) rfl ⟨by rw[HE.out];rfl,HB0.out⟩
theorem rcheck_calls {V:Vc} {N:List ByteArray} {dd:Vd} {no to_:Option Addr} {nn nc tn' tc':Nat} {kind:Int} {A:List Int} {ao:Option Addr} {n c:Nat} (w:World) (h:CR w dd no nn nc V N) (hA:SlI w ao n c A) (hn:n≤1048576):
  Calls Tryz.prog 21 #[cVal dd no nn nc kind to_ tn' tc', .slice ao n c] w fun e w'=>e= .returned (.int .i64 (checkF V N A))∧Below w.heap.size w w':=by
 have hNl:N.length=nn:=by have:=h.names.count;omega
 have hn16:=h.n16
 have HC:=Lib.hid h
 obtain⟨ta,tn,tc,ma,mn,mc,sa,sn,sc⟩:=dd
 obtain⟨w0,hw0⟩:∃w0,w.alloc (.cells #[.slice ta tn tc, .slice ma mn mc, .slice sa sn sc, .slice no nn nc, .int .i64 kind, .slice to_ tn' tc'] 37)=w0:=⟨_,rfl⟩
 have hb0:Below w.heap.size w w0:=hw0▸below_alloc w _
 have hx0:w0.heap[w.heap.size]?=some (.cells #[.slice ta tn tc, .slice ma mn mc, .slice sa sn sc, .slice no nn nc, .int .i64 kind, .slice to_ tn' tc'] 37):=by rw[←hw0];exact heap_alloc_new w _
 have HSZ1:Hid (w.heap.size<w0.heap.size):=Lib.hid (by rw[←hw0];simp)
 have HA:=Lib.hid (SlI.below hA hb0)
 have HAL:=Lib.hid hA.len
 have HX0:=Lib.hid hx0
 have HB0:=Lib.hid hb0
 have HW0:=Lib.hid hw0
 have HNL:=Lib.hid hNl
 have q1:IntKind.i64.wrap (256+(nn:Int))=256+(nn:Int):=by rw[IntKind.wrap_i64];omega
 unfold cVal
 clear hx0 hb0 hw0 hA h hNl
 go_enter Tryz.func21,Tryz.ntmps21
 go_wp2_with (fail)
 rw[HW0.out]
 go_loopw [8] (fun i wr=>∃k:Nat,k≤n∧i= .int .i64 k∧Hid (checkF V N A=checkF V N (A.drop k))∧Hid (Below w0.heap.size w0 wr)) (fun i _=>n-(intOf i).toNat)
 case atStart=>exact⟨0,Nat.zero_le _,rfl,Lib.hid rfl,Lib.hid (Below.refl _ _)⟩
 case round=>
  obtain⟨k,hk,rfl,HK,HB⟩:=hrel
  obtain⟨b0,b1,b2,b3,b4,b5,bf⟩:=box6 ((HB.out.block w.heap.size HSZ1.out).trans HX0.out)
  by_cases hlt:k<n
  ·obtain⟨b,o,hao,hc⟩:=(SlI.below HA.out HB.out).at_ hlt
   subst hao
   have hkA:k<A.length:=by have:=HAL.out;omega
   have hdr:=checkF_drop (V:=V) (N:=N) hkA
   obtain⟨s,hs⟩:∃s,ix A k=s:=⟨_,rfl⟩
   rw[hs]at hc hdr
   have gk:(k:Int)<(n:Int):=by omega
   by_cases h1:s<0
   ·have g1:decide (s<0)=true:=by simpa using h1
    have HK2:Hid (checkF V N A=1):=Lib.hid (by
     have:faultF V N s=1:=by unfold faultF;rw[if_pos (.inl h1)]
     rw[HK.out,hdr,this];rfl)
    clear hdr hs h1
    go_wp2_with (fail)
    go_quiet (fail)
    go_wp2_with (fail)
    refine bodyPost_ret (results_tmp rfl _ _ _) rfl ⟨by rw[HK2.out];rfl,HB0.out.trans (Below.mono (below_drewN HB.out _) HB0.out.size)⟩
   have g1:decide (s<0)=false:=by simpa using h1
   by_cases h2:256+(nn:Int)≤s
   ·have g2:decide (256+(nn:Int)≤s)=true:=by simpa using h2
    have HK2:Hid (checkF V N A=1):=Lib.hid (by
     have:faultF V N s=1:=by unfold faultF;rw[HNL.out,if_pos (.inr h2)]
     rw[HK.out,hdr,this];rfl)
    clear hdr hs h1 h2
    go_wp2_with (fail)
    go_quiet (fail)
    go_wp2_with (fail)
    refine bodyPost_ret (results_tmp rfl _ _ _) rfl ⟨by rw[HK2.out];rfl,HB0.out.trans (Below.mono (below_drewN HB.out _) HB0.out.size)⟩
   have g2:decide (256+(nn:Int)≤s)=false:=by simpa using h2
   have hnn:¬(s<0∨256+(N.length:Int)≤s):=by rw[HNL.out];omega
   by_cases h3:256≤s
   ·have g3:decide (256≤s)=true:=by simpa using h3
    obtain⟨mk,hmk⟩:∃mk,markAt V N s=mk:=⟨_,rfl⟩
    have HID:Hid (∀W,Ge w0 W→Calls Tryz.prog 62 #[.agg #[.slice ta tn tc, .slice ma mn mc, .slice sa sn sc, .slice no nn nc, .int .i64 kind, .slice to_ tn' tc'], .int .i64 s] W fun e w'=>e= .returned (.int .i64 mk)∧Below W.heap.size W w'):=Lib.hid (fun W hW=>by
     have:=rid_calls (dd:=⟨ta,tn,tc,ma,mn,mc,sa,sn,sc⟩) (kind:=kind) (to_:=to_) (tn':=tn') (tc':=tc') s W ((HC.out.below HB0.out).below hW) h3 (by rw[HNL.out];omega)
     rw[hmk]at this
     exact this)
    by_cases h4:mk<0
    ·have g4:decide (mk<0)=true:=by simpa using h4
     have HK2:Hid (checkF V N A=4):=Lib.hid (by
      have:faultF V N s=4:=by unfold faultF;rw[if_neg hnn,if_pos ⟨h3,by rw[hmk];exact h4⟩]
      rw[HK.out,hdr,this];rfl)
     clear hdr hs h1 h2 h3 h4 hnn hmk
     go_wp2_with (fail)
     go_quiet (fail)
     go_wp2_with (fail)
     go_region_with (go_at_call 62;refine(HID.out _ (by exact below_drewN HB.out _)).mono ?_;rintro e w2 ⟨rfl,hb2⟩;have HB2:=Lib.hid hb2;clear hb2)
     all_goals(
      go_wp2_with (fail)
      refine bodyPost_ret (results_tmp rfl _ _ _) rfl ⟨by rw[HK2.out];rfl,HB0.out.trans (Below.mono ?_ HB0.out.size)⟩
      exact Below.trans (by exact below_drewN HB.out _) (HB2.out.mono HB.out.size))
    ·have g4:decide (mk<0)=false:=by simpa using h4
     have HK2:Hid (checkF V N A=checkF V N (A.drop (k+1))):=Lib.hid (by
      have:faultF V N s=0:=by unfold faultF;rw[if_neg hnn,if_neg (fun h=>h4 (by rw[←hmk];exact h.2))]
      rw[HK.out,hdr,this];rfl)
     clear hdr hs h1 h2 h3 h4 hnn hmk
     go_wp2_with (fail)
     go_quiet (fail)
     go_wp2_with (fail)
     go_region_with (go_at_call 62;refine(HID.out _ (by exact below_drewN HB.out _)).mono ?_;rintro e w2 ⟨rfl,hb2⟩;have HB2:=Lib.hid hb2;clear hb2)
     all_goals(
      go_wp2_with (fail)
      go_roundw
      case rel=>exact⟨k+1,by omega,by go_num,HK2,Lib.hid (Below.trans (by exact below_drewN HB.out _) (HB2.out.mono HB.out.size))⟩
      case measure=>simp[intOf];omega)
   ·have g3:decide (256≤s)=false:=by simpa using h3
    have HK2:Hid (checkF V N A=checkF V N (A.drop (k+1))):=Lib.hid (by
     have:faultF V N s=0:=by unfold faultF;rw[if_neg hnn,if_neg (fun h=>h3 h.1)]
     rw[HK.out,hdr,this];rfl)
    clear hdr hs h1 h2 h3 hnn
    go_wp2_with (fail)
    go_quiet (fail)
    go_wp2_with (fail)
    go_quiet (fail)
    go_wp2_with (fail)
    go_roundw
    case rel=>exact⟨k+1,by omega,by go_num,HK2,Lib.hid (by exact below_drewN HB.out _)⟩
    case measure=>simp[intOf];omega
  ·obtain rfl:k=n:=by omega
   have HK2:Hid (checkF V N A=0):=Lib.hid (by rw[HK.out,List.drop_eq_nil_of_le (by have:=HAL.out;omega)];rfl)
   go_wp2_with (fail)
   refine bodyPost_ret (results_tmp rfl _ _ _) rfl ⟨by rw[HK2.out];rfl,HB0.out.trans (Below.mono HB.out HB0.out.size)⟩
theorem tcounts_calls {P:Nat→Prop} {V:Vc} {N:List ByteArray} {kind:Int} {T:List Rg} {base g:Nat} {room:Int} {cnt:Int} (w:World) (h:Cdr w base g V N kind T room cnt P):
  Calls Tryz.prog 19 #[.pointer (some ⟨g,0,none⟩)] w fun e w'=>∃hits misses,e= .returned (.tuple #[.int .i64 hits, .int .i64 misses])∧hits+misses=cnt∧0≤hits∧0≤misses∧(room=0→hits=0)∧Below w.heap.size w w':=by
 obtain⟨cb,mb,no,l,hits,misses,hq,hok,hsum⟩:=h
 have HC:=Lib.hid (crep_counts hq.rep.rep)
 obtain⟨_,_,_,_,_,_,_,_,_,_,_,_,hbx,_⟩:=hq.codR.cod
 obtain⟨c0,c1,c2,c3,c4,c5,c6,c7,c8,cf⟩:=box9 hbx
 have HO:=Lib.hid hok
 have HS:=Lib.hid hsum
 clear hq hok hsum hbx
 go_enter Tryz.func19,Tryz.ntmps19
 go_wp2_with (go_at_call 61;refine HC.out.mono ?_;rintro e w1 ⟨rfl,hb1⟩;have HB1:=Lib.hid hb1;clear hb1)
 refine bodyPost_ret (v:= .tuple #[.int .i64 hits, .int .i64 misses]) ?_ rfl ⟨hits,misses,rfl,HS.out,HO.out.hz,HO.out.mz,fun e=>(HO.out.zr e).1,HB1.out⟩
 simp[results,Tryz.results19,go_sem]
theorem wpList_unguard {P:Program} {ops:Array Oper} {Q:Exit→Act→World→Prop} {a:Act} {w:World} {rest:List Oper} {o:Oper} (hw:Region.wanted o (yielded ops a.tmps)=true)
  (h:wpList P ops Q ({o with guard:=none}::rest) a w):wpList P ops Q (o::rest) a w:=by
 unfold wpList at h ⊢
 rw[if_pos hw]
 rw[if_pos (by simp[Region.wanted])]at h
 exact h
theorem mayTab_of {T:List Rg} (h:MayTab T):MayTab (tabOf T):=by
 unfold tabOf
 split
 ·exact mayTab_us
 ·exact h
theorem SlI.blk {w:World} {ao:Option Addr} {n c:Nat} {A:List Int} (h:SlI w ao n c A):∀ad,ao=some ad→0<n→ad.block<w.heap.size:=fun ad e h0=>by
 obtain⟨b,o,hao,hc⟩:=h.at_ h0
 obtain rfl:ad=⟨b,o,Option.none⟩:=Option.some.inj (e.symm.trans hao)
 exact World.block_lt_of_cell? w _ hc
theorem Own.blk {w:World} {base n c:Nat} {ao:Option Addr} {A:List Int} (h:Own w base (.slice ao n c) A):∀ad,ao=some ad→0<A.length→base≤ad.block∧ad.block<w.heap.size:=fun ad e h0=>by
 obtain⟨b,c',hv⟩:=own_at0 h h0
 obtain⟨rfl,-,-⟩:=Value.slice.inj hv
 obtain rfl:=Option.some.inj e
 exact World.ownsRow.lt h b rfl
theorem byN_le:∀{ps:List (Int×Bool)} {A:List Int},PcsOk ps A→0≤byN ps A∧byN ps A≤A.length
 | [],A,h=>by simp[byN]
 | p::ps,A,h=>by
  have h1:=byN_le h.2.2.2
  have h2:=isBy_01 (A.take p.1.toNat)
  have h3:=h.1
  have h4:=h.2.1
  simp only[byN,List.length_drop]at *
  omega
theorem isBy_first {B:List Int} {j:Nat} (hj:1≤j) (h:MayPc (B.take j)):isBy (B.take j)=if ix B 0<256 then 1 else 0:=by
 have h0:B≠[]:=fun e=>by
  rw[e,List.take_nil]at h
  rcases h with⟨x,e1,_⟩ | ⟨e1,_⟩
  ·cases e1
  ·exact e1 rfl
 obtain⟨x,l,rfl⟩:=List.exists_cons_of_ne_nil h0
 obtain⟨i,rfl⟩:∃i,j=i+1:=⟨j-1,by omega⟩
 rw[List.take_succ_cons]at h ⊢
 have hx:ix (x::l) 0=x:=rfl
 rw[hx]
 rcases h with⟨y,e1,h1⟩ | ⟨_,h1⟩
 ·obtain⟨rfl,e2⟩:=List.cons.inj e1
  rw[e2,isBy_mark h1,if_neg (by omega)]
 ·rw[isBy_bytes h1,if_pos (h1 x (by simp)).2]
theorem own_on {Z:Nat→Prop} {w w':World} {base:Nat} {v:Value} {A:List Int} (h:Own w base v A) (hk:Keeps Z w w') (hf:∀q,v.ownBlock=some q→¬Z q):Own w' base v A:=
 own_stay h (fun q hq=>hk.block q (World.ownsRow.lt h q hq).2 (hf q hq))
theorem piecesT_len {V:Vc} {N:List ByteArray}:∀{ps:List (Int×Bool)} {A:List Int},PcsOk ps A→checkF V N A=0→(piecesT V N ps A).length≤A.length
 | [],A,_,_=>Nat.zero_le _
 | p::ps,A,h,hc=>by
  simp only[piecesT,List.length_append]
  have h1:=piecesT_len h.2.2.2 (checkF_take hc p.1.toNat).2
  have h2:=(pieceF_len (checkF_take hc p.1.toNat).1 h.2.2.1).2
  rw[List.length_drop]at h1
  rw[List.length_take]at h2
  have:=h.2.1
  omega
theorem textF_len {V:Vc} {N:List ByteArray} {kind:Int} {T:List Rg} (hT:MayTab T) {A:List Int} (hc:checkF V N A=0):(textF V N kind T A).length≤A.length:=piecesT_len (split_ok hT hc) hc
theorem rjoin_calls {A B:List Int} {ao bo:Option Addr} {n c m d:Nat} (w:World) (hA:SlI w ao n c A) (hB:SlI w bo m d B) (hn:n≤100000) (hm:m≤100000):
  Calls Tryz.prog 22 #[.slice ao n c, .slice bo m d] w fun e w'=>(∃vo vc,e= .returned (.slice vo (n+m) vc)∧Own w' w.heap.size (.slice vo (n+m) vc) (A++B))∧Below w.heap.size w w':=by
 obtain⟨i0,hi,hz0,hz1,hz2⟩:=info_parts infoInt
 have hown:=Lib.hid (own_made0 w)
 have HA:=Lib.hid (hA.alloc (.cells #[] 3))
 have HB:=Lib.hid hB
 have HAL:=Lib.hid hA.len
 have HBL:=Lib.hid hB.len
 clear hA hB
 go_enter Tryz.func22,Tryz.ntmps22
 go_wp2_with (first
  | (at_builtin;refine wpList_int_app rfl _ _ 43 rfl (base:=w.heap.size) i0 Tryz.underlying43 hi hz0 hz1 hz2 rfl hown.out rfl HA.out (by simp;omega) (by simp) ?_;intro v1 w1 ho1 hg1 hb1;have HO1:=Lib.hid ho1;have HB1:=Lib.hid ((below_alloc w _).trans hb1);clear ho1 hg1 hb1)
  | (at_builtin;refine wpList_int_app rfl _ _ 43 rfl (base:=w.heap.size) i0 Tryz.underlying43 hi hz0 hz1 hz2 rfl HO1.out rfl (HB.out.below HB1.out) (by have:=HAL.out;simp;omega) HB1.out.size ?_;intro v2 w2 ho2 hg2 hb2;have HO2:=Lib.hid ho2;have HB2:=Lib.hid (HB1.out.trans hb2);clear ho2 hg2 hb2))
 go_ret
 have ho:=HO2.out
 rw[List.nil_append]at ho
 obtain⟨vo,vc,rfl,-⟩:=ho.sl
 rw[List.length_append,HAL.out,HBL.out]at *
 exact⟨⟨vo,vc,rfl,ho⟩,HB2.out⟩
end Go.Proofs.YtimkkkdabmhedaaGreatDoor
