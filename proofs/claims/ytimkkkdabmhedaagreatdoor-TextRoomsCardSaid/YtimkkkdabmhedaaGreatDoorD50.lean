/- Walk: TextRooms. -/
import Derived.Test.YtimkkkdabmhedaaGreatDoorD38
set_option linter.unusedVariables false
set_option maxHeartbeats 4000000
set_option maxRecDepth 100000
namespace Go.Proofs.YtimkkkdabmhedaaGreatDoor
open Go.RowKit
theorem textRooms_walk {V:Vc} {dd:Vd} {N:List ByteArray} {kind:Int} {T:List Rg} {room:Int} {no to_ ro so:Option Addr} {nn nc tn tc rn rc sl sc:Nat} {R:List (List Int)} {S:List Int} (rm:Int) (hrm:0≤rm∧rm≤65535) (w:World) (hV:VocR w dd V) (hok:(∀s∈V.tokens,s.size≤maxLen)∧Sized V.specials) (hN:SlS w no nn nc N) (hNs:∀s∈N,s.size≤maxLen)
  (hT:SlF 3 w to_ tn tc (flat Rg.enc T)) (hR:SlRows w ro rn rc R) (hS:SlI w so sl sc S) (hU:Usu w):
  Frame.Law Tryz.prog 4 #[.agg #[.slice dd.ta dd.tn dd.tc, .slice dd.ma dd.mn dd.mc, .slice dd.sa dd.sn dd.sc, .slice no nn nc, .int .i64 kind, .slice to_ tn tc, .int .i64 room], .int .u16 rm, .slice ro rn rc, .slice so sl sc] w:=by
 unfold Frame.Law
 obtain⟨ta,tn',tc',ma,mn,mc,sa,sn,sc'⟩:=dd
 obtain⟨w0,hw0⟩:∃w0,w.alloc (.cells #[.slice ta tn' tc', .slice ma mn mc, .slice sa sn sc', .slice no nn nc, .int .i64 kind, .slice to_ tn tc, .int .i64 room] 29)=w0:=⟨_,rfl⟩
 have hb0:Below w.heap.size w w0:=hw0▸below_alloc w _
 have hx0:w0.heap[w.heap.size]?=some (.cells #[.slice ta tn' tc', .slice ma mn mc, .slice sa sn sc', .slice no nn nc, .int .i64 kind, .slice to_ tn tc, .int .i64 room] 29):=by rw[←hw0];exact heap_alloc_new w _
 have hz0:w.heap.size<w0.heap.size:=by rw[←hw0];simp
 have hmade:=made2_calls (dd:=⟨ta,tn',tc',ma,mn,mc,sa,sn,sc'⟩) (kind:=kind) (room:=room) w0 (hV.below hb0) hok (Sl.below hN hb0) hNs (hT.below hb0) (hU.below hb0)
 have HMD2:Hid (∀W,Below w.heap.size w W→Calls Tryz.prog 16 #[.agg #[.slice ta tn' tc', .slice ma mn mc, .slice sa sn sc', .slice no nn nc, .int .i64 kind, .slice to_ tn tc, .int .i64 rm]] W (MadePost2 ⟨ta,tn',tc',ma,mn,mc,sa,sn,sc'⟩ no nn nc V N kind T rm W)):=Lib.hid (fun W hW=>made2_calls (dd:=⟨ta,tn',tc',ma,mn,mc,sa,sn,sc'⟩) (kind:=kind) (room:=rm) W (hV.below hW) hok (Sl.below hN hW) hNs (hT.below hW) (hU.below hW))
 have HS:=Lib.hid hS
 have hlnS:=Lib.hid hS.len
 have HV0:=Lib.hid hV
 have HN0:=Lib.hid hN
 have HR:=Lib.hid hR
 have HRM:=Lib.hid hrm
 have hmx:=Sl.max hS
 have hlx:=Sl.le hS
 have hmr:=Nat.le_trans hR.le hR.max
 unfold maxLen at hmx hmr
 have HU:=Lib.hid hU
 have HB0:=Lib.hid hb0
 have HW0:=Lib.hid hw0
 have HX0:=Lib.hid hx0
 have HZ0:=Lib.hid hz0
 have hrmw:IntKind.i64.wrap rm=rm:=by rw[IntKind.wrap_i64];omega
 obtain⟨c0,c1,c2,c3,c4,c5,c6⟩:=box7 hx0
 rw[←HW0.out]at c0 c1 c2 c3 c4 c5 c6
 clear hV hok hN hNs hT hU hb0 hw0 hx0 hS hR hz0
 go_enter Tryz.func4,Tryz.ntmps4
 go_wp2_with (fail)
 rw[HW0.out]
 clear c0 c1 c2 c3 c4 c5 c6
 refine hmade.mono ?_
 rintro e w1 ⟨hpost,hb1⟩
 have HB01:=Lib.hid hb1
 have HB1:Hid (Below w.heap.size w w1):=Lib.hid (HB0.out.trans (hb1.mono HB0.out.size))
 clear hb1 hmade
 rcases hpost with⟨rfl,-⟩ | ⟨hM,hOK,hG,g,cb,mb,to2,tn2,tc2,rfl,hTC,hCR⟩
 ·unfold noC
  have hb2:=HB1.out.alloc HB1.out.size (.cells #[.slice none 0 0, .slice none 0 0, .slice none 0 0, .slice none 0 0, .int .i64 0, .slice none 0 0] 37)
  have HB2:=Lib.hid hb2
  clear hb2
  go_wp2_with (fail)
  refine(fixed16_calls _ (HU.out.below HB2.out)).mono ?_
  rintro e w3 ⟨rfl,hb3⟩
  have HB3:=Lib.hid (HB2.out.trans (hb3.mono HB2.out.size))
  clear hb3
  go_wp2_with (fail)
  go_ret
  exact⟨rfl,HB3.out⟩
 obtain⟨w2,hw2⟩:∃w2,w1.alloc (.cells #[.slice ta tn' tc', .slice ma mn mc, .slice sa sn sc', .slice no nn nc, .int .i64 kind, .slice to2 tn2 tc2] 37)=w2:=⟨_,rfl⟩
 have hb2:Below w1.heap.size w1 w2:=hw2▸below_alloc w1 _
 have hx2:w2.heap[w1.heap.size]?=some (.cells #[.slice ta tn' tc', .slice ma mn mc, .slice sa sn sc', .slice no nn nc, .int .i64 kind, .slice to2 tn2 tc2] 37):=by rw[←hw2];exact heap_alloc_new w1 _
 have hz2:w1.heap.size<w2.heap.size:=by rw[←hw2];simp
 have HB2:Hid (Below w.heap.size w w2):=Lib.hid (HB1.out.trans (hb2.mono HB1.out.size))
 have hK1:=Cdr.new hTC hOK.2.2.2.2.1
 have HK1:=Lib.hid (hK1.below hb2)
 have HCR:=Lib.hid (hCR.below hb2)
 have HM:=Lib.hid hM
 have HOK:=Lib.hid hOK
 have HG:=Lib.hid hG
 have HX2:=Lib.hid hx2
 have HZ2:=Lib.hid hz2
 have HW2:=Lib.hid hw2
 have hk2:w2.heap[w.heap.size]?=some (.cells #[.slice ta tn' tc', .slice ma mn mc, .slice sa sn sc', .slice no nn nc, .int .i64 kind, .slice to_ tn tc, .int .i64 room] 29):=(hb2.block _ (Nat.lt_of_lt_of_le HZ0.out HB01.out.size)).trans ((HB01.out.block _ HZ0.out).trans HX0.out)
 have HKT:=Lib.hid hk2
 clear hb2 hx2 hz2 hw2 hTC hCR hM hOK hG hK1 hk2
 unfold cVal
 by_cases hl0:20<rn
 ·have hl1:(20:Int)<(rn:Int):=by omega
  go_wp2_with (fail)
  rw[HW2.out]
  refine(fixed16_calls _ (HU.out.below HB2.out)).mono ?_
  rintro e w3 ⟨rfl,hb3⟩
  have HB3:=Lib.hid (HB2.out.trans (hb3.mono HB2.out.size))
  clear hb3
  go_wp2_with (fail)
  go_ret
  exact⟨rfl,HB3.out⟩
 have hl0':¬(20:Int)<(rn:Int):=by omega
 by_cases hl:40<sl
 ·have hl1:(40:Int)<(sl:Int):=by omega
  go_wp2_with (fail)
  rw[HW2.out]
  refine(fixed16_calls _ (HU.out.below HB2.out)).mono ?_
  rintro e w3 ⟨rfl,hb3⟩
  have HB3:=Lib.hid (HB2.out.trans (hb3.mono HB2.out.size))
  clear hb3
  go_wp2_with (fail)
  go_ret
  exact⟨rfl,HB3.out⟩
 have hl1:¬(40:Int)<(sl:Int):=by omega
 obtain⟨c0,c1,c2,c3,c4,c5,c6⟩:=box7 HKT.out
 have cf:∀o,w2.frozen? ⟨w.heap.size,o,none⟩=false:=fun o=>by simp[World.frozen?,HKT.out]
 rw[←HW2.out]at c0 c1 c2 c3 c4 c5 c6 cf
 obtain⟨W3,hW3⟩:∃W3,w2.setCell ⟨w.heap.size,6,none⟩ (.int .i64 rm)=W3:=⟨_,rfl⟩
 have HW3:=Lib.hid hW3
 have hb23:Below w.heap.size w2 W3:=by rw[←hW3];exact Below.setCell (p:=⟨w.heap.size,6,none⟩) (Below.refl _ _) (Nat.le_refl _) _
 have hb23':∀q,q≠w.heap.size→W3.heap[q]?=w2.heap[q]? :=fun q hq=>by rw[←hW3];exact heap_set_other hq
 have hsz3:W3.heap.size=w2.heap.size:=by rw[←hW3];simp
 have HB3:Hid (Below w.heap.size w W3):=Lib.hid (HB2.out.trans hb23)
 have hw0:w.heap.size<w0.heap.size:=HZ0.out
 have hw01:=HB01.out.size
 have hz2:=HZ2.out
 have HK3:=Lib.hid (HK1.out.stay (w':=W3) (fun q hq=>hb23' q (by omega)) (by omega))
 have HX3:=Lib.hid ((hb23' w1.heap.size (by omega)).trans HX2.out)
 have HCR3:Hid (CR W3 ⟨ta,tn',tc',ma,mn,mc,sa,sn,sc'⟩ no nn nc V N):=Lib.hid (by
  have hbw:=HB2.out.trans hb23
  exact⟨HV0.out.below hbw,Sl.below HN0.out hbw,HCR.out.t64,HCR.out.n16,HCR.out.sp,HCR.out.tk⟩)
 have HS3:Hid (w.heap.size<w0.heap.size∧w0.heap.size≤w1.heap.size∧w1.heap.size<W3.heap.size):=Lib.hid ⟨hw0,hw01,by omega⟩
 clear hW3 hb23 hb23' hsz3 hw0 hw01 hz2
 go_wp2_with (fail)
 rw[HW2.out,HW3.out]
 refine(HMD2.out W3 HB3.out).mono ?_
 rintro E w4 ⟨hpost,hb4⟩
 rcases hpost with⟨-,hno⟩ | ⟨-,-,-,d,dcb,dmb,to3,tn3,tc3,rfl,hTC3,hCR3⟩
 ·exact absurd ⟨HM.out,⟨HOK.out.1,HOK.out.2.1,HOK.out.2.2.1,HOK.out.2.2.2.1,by have:=HRM.out;omega,by have:=HRM.out;omega⟩,HG.out⟩ hno
 have HD4:=Lib.hid (Cdr.new hTC3 HRM.out.1)
 have HB34:=Lib.hid hb4
 have HB4:Hid (Below w.heap.size w w4):=Lib.hid (HB3.out.trans (hb4.mono HB3.out.size))
 clear hTC3 hCR3 hb4 c0 c1 c2 c3 c4 c5 c6 cf
 unfold cVal
 have HN1:Hid (N.length≤16∧0≤kind∧kind≤3∧MayTab (tabOf T)∧0≤room∧room≤1048576):=Lib.hid ⟨HOK.out.1.1,HOK.out.2.1,HOK.out.2.2.1,mayTab_of HOK.out.2.2.2.1,HOK.out.2.2.2.2.1,HOK.out.2.2.2.2.2⟩
 obtain⟨w5,hw5⟩:∃w5,w4.alloc (.cells #[.slice ta tn' tc', .slice ma mn mc, .slice sa sn sc', .slice no nn nc, .int .i64 kind, .slice to3 tn3 tc3] 37)=w5:=⟨_,rfl⟩
 have hb5:Below w4.heap.size w4 w5:=hw5▸below_alloc w4 _
 have HD5:=Lib.hid (HD4.out.below hb5)
 have HB35:Hid (Below W3.heap.size W3 w5):=Lib.hid (HB34.out.trans (hb5.mono HB34.out.size))
 have HW5:=Lib.hid hw5
 clear hb5 hw5
 go_wp2_with (fail)
 rw[HW5.out]
 go_loopw [15,17,64] (fun x _ i wr=>∃(k:Nat) (y:Int) (P:Nat→Prop),k≤rn∧i= .int .i64 k∧x= .int .i64 y∧Hid (Cdr wr W3.heap.size d V N kind (tabOf T) rm y P∧0≤y∧y≤40*k∧Below W3.heap.size W3 wr)) (fun _ _ i _=>rn-(intOf i).toNat)
 case atStart=>exact⟨0,0,_,Nat.zero_le _,rfl,rfl,Lib.hid ⟨HD5.out,by omega,by omega,HB35.out⟩⟩
 case round=>
  obtain⟨k,y,P,hk,rfl,rfl,HY⟩:=hrel
  have HBr:Hid (Below w.heap.size w wr):=Lib.hid (HB3.out.trans (HY.out.2.2.2.mono HB3.out.size))
  by_cases hlt:k<rn
  ·obtain⟨b,o,ra,rc',hao,hce,hsl⟩:=(HR.out.below HBr.out).at_ k hlt
   obtain⟨b',o',ra',rc'',hao',hce',hsl'⟩:=HR.out.at_ k hlt
   subst hao
   obtain⟨rfl,rfl,-⟩:=Addr.mk.inj (Option.some.inj hao')
   obtain⟨rfl,-,rfl⟩:=Value.slice.inj (Option.some.inj (hce.symm.trans (cell_below HBr.out _ _ hce')))
   obtain⟨A,hA⟩:∃A,rx R k=A:=⟨_,rfl⟩
   rw[hA]at hce hsl hsl'
   have gk:(k:Int)<(rn:Int):=by omega
   have HSL:=Lib.hid hsl
   have HAB:Hid (∀ad,ra=some ad→0<A.length→ad.block<w.heap.size):=Lib.hid hsl'.blk
   have HWs:Hid (w.heap.size<W3.heap.size):=Lib.hid (by have:=HS3.out;omega)
   clear hsl hsl' hce' hao' hA
   by_cases hl40:40<A.length
   ·have gl:(40:Int)<(A.length:Int):=by omega
    go_wp2_with (fail)
    refine(fixed16_calls _ (HU.out.below HBr.out)).mono ?_
    rintro E w9 ⟨rfl,hb9⟩
    have HB9:=Lib.hid (HBr.out.trans (hb9.mono HBr.out.size))
    clear hb9
    go_wp2_with (fail)
    refine bodyPost_ret (results_tmp rfl _ _ _) rfl ⟨rfl,HB9.out⟩
   ·have gl:¬(40:Int)<(A.length:Int):=by omega
    by_cases hc:checkF V N A=0
    ·obtain⟨D,hD⟩:∃F,byN (splitF kind (tabOf T) A true) A=F:=⟨_,rfl⟩
     have hok:=split_ok (kind:=kind) (final:=true) HN1.out.2.2.2.1 hc
     have r2:=byN_le hok
     rw[hD]at r2
     obtain⟨ps,hps⟩:∃F,splitF kind (tabOf T) A true=F:=⟨_,rfl⟩
     rw[hps]at hok hD
     have hpl:=hok.len
     have hEn:=by
      obtain⟨q1,q2,q3,q4,q5,q6⟩:=HN1.out
      have hy:=HY.out
      have:=HRM.out
      have:=HWs.out
      exact tencode_calls wr hy.1 HM.out q1 q4 q2 q3 (by omega) HSL.out (fun ad e h0=>⟨HSL.out.blk ad e h0,fun hq=>by have:=(hy.1.lt _ hq).1;have:=HAB.out ad e h0;omega⟩) (by omega) (by omega) hc
     rw[hps,hD]at hEn
     have HEN:=Lib.hid hEn
     have HR2:=Lib.hid r2
     have HOKP:=Lib.hid (And.intro hok (And.intro hD (And.intro hps hc)))
     clear hok hD hps hEn r2 hc
     go_wp2_with (fail)
     go_at_call 17
     refine HEN.out.mono ?_
     rintro E w9 ⟨v9,P9,rfl,-,hc9,-,-,hk9⟩
     have hb9:Below W3.heap.size wr w9:=hk9.below HY.out.2.2.2.size (fun q h=>(HY.out.1.lt q h).1)
     have HB39:Hid (Below W3.heap.size W3 w9):=Lib.hid (HY.out.2.2.2.trans hb9)
     have HB9:Hid (Below w.heap.size w w9):=Lib.hid (HB3.out.trans (HB39.out.mono HB3.out.size))
     have HC9:=Lib.hid hc9
     have hsA:SlI w9 ra A.length rc' A:=HSL.out.keep0 (fun ad e h0=>hb9.block _ (by have:=HAB.out ad e h0;have:=HWs.out;omega))
     have HSA:=Lib.hid hsA
     obtain⟨cb9,hcod⟩:=hc9.cod
     have hSp:=tsplit_calls true w9 hcod hsA (by omega) HN1.out.2.2.2.1 HN1.out.2.1 HN1.out.2.2.1
     rw[HOKP.out.2.2.1]at hSp
     have HSP:=Lib.hid hSp
     clear hc9 hk9 hb9 hsA hcod hSp
     go_wp2_with (fail)
     go_at_call 18
     refine HSP.out.mono ?_
     rintro E w10 ⟨⟨pv,rfl,ho⟩,hb10⟩
     obtain⟨pa,pc',rfl,hpsl⟩:=ho.sl
     have HPS:=Lib.hid hpsl
     have HB90:=Lib.hid hb10
     have HSA0:=Lib.hid (HSA.out.below hb10)
     obtain⟨Wx,hWx⟩:∃Wx,Wx=wr:=⟨_,rfl⟩
     subst hWx
     clear ho hpsl hb10
     go_wp2_with (fail)
     go_loopw [15,17,84] (fun x tx i wi=>∃(j:Nat) (B:List Int) (bo:Option Addr) (m c':Nat) (x':Int),j≤ps.length∧i= .int .i64 j∧tx= .slice bo m c'∧x= .int .i64 x'∧Hid ((∀W,SlI W ra A.length rc' A→SlI W bo m c' B)∧PcsOk (ps.drop j) B∧x'+byN (ps.drop j) B=y+D∧0≤x'∧Below w10.heap.size w10 wi)) (fun _ _ i _=>ps.length-(intOf i).toNat)
     case atStart=>exact⟨0,A,ra,A.length,rc',y,Nat.zero_le _,rfl,rfl,rfl,Lib.hid ⟨fun W h=>h,HOKP.out.1,by rw[List.drop_zero,HOKP.out.2.1],HY.out.2.1,Below.refl _ _⟩⟩
     case round=>
      obtain⟨j,B,bo,m,c',x',hj,rfl,rfl,rfl,HL⟩:=hrel
      obtain⟨wi,hwi⟩:∃w',w'=wr:=⟨_,rfl⟩
      subst hwi
      by_cases hlt2:j<ps.length
      ·obtain⟨⟨pn,pd⟩,hp⟩:∃x,ps[j]=x:=⟨_,rfl⟩
       have hdr:ps.drop j=(pn,pd)::ps.drop (j+1):=by rw[List.drop_eq_getElem_cons hlt2,hp]
       obtain⟨f1,f2,f3,f4,f5⟩:=HL.out
       rw[hdr]at f2 f3
       obtain⟨h1,h2,h3,h4⟩:=f2
       simp only at h1 h2 h3 h4
       obtain⟨e,rfl⟩:∃e:Nat,pn=e:=⟨pn.toNat,by omega⟩
       rw[Int.toNat_natCast]at h3 h4
       simp only[byN,Int.toNat_natCast]at f3
       obtain⟨bb,of,rfl,hce2⟩:=(HPS.out.below f5).elem pcEnc_len (by omega) (k:=j) (x:=((e:Int),pd)) (by rw[←hp];exact List.getElem?_eq_getElem hlt2)
       have d0:=hce2 0 _ rfl
       have d1:=hce2 1 _ rfl
       rw[Nat.add_zero]at d0
       simp only at d0 d1
       have gk2:(j:Int)<(ps.length:Int):=by omega
       have hBw:=f1 wi (HSA0.out.below f5)
       have hBl:=hBw.len
       have hBle:=Sl.le hBw
       obtain⟨bx,ox,rfl,hcx⟩:=hBw.at_ (i:=0) (by omega)
       obtain⟨x0,hx0⟩:∃x0,ix B 0=x0:=⟨_,rfl⟩
       rw[hx0,Nat.add_zero]at hcx
       have hby:=isBy_first (by omega) h3
       rw[hx0]at hby
       have h01:=isBy_01 (B.take e)
       obtain⟨w6,hw6⟩:∃w6,wi.alloc (.cells #[.int .i64 e, .bool pd] 51)=w6:=⟨_,rfl⟩
       have hb6:Below wi.heap.size wi w6:=hw6▸below_alloc wi _
       have hx6:w6.heap[wi.heap.size]?=some (.cells #[.int .i64 e, .bool pd] 51):=by rw[←hw6];exact heap_alloc_new wi _
       obtain⟨j0,j1⟩:=box2' hx6
       have hcx6:=cell_below hb6 _ _ hcx
       rw[←hw6]at j0 j1 hcx6
       have HB6:Hid (Below w10.heap.size w10 w6):=Lib.hid (f5.trans (hb6.mono f5.size))
       have HW6:=Lib.hid hw6
       have HF:=Lib.hid (And.intro f1 (And.intro h4 f3))
       have hem:e≤m:=by omega
       have gm0:(0:Int)<(m:Int):=by omega
       have gm1:0<m:=by omega
       obtain⟨i0,hi0,hz0,hz1,hz2⟩:=info_parts infoInt3
       have hxb:0≤x'∧x'+1≤100000:=by
        have:=HR2.out
        have:=HY.out.2.2.1
        have:=byN_le h4
        omega
       clear hce2 f1 f3 f5 h1 h2 h3 h4 hdr hp hw6 hb6 hx6 hBw hx0 hcx
       by_cases hx256:x0<256
       ·rw[if_pos hx256]at hby
        have HBY:=Lib.hid hby
        have g256:x0<(256:Int):=hx256
        have e1:IntKind.i64.wrap (x'+1)=x'+1:=by rw[IntKind.wrap_i64];omega
        clear hby h01
        go_wp2_with (with_reducible show wpList _ _ _ (⟨_, .slice _ _ (some _) none none,_,_,_,_⟩::_) _ _;refine wpList_slice_low_at rfl 43 _ _ rfl 3 i0 Tryz.underlying43 hi0 hz1 (some ⟨bx,ox,none⟩) m c' rfl hBle .i64 (e:Int) e rfl rfl hem ?_;intro bo' hbo;have HBO:=Lib.hid hbo;clear hbo)
        rw[HW6.out]
        go_roundw
        case rel=>exact⟨j+1,B.drop e,bo',m-e,c'-e,x'+1,by omega,by go_num,rfl,rfl,Lib.hid ⟨fun W hW=>by have:=HBO.out W _ (HF.out.1 W hW);unfold SlI;rw[List.map_drop];exact this,HF.out.2.1,by have:=HF.out.2.2;rw[HBY.out]at this;omega,by omega,HB6.out⟩⟩
        case measure=>simp[intOf];omega
       ·rw[if_neg hx256]at hby
        have HBY:=Lib.hid hby
        have g256:¬x0<(256:Int):=hx256
        clear hby h01
        go_wp2_with (with_reducible show wpList _ _ _ (⟨_, .slice _ _ (some _) none none,_,_,_,_⟩::_) _ _;refine wpList_slice_low_at rfl 43 _ _ rfl 3 i0 Tryz.underlying43 hi0 hz1 (some ⟨bx,ox,none⟩) m c' rfl hBle .i64 (e:Int) e rfl rfl hem ?_;intro bo' hbo;have HBO:=Lib.hid hbo;clear hbo)
        rw[HW6.out]
        go_roundw
        case rel=>exact⟨j+1,B.drop e,bo',m-e,c'-e,x',by omega,by go_num,rfl,rfl,Lib.hid ⟨fun W hW=>by have:=HBO.out W _ (HF.out.1 W hW);unfold SlI;rw[List.map_drop];exact this,HF.out.2.1,by have:=HF.out.2.2;rw[HBY.out]at this;omega,by omega,HB6.out⟩⟩
        case measure=>simp[intOf];omega
      ·obtain rfl:j=ps.length:=by omega
       have HX:Hid (x'=y+D∧Below w10.heap.size w10 wi):=Lib.hid (by
        have h:=HL.out.2.2.1
        rw[List.drop_length]at h
        simp only[byN]at h
        exact⟨by omega,HL.out.2.2.2.2⟩)
       have HX2:Hid (Cdr wi W3.heap.size d V N kind (tabOf T) rm x' P9∧0≤x'∧x'≤40*((k+1:Nat):Int)∧Below W3.heap.size W3 wi):=Lib.hid (by
        obtain⟨e1,e2⟩:=HX.out
        have r2:=HR2.out
        have hy:=HY.out
        subst e1
        exact⟨(HC9.out.below HB90.out).below e2,by omega,by omega,(HB39.out.trans (HB90.out.mono HB39.out.size)).trans (e2.mono (Nat.le_trans HB39.out.size HB90.out.size))⟩)
       go_wp2_with (fail)
       refine⟨⟨k+1,x',P9,by omega,by go_num,rfl,HX2⟩,by simp[intOf];omega⟩
    ·have hF:Calls Tryz.prog 17 #[.pointer (some ⟨d,0,none⟩), .slice ra A.length rc'] wr (fun e w'=>e= .returned (.tuple #[.slice none 0 0, .int .i64 (checkF V N A)])∧w'=wr):=by
      obtain⟨cb9,hcod⟩:=HY.out.1.cod
      exact tencode_fault wr hcod HN1.out.1 HSL.out (by omega) hc
     obtain⟨x1,hx1⟩:∃x,checkF V N A=x:=⟨_,rfl⟩
     rw[hx1]at hF hc
     have g1:(x1==0)=false:=by simpa using hc
     have HF:=Lib.hid hF
     clear hF hx1 hc
     go_wp2_with (fail)
     go_at_call 17
     refine HF.out.mono ?_
     rintro E W9 ⟨rfl,rfl⟩
     go_wp2_with (fail)
     go_roundw
     case rel=>exact⟨k+1,y,P,by omega,by go_num,rfl,Lib.hid ⟨HY.out.1,HY.out.2.1,by have:=HY.out.2.2.1;omega,HY.out.2.2.2⟩⟩
     case measure=>simp[intOf];omega
  ·obtain rfl:k=rn:=by omega
   obtain⟨W6,hW6⟩:∃w',w'=wr:=⟨_,rfl⟩
   subst hW6
   have hCt:=tcounts_calls W6 HY.out.1
   have HCT:=Lib.hid hCt
   clear hCt
   go_wp2_with (fail)
   go_at_call 19
   refine HCT.out.mono ?_
   rintro E w7 ⟨hits,misses,rfl,hs,hp1,hp2,hp3,hb7⟩
   have HB37:Hid (Below W3.heap.size W3 w7):=Lib.hid (HY.out.2.2.2.trans (hb7.mono HY.out.2.2.2.size))
   have HB7:Hid (Below w.heap.size w w7):=Lib.hid (HB3.out.trans (HB37.out.mono HB3.out.size))
   have HDc:=Lib.hid (HY.out.1.below hb7)
   have HCc:=Lib.hid (HK3.out.below HB37.out)
   have HX7:=Lib.hid ((HB37.out.block w1.heap.size (by have:=HS3.out;omega)).trans HX3.out)
   have HCR7:=Lib.hid (HCR3.out.below HB37.out)
   have HS7:=Lib.hid (SlI.below HS.out HB7.out)
   have HZ7:Hid (w.heap.size<W3.heap.size∧W3.heap.size≤W6.heap.size∧W6.heap.size≤w7.heap.size∧w1.heap.size<W3.heap.size∧w0.heap.size≤w1.heap.size∧w.heap.size<w0.heap.size):=Lib.hid (by
    have:=HS3.out
    have:=HY.out.2.2.2.size
    have:=hb7.size
    refine⟨by omega,by omega,by omega,by omega,by omega,by omega⟩)
   have hy:=HY.out.2.1
   have hy2:=HY.out.2.2.1
   have hyw:IntKind.i64.wrap (hits+misses)=y:=by rw[hs,IntKind.wrap_i64];omega
   have HRH:Hid (0<rm∨(rm=0∧hits=0)):=Lib.hid (by
    have:=HRM.out
    by_cases h:rm=0
    ·exact .inr ⟨h,hp3 h⟩
    ·exact .inl (by omega))
   clear hb7 hs hp3 hrmw
   by_cases hc:checkF V N S=0
   ·obtain⟨TX,hTX⟩:∃F,textF V N kind (tabOf T) S=F:=⟨_,rfl⟩
    obtain⟨D1,hD1⟩:∃F,byN (splitF kind (tabOf T) S true) S=F:=⟨_,rfl⟩
    have r1:=byN_le (split_ok (kind:=kind) (final:=true) HN1.out.2.2.2.1 hc)
    rw[hD1]at r1
    have hsl:=hlnS.out
    have hz:=HZ7.out
    have hE1:Calls Tryz.prog 17 #[.pointer (some ⟨g,0,none⟩), .slice so sl sc] w7 (EncQ w7 w0.heap.size g V N kind (tabOf T) room 0 (fun q=>w0.heap.size≤q∧q<w1.heap.size) TX D1):=by
     obtain⟨q1,q2,q3,q4,q5,q6⟩:=HN1.out
     rw[←hTX,←hD1]
     exact tencode_calls w7 HCc.out HM.out q1 q4 q2 q3 q6 HS7.out (fun ad e h0=>⟨HS7.out.blk ad e h0,fun hq=>by have:=hq.1;have:=HS.out.blk ad e h0;omega⟩) (by omega) (by omega) hc
    have hE2:∀w8,Keeps (fun q=>w0.heap.size≤q∧q<w1.heap.size) w7 w8→Calls Tryz.prog 17 #[.pointer (some ⟨d,0,none⟩), .slice so sl sc] w8 (EncQ w8 W3.heap.size d V N kind (tabOf T) rm y P TX D1):=fun w8 hk=>by
     obtain⟨q1,q2,q3,q4,q5,q6⟩:=HN1.out
     rw[←hTX,←hD1]
     have hcd:=HDc.out.stay (w':=w8) (fun q hq=>hk.block q (HDc.out.lt q hq).2 (fun h=>by have:=(HDc.out.lt q hq).1;omega)) hk.size
     have hsl8:SlI w8 so sl sc S:=HS7.out.keep0 (fun ad e h0=>hk.block _ (HS7.out.blk ad e h0) (fun h=>by have:=HS.out.blk ad e h0;omega))
     exact tencode_calls w8 hcd HM.out q1 q4 q2 q3 (by have:=HRM.out;omega) hsl8 (fun ad e h0=>⟨hsl8.blk ad e h0,fun hq=>by have:=(hcd.lt _ hq).1;have:=HS.out.blk ad e h0;omega⟩) (by omega) (by omega) hc
    have HE1:=Lib.hid hE1
    have HE2:=Lib.hid hE2
    have HX1:=Lib.hid hc
    clear hE1 hE2 r1 hTX hD1 hc hsl hz
    go_wp2_with (fail)
    go_at_call 17
    refine HE1.out.mono ?_
    rintro E w8 ⟨v8,P8,rfl,ho8,hc8,-,-,hk8⟩
    obtain⟨a8,k8,rfl,-⟩:=ho8.sl
    have HO8:=Lib.hid ho8
    have HK8:=Lib.hid hk8
    clear ho8 hc8 hk8
    go_wp2_with (fail)
    go_at_call 17
    refine(HE2.out w8 HK8.out).mono ?_
    rintro E w9 ⟨v9,P9,rfl,ho9,hc9,-,-,hk9⟩
    obtain⟨a9,k9,rfl,hsl9⟩:=ho9.sl
    have i8:=own_on HO8.out hk9 (fun q hq hz=>by
     have h1:=(HDc.out.lt q hz).2
     have h2:=(World.ownsRow.lt HO8.out q hq).1
     omega)
    obtain⟨x8,y8,e8,s8⟩:=i8.sl
    obtain⟨rfl,-,rfl⟩:=Value.slice.inj e8
    have hb79:Below w0.heap.size w7 w9:=by
     have hz:=HZ7.out
     have k1:Keeps (fun q=>w0.heap.size≤q) w7 w8:=HK8.out.mono (fun q _ h=>h.1)
     have k2:Keeps (fun q=>w0.heap.size≤q) w8 w9:=hk9.mono (fun q _ h=>by have:=(HDc.out.lt q h).1;omega)
     exact(k1.trans k2).below (by omega) (fun q h=>h)
    have HB9:Hid (Below w.heap.size w w9):=Lib.hid (HB7.out.trans (hb79.mono (by have:=HZ7.out;omega)))
    have HX9:Hid (w9.heap[w1.heap.size]?=some (.cells #[.slice ta tn' tc', .slice ma mn mc, .slice sa sn sc', .slice no nn nc, .int .i64 kind, .slice to2 tn2 tc2] 37)):=Lib.hid (by
     have hz:=HZ7.out
     have h1:=HK8.out.block w1.heap.size (by omega) (fun h=>by omega)
     have h2:=hk9.block w1.heap.size (by have:=HK8.out.size;omega) (fun h=>by have:=(HDc.out.lt _ h).1;omega)
     exact(h2.trans h1).trans HX7.out)
    have HL:=Lib.hid (And.intro s8 hsl9)
    have HS9:=Lib.hid (SlI.below HS.out HB9.out)
    have HCR9:Hid (CR w9 ⟨ta,tn',tc',ma,mn,mc,sa,sn,sc'⟩ no nn nc V N):=Lib.hid ⟨HV0.out.below HB9.out,Sl.below HN0.out HB9.out,HCR.out.t64,HCR.out.n16,HCR.out.sp,HCR.out.tk⟩
    have HZ9:Hid (w1.heap.size<w9.heap.size):=Lib.hid (by have:=HZ7.out;have:=hb79.size;omega)
    clear ho9 hc9 hk9 hsl9 i8 e8 s8 hb79
    go_wp2_with (fail)
    refine(fixed16_calls _ (HU.out.below HB9.out)).mono ?_
    rintro E w12 ⟨rfl,hb12⟩
    have HB12:Hid (Below w.heap.size w w12):=Lib.hid (HB9.out.trans (hb12.mono HB9.out.size))
    have HCR12:=Lib.hid (HCR9.out.below hb12)
    have HX12:=Lib.hid ((hb12.block _ HZ9.out).trans HX9.out)
    have HS12:=Lib.hid (HS9.out.below hb12)
    have HL12:=Lib.hid (And.intro (HL.out.1.below hb12) (HL.out.2.below hb12))
    clear hb12
    rcases HRH.out with hr | ⟨hr,hh⟩
    ·have gr:decide ((0:Int)<rm)=true:=by simp;omega
     go_wp2_with (fail)
     refine(same10 w12 HL12.out.1 HL12.out.2).mono ?_
     rintro E W13 ⟨q13,rfl,rfl⟩
     rw[eqB_true rfl]
     obtain⟨b0,b1,b2,b3,b4,b5,bf⟩:=box6 (show(w12.drewN q13).heap[w1.heap.size]?=_ from HX12.out)
     have hck:=rcheck_calls (dd:=⟨ta,tn',tc',ma,mn,mc,sa,sn,sc'⟩) (kind:=kind) (to_:=to2) (tn':=tn2) (tc':=tc2) (w12.drewN q13) (HCR12.out.below (below_drewN (Below.refl _ _) q13)) (HS12.out.drewN q13) (by omega)
     rw[HX1.out]at hck
     unfold cVal at hck
     have HCK:=Lib.hid hck
     clear hck
     go_wp2_with (fail)
     go_at_call 21
     refine HCK.out.mono ?_
     rintro E w14 ⟨rfl,hb14⟩
     have HB14:Hid (Below w.heap.size w w14):=Lib.hid ((below_drewN HB12.out q13).trans (hb14.mono HB12.out.size))
     clear hb14
     go_wp2_with (fail)
     go_ret
     exact⟨rfl,HB14.out⟩
    ·have gr:decide ((0:Int)<rm)=false:=by simp;omega
     have gh:(hits==0)=true:=by simpa using hh
     clear hh hr
     go_wp2_with (fail)
     refine(same10 w12 HL12.out.1 HL12.out.2).mono ?_
     rintro E W13 ⟨q13,rfl,rfl⟩
     rw[eqB_true rfl]
     obtain⟨b0,b1,b2,b3,b4,b5,bf⟩:=box6 (show(w12.drewN q13).heap[w1.heap.size]?=_ from HX12.out)
     have hck:=rcheck_calls (dd:=⟨ta,tn',tc',ma,mn,mc,sa,sn,sc'⟩) (kind:=kind) (to_:=to2) (tn':=tn2) (tc':=tc2) (w12.drewN q13) (HCR12.out.below (below_drewN (Below.refl _ _) q13)) (HS12.out.drewN q13) (by omega)
     rw[HX1.out]at hck
     unfold cVal at hck
     have HCK:=Lib.hid hck
     clear hck
     go_wp2_with (fail)
     go_at_call 21
     refine HCK.out.mono ?_
     rintro E w14 ⟨rfl,hb14⟩
     have HB14:Hid (Below w.heap.size w w14):=Lib.hid ((below_drewN HB12.out q13).trans (hb14.mono HB12.out.size))
     clear hb14
     go_wp2_with (fail)
     go_ret
     exact⟨rfl,HB14.out⟩
   ·obtain⟨x1,hx1⟩:∃x,checkF V N S=x:=⟨_,rfl⟩
    have hF1:Calls Tryz.prog 17 #[.pointer (some ⟨g,0,none⟩), .slice so sl sc] w7 (fun e w'=>e= .returned (.tuple #[.slice none 0 0, .int .i64 (checkF V N S)])∧w'=w7):=by
     obtain⟨cb9,hcod⟩:=HCc.out.cod
     exact tencode_fault w7 hcod HN1.out.1 HS7.out (by omega) hc
    have hF2:Calls Tryz.prog 17 #[.pointer (some ⟨d,0,none⟩), .slice so sl sc] w7 (fun e w'=>e= .returned (.tuple #[.slice none 0 0, .int .i64 (checkF V N S)])∧w'=w7):=by
     obtain⟨cb9,hcod⟩:=HDc.out.cod
     exact tencode_fault w7 hcod HN1.out.1 HS7.out (by omega) hc
    rw[hx1]at hF1 hF2
    have HF1:=Lib.hid hF1
    have HF2:=Lib.hid hF2
    have HX1:=Lib.hid hx1
    have gee:(x1==x1)=true:=by simp
    clear hF1 hF2 hx1 hc
    go_wp2_with (fail)
    go_at_call 17
    refine HF1.out.mono ?_
    rintro E W9 ⟨rfl,rfl⟩
    go_wp2_with (fail)
    go_at_call 17
    refine HF2.out.mono ?_
    rintro E W9 ⟨rfl,rfl⟩
    go_wp2_with (fail)
    refine(fixed16_calls _ (HU.out.below HB7.out)).mono ?_
    rintro E w12 ⟨rfl,hb12⟩
    have HB12:Hid (Below w.heap.size w w12):=Lib.hid (HB7.out.trans (hb12.mono HB7.out.size))
    have HCR12:=Lib.hid (HCR7.out.below hb12)
    have HX12:=Lib.hid ((hb12.block _ (by have:=HZ7.out;omega)).trans HX7.out)
    have HS12:=Lib.hid (HS7.out.below hb12)
    clear hb12
    rcases HRH.out with hr | ⟨hr,hh⟩
    ·have gr:decide ((0:Int)<rm)=true:=by simp;omega
     go_wp2_with (fail)
     refine(same10 w12 (SlI.none w12) (SlI.none w12)).mono ?_
     rintro E W13 ⟨q13,rfl,rfl⟩
     rw[eqB_true rfl]
     obtain⟨b0,b1,b2,b3,b4,b5,bf⟩:=box6 (show(w12.drewN q13).heap[w1.heap.size]?=_ from HX12.out)
     have hck:=rcheck_calls (dd:=⟨ta,tn',tc',ma,mn,mc,sa,sn,sc'⟩) (kind:=kind) (to_:=to2) (tn':=tn2) (tc':=tc2) (w12.drewN q13) (HCR12.out.below (below_drewN (Below.refl _ _) q13)) (HS12.out.drewN q13) (by omega)
     rw[HX1.out]at hck
     unfold cVal at hck
     have HCK:=Lib.hid hck
     clear hck
     go_wp2_with (fail)
     go_at_call 21
     refine HCK.out.mono ?_
     rintro E w14 ⟨rfl,hb14⟩
     have HB14:Hid (Below w.heap.size w w14):=Lib.hid ((below_drewN HB12.out q13).trans (hb14.mono HB12.out.size))
     clear hb14
     go_wp2_with (fail)
     go_ret
     exact⟨rfl,HB14.out⟩
    ·have gr:decide ((0:Int)<rm)=false:=by simp;omega
     have gh:(hits==0)=true:=by simpa using hh
     clear hh hr
     go_wp2_with (fail)
     refine(same10 w12 (SlI.none w12) (SlI.none w12)).mono ?_
     rintro E W13 ⟨q13,rfl,rfl⟩
     rw[eqB_true rfl]
     obtain⟨b0,b1,b2,b3,b4,b5,bf⟩:=box6 (show(w12.drewN q13).heap[w1.heap.size]?=_ from HX12.out)
     have hck:=rcheck_calls (dd:=⟨ta,tn',tc',ma,mn,mc,sa,sn,sc'⟩) (kind:=kind) (to_:=to2) (tn':=tn2) (tc':=tc2) (w12.drewN q13) (HCR12.out.below (below_drewN (Below.refl _ _) q13)) (HS12.out.drewN q13) (by omega)
     rw[HX1.out]at hck
     unfold cVal at hck
     have HCK:=Lib.hid hck
     clear hck
     go_wp2_with (fail)
     go_at_call 21
     refine HCK.out.mono ?_
     rintro E w14 ⟨rfl,hb14⟩
     have HB14:Hid (Below w.heap.size w w14):=Lib.hid ((below_drewN HB12.out q13).trans (hb14.mono HB12.out.size))
     clear hb14
     go_wp2_with (fail)
     go_ret
     exact⟨rfl,HB14.out⟩
end Go.Proofs.YtimkkkdabmhedaaGreatDoor
