/- Walk: TextMarks. (Printed by gMarks.py.) -/
import Derived.Test.YtimkkkdabmhedaaGreatDoorD38
import Derived.Test.YtimkkkdabmhedaaGreatDoorD39
import Derived.Test.YtimkkkdabmhedaaGreatDoorD18
set_option linter.unusedVariables false
set_option maxHeartbeats 4000000
set_option maxRecDepth 100000
namespace Go.Proofs.YtimkkkdabmhedaaGreatDoor
open Go.RowKit
theorem textMarks_walk {V:Vc} {dd:Vd} {N:List ByteArray} {kind:Int} {T:List Rg} {room:Int} {no to_:Option Addr} {nn nc tn tc:Nat} {z:Int} {so:Option Addr} {sl sc:Nat} {SL:List Int} {uo:Option Addr} {ul uc:Nat} {UL:List Int} (w:World) (hV:VocR w dd V) (hok:(∀s∈V.tokens,s.size≤maxLen)∧Sized V.specials) (hN:SlS w no nn nc N) (hNs:∀s∈N,s.size≤maxLen)
  (hT:SlF 3 w to_ tn tc (flat Rg.enc T)) (hs:SlI w so sl sc SL) (hu:SlI w uo ul uc UL) (hz:0≤z∧z≤255) (hU:Usu w):
  Frame.Law Tryz.prog 5 #[.agg #[.slice dd.ta dd.tn dd.tc, .slice dd.ma dd.mn dd.mc, .slice dd.sa dd.sn dd.sc, .slice no nn nc, .int .i64 kind, .slice to_ tn tc, .int .i64 room], .slice so sl sc, .slice uo ul uc, .int .u8 z] w:=by
 unfold Frame.Law
 obtain⟨ta,tn',tc',ma,mn,mc,sa,sn,sc'⟩:=dd
 obtain⟨w0,hw0⟩:∃w0,w.alloc (.cells #[.slice ta tn' tc', .slice ma mn mc, .slice sa sn sc', .slice no nn nc, .int .i64 kind, .slice to_ tn tc, .int .i64 room] 29)=w0:=⟨_,rfl⟩
 have hb0:Below w.heap.size w w0:=hw0▸below_alloc w _
 have hx0:w0.heap[w.heap.size]?=some (.cells #[.slice ta tn' tc', .slice ma mn mc, .slice sa sn sc', .slice no nn nc, .int .i64 kind, .slice to_ tn tc, .int .i64 room] 29):=by rw[←hw0];exact heap_alloc_new w _
 have hmade:=made2_calls (dd:=⟨ta,tn',tc',ma,mn,mc,sa,sn,sc'⟩) (kind:=kind) (room:=room) w0 (hV.below hb0) hok (Sl.below hN hb0) hNs (hT.below hb0) (hU.below hb0)
 have Hs:=Lib.hid hs
 have hmxs:=Nat.le_trans (Sl.le hs) (Sl.max hs)
 have hlns:=hs.len
 unfold maxLen at hmxs
 have Hu:=Lib.hid hu
 have hmxu:=Nat.le_trans (Sl.le hu) (Sl.max hu)
 have hlnu:=hu.len
 unfold maxLen at hmxu
 have HV0:=Lib.hid hV
 have HN0:=Lib.hid hN
 have HX0:=Lib.hid hx0
 have HU:=Lib.hid hU
 have HB0:=Lib.hid hb0
 have HW0:=Lib.hid hw0
 obtain⟨c0,c1,c2,c3,c4,c5,c6⟩:=box7 hx0
 rw[←HW0.out]at c0 c1 c2 c3 c4 c5 c6
 clear hV hok hN hNs hT hU hb0 hw0 hx0 hs hu
 go_enter Tryz.func5,Tryz.ntmps5
 go_wp2_with (fail)
 rw[HW0.out]
 clear c0 c1 c2 c3 c4 c5 c6
 refine hmade.mono ?_
 rintro e w1 ⟨hpost,hb1⟩
 have hZ01:Hid (w0.heap.size≤w1.heap.size):=Lib.hid hb1.size
 have HB01:=Lib.hid hb1
 have HB1:Hid (Below w.heap.size w w1):=Lib.hid (HB0.out.trans (hb1.mono HB0.out.size))
 clear hb1 hmade
 rcases hpost with⟨rfl,-⟩ | ⟨hM,hOK,hG,g,cb,mb,to2,tn2,tc2,rfl,hTC,hCR⟩
 ·unfold noC
  have hb2:=HB1.out.alloc HB1.out.size (.cells #[.slice none 0 0, .slice none 0 0, .slice none 0 0, .slice none 0 0, .int .i64 0, .slice none 0 0] 37)
  have HB2:=Lib.hid hb2
  clear hb2
  go_wp2_with (fail)
  refine(fixed16_calls _ (HU.out.below HB2.out)).mono ?_
  rintro e w3 ⟨rfl,hb3⟩
  have HB3:=Lib.hid (HB2.out.trans (hb3.mono HB2.out.size))
  clear hb3
  go_wp2_with (fail)
  go_ret
  exact⟨rfl,HB3.out⟩
 obtain⟨w2,hw2⟩:∃w2,w1.alloc (.cells #[.slice ta tn' tc', .slice ma mn mc, .slice sa sn sc', .slice no nn nc, .int .i64 kind, .slice to2 tn2 tc2] 37)=w2:=⟨_,rfl⟩
 have hb2:Below w1.heap.size w1 w2:=hw2▸below_alloc w1 _
 have hx2:w2.heap[w1.heap.size]?=some (.cells #[.slice ta tn' tc', .slice ma mn mc, .slice sa sn sc', .slice no nn nc, .int .i64 kind, .slice to2 tn2 tc2] 37):=by rw[←hw2];exact heap_alloc_new w1 _
 have hz2:w1.heap.size<w2.heap.size:=by rw[←hw2];simp
 have HB2:Hid (Below w.heap.size w w2):=Lib.hid (HB1.out.trans (hb2.mono HB1.out.size))
 have hK1:=Cdr.new hTC hOK.2.2.2.2.1
 have HK1:=Lib.hid (hK1.below hb2)
 have HCR:=Lib.hid (hCR.below hb2)
 have HM:=Lib.hid hM
 have HOK:=Lib.hid hOK
 have HX2:=Lib.hid hx2
 have HZ2:=Lib.hid hz2
 have HW2:=Lib.hid hw2
 have HN1:Hid (N.length≤16∧0≤kind∧kind≤3∧MayTab (tabOf T)∧0≤room∧room≤1048576):=Lib.hid ⟨hOK.1.1,hOK.2.1,hOK.2.2.1,mayTab_of hOK.2.2.2.1,hOK.2.2.2.2.1,hOK.2.2.2.2.2⟩
 have HKT:Hid (w2.heap[w.heap.size]?=some (.cells #[.slice ta tn' tc', .slice ma mn mc, .slice sa sn sc', .slice no nn nc, .int .i64 kind, .slice to_ tn tc, .int .i64 room] 29)):=Lib.hid ((hb2.block _ (by have:=(Array.getElem?_eq_some_iff.1 HX0.out).1;have:=hZ01.out;omega)).trans ((HB01.out.block _ (Array.getElem?_eq_some_iff.1 HX0.out).1).trans HX0.out))
 clear hb2 hx2 hz2 hw2 hTC hCR hM hOK hG hK1
 unfold cVal
 by_cases hls:40<sl
 ·have hl1:(40:Int)<(sl:Int):=by omega
  go_wp2_with (fail)
  rw[HW2.out]
  refine(fixed16_calls _ (HU.out.below HB2.out)).mono ?_
  rintro e w3 ⟨rfl,hb3⟩
  have HB3:=Lib.hid (HB2.out.trans (hb3.mono HB2.out.size))
  clear hb3
  go_wp2_with (fail)
  go_ret
  exact⟨rfl,HB3.out⟩
 have hls1:¬(40:Int)<(sl:Int):=by omega
 by_cases hlu:40<ul
 ·have hl1:(40:Int)<(ul:Int):=by omega
  go_wp2_with (fail)
  rw[HW2.out]
  refine(fixed16_calls _ (HU.out.below HB2.out)).mono ?_
  rintro e w3 ⟨rfl,hb3⟩
  have HB3:=Lib.hid (HB2.out.trans (hb3.mono HB2.out.size))
  clear hb3
  go_wp2_with (fail)
  go_ret
  exact⟨rfl,HB3.out⟩
 have hlu1:¬(40:Int)<(ul:Int):=by omega
 obtain⟨k0,k1,k2,k3,k4,k5,k6⟩:=box7 HKT.out
 rw[←HW2.out]at k0 k1 k2 k3 k4 k5 k6
 have hnl:=HN0.out.count
 by_cases hn0:nn=0
 ·subst hn0
  go_wp2_with (fail)
  rw[HW2.out]
  refine(fixed16_calls _ (HU.out.below HB2.out)).mono ?_
  rintro e w9 ⟨rfl,hb9⟩
  have HB9:=Lib.hid (HB2.out.trans (hb9.mono HB2.out.size))
  clear hb9
  go_wp2_with (fail)
  go_ret
  exact⟨rfl,HB9.out⟩
 have gn0:((nn:Int)==0)=false:=by simp;omega
 have hc1:=rcheck_calls (dd:=⟨ta,tn',tc',ma,mn,mc,sa,sn,sc'⟩) (kind:=kind) (to_:=to2) (tn':=tn2) (tc':=tc2) w2 HCR.out (SlI.below Hs.out HB2.out) (by omega)
 obtain⟨x1,hx1⟩:∃x,checkF V N SL=x:=⟨_,rfl⟩
 obtain⟨x2,hx2⟩:∃x,checkF V N UL=x:=⟨_,rfl⟩
 rw[hx1]at hc1
 unfold cVal at hc1
 have HC1:=Lib.hid hc1
 have HE1:=Lib.hid hx1
 have HE2:=Lib.hid hx2
 clear hc1 hx1 hx2
 go_wp2_with (fail)
 rw[HW2.out]
 clear k0 k1 k2 k3 k4 k5 k6
 go_at_call 21
 refine HC1.out.mono ?_
 rintro e w3 ⟨rfl,hb3⟩
 have HB23:=Lib.hid hb3
 have HB3:Hid (Below w.heap.size w w3):=Lib.hid (HB2.out.trans (hb3.mono HB2.out.size))
 obtain⟨b0,b1,b2,b3,b4,b5,bf⟩:=box6 ((hb3.block _ HZ2.out).trans HX2.out)
 have hc2:=rcheck_calls (dd:=⟨ta,tn',tc',ma,mn,mc,sa,sn,sc'⟩) (kind:=kind) (to_:=to2) (tn':=tn2) (tc':=tc2) w3 (HCR.out.below hb3) (SlI.below Hu.out HB3.out) (by omega)
 rw[HE2.out]at hc2
 unfold cVal at hc2
 have HC2:=Lib.hid hc2
 clear hb3 hc2
 by_cases g1:x1=0
 rotate_left
 ·have g2:(x1 != 0)=true:=by simpa using g1
  clear g1
  go_wp2_with (fail)
  refine(fixed16_calls _ (HU.out.below HB3.out)).mono ?_
  rintro e w9 ⟨rfl,hb9⟩
  have HB9:=Lib.hid (HB3.out.trans (hb9.mono HB3.out.size))
  clear hb9
  go_wp2_with (fail)
  go_ret
  exact⟨rfl,HB9.out⟩
 subst g1
 go_wp2_with (fail)
 go_at_call 21
 refine HC2.out.mono ?_
 rintro e w4 ⟨rfl,hb4⟩
 have HB34:=Lib.hid hb4
 have HB4:Hid (Below w.heap.size w w4):=Lib.hid (HB3.out.trans (hb4.mono HB3.out.size))
 have HB24:Hid (Below w2.heap.size w2 w4):=Lib.hid (HB23.out.trans (hb4.mono HB23.out.size))
 clear hb4 b0 b1 b2 b3 b4 b5 bf
 by_cases g1:x2=0
 rotate_left
 ·have g2:(x2 != 0)=true:=by simpa using g1
  clear g1
  go_wp2_with (fail)
  refine(fixed16_calls _ (HU.out.below HB4.out)).mono ?_
  rintro e w9 ⟨rfl,hb9⟩
  have HB9:=Lib.hid (HB4.out.trans (hb9.mono HB4.out.size))
  clear hb9
  go_wp2_with (fail)
  go_ret
  exact⟨rfl,HB9.out⟩
 subst g1
 obtain⟨n,hn⟩:∃n:Nat,z.tmod (nn:Int)=n:=⟨(z.tmod (nn:Int)).toNat,by rw[Int.tmod_eq_emod_of_nonneg hz.1];have:=Int.emod_nonneg z (b:=(nn:Int)) (by omega);omega⟩
 have hnn:n<nn:=by
  rw[Int.tmod_eq_emod_of_nonneg hz.1]at hn
  have:=Int.emod_lt_of_pos z (b:=(nn:Int)) (by omega)
  omega
 have hnN:n<N.length:=by omega
 have hn16:nn≤16:=by have:=HN1.out.1;omega
 obtain⟨b',of',hao,hcn⟩:=SlS.cell (Sl.below HN0.out HB4.out) (tk_eq hnN)
 subst hao
 obtain⟨nm,hnm⟩:∃y,tk N n=y:=⟨_,rfl⟩
 rw[hnm]at hcn
 have hkt4:=(HB24.out.block _ (by have:=(Array.getElem?_eq_some_iff.1 HKT.out).1;exact this)).trans HKT.out
 have HKT4:=Lib.hid hkt4
 have HSP:=Lib.hid ((HV0.out.below HB4.out).spc)
 have hsn:=HSP.out.count Sp.enc_len (by omega)
 simp only at hsn
 have HSN:=Lib.hid hsn
 have HNM:=Lib.hid hnm
 have HCN:=Lib.hid hcn
 have HWG:=Lib.hid (want_of HM.out.2.2.2 nm)
 have hsn2:sn≤16:=by have:=HM.out.2.2.2.1;omega
 have gnn:(n:Int)<(nn:Int):=by omega
 obtain⟨k0,k1,k2,k3,k4,k5,k6⟩:=box7 hkt4
 have hzw:IntKind.i64.wrap z=z:=by rw[IntKind.wrap_i64];omega
 have hnw:IntKind.i64.wrap (n:Int)=(n:Int):=by rw[IntKind.wrap_i64];omega
 clear hkt4 hsn hcn hnm
 go_wp2_with (fail)
 go_loopw [13,71] (fun x i wr=>∃(k:Nat) (y:Int),k≤sn∧i= .int .i64 k∧x= .int .i64 y∧Hid (wantGo nm (V.specials.drop k) y=idOf (spNamed V.specials nm))∧Hid (Below w4.heap.size w4 wr)) (fun _ i _=>sn-(intOf i).toNat)
 case atStart=>exact⟨0,-1,Nat.zero_le _,rfl,rfl,HWG,Lib.hid (Below.refl _ _)⟩
 case round=>
  obtain⟨k,y,hk,rfl,rfl,HY,HB⟩:=hrel
  obtain⟨k0,k1,k2,k3,k4,k5,k6⟩:=box7 ((HB.out.block _ (by have:=(Array.getElem?_eq_some_iff.1 HKT4.out).1;exact this)).trans HKT4.out)
  by_cases hlt:k<sn
  ·have hkS:k<V.specials.length:=by have:=HSN.out;omega
   obtain⟨b,of,hao,hce⟩:=(SlF.below HSP.out HB.out).elem Sp.enc_len (by omega) (sp_eq hkS)
   subst hao
   have hwg:=wantGo_snoc (nm:=nm) hkS y
   obtain⟨⟨nm2,id⟩,hseq⟩:∃m,sp V.specials k=m:=⟨_,rfl⟩
   rw[hseq]at hce hwg
   have d0:=hce 0 _ rfl
   have d1:=hce 1 _ rfl
   rw[Nat.add_zero]at d0
   simp only at d0 d1 hwg
   have hcn:=cell_below HB.out _ _ HCN.out
   have gk:(k:Int)<(sn:Int):=by omega
   obtain⟨w5,hw5⟩:∃w5,wr.alloc (.cells #[.string nm2, .int .i64 id] 58)=w5:=⟨_,rfl⟩
   have hb5:Below wr.heap.size wr w5:=hw5▸below_alloc wr _
   have hx5:w5.heap[wr.heap.size]?=some (.cells #[.string nm2, .int .i64 id] 58):=by rw[←hw5];exact heap_alloc_new wr _
   obtain⟨j0,j1⟩:=box2' hx5
   have m3:=cell_below hb5 _ _ k3
   have mcn:=cell_below hb5 _ _ hcn
   have HW5:=Lib.hid hw5
   have HB5:Hid (Below w4.heap.size w4 w5):=Lib.hid (HB.out.trans (hb5.mono HB.out.size))
   clear hce hseq hw5 hb5 hx5
   by_cases hid:nm2=nm
   ·have hb2:=beqS_yes hid
    rw[if_pos hid]at hwg
    have HY2:=Lib.hid (hwg.symm.trans HY.out)
    clear hid hwg
    go_wp2_with (fail)
    rw[HW5.out]
    go_quiet (fail)
    go_wp2_with (fail)
    go_roundw
    case rel=>exact⟨k+1,id,by omega,by go_num,rfl,HY2,Lib.hid (by exact below_drewN HB5.out _)⟩
    case measure=>simp[intOf];omega
   ·have hb2:=beqS_no hid
    rw[if_neg hid]at hwg
    have HY2:=Lib.hid (hwg.symm.trans HY.out)
    clear hid hwg
    go_wp2_with (fail)
    rw[HW5.out]
    go_quiet (fail)
    go_wp2_with (fail)
    go_roundw
    case rel=>exact⟨k+1,y,by omega,by go_num,rfl,HY2,Lib.hid (by exact below_drewN HB5.out _)⟩
    case measure=>simp[intOf];omega
  ·obtain rfl:k=sn:=by omega
   have hlen:V.specials.length=k:=by have:=HSN.out;omega
   have hy:y=idOf (spNamed V.specials nm):=by
    have h:=HY.out
    rw[List.drop_eq_nil_of_le (by omega)]at h
    exact h
   have HY2:Hid (y=idOf (spNamed V.specials nm)):=Lib.hid hy
   clear hlen hy k0 k1 k2 k3 k4 k5 k6
   obtain⟨W4,hW4⟩:∃W4,W4=wr:=⟨_,rfl⟩
   subst hW4
   obtain⟨i0,hi0,hz0,hz1,hz2⟩:=info_parts infoInt3
   have hmw:IntKind.i64.wrap (256+(n:Int))=256+(n:Int):=by rw[IntKind.wrap_i64];omega
   have HBW:Hid (Below w.heap.size w W4):=Lib.hid (HB4.out.trans (HB.out.mono HB4.out.size))
   have HBW2:Hid (Below w2.heap.size w2 W4):=Lib.hid (HB24.out.trans (HB.out.mono HB24.out.size))
   have HSW:Hid (SlI W4 so sl sc SL):=Lib.hid (SlI.below Hs.out HBW.out)
   have hmk:markAt V N (256+(n:Int))=y:=by rw[HY2.out,←HNM.out];exact markAt_eq (by omega) hnN
   have HMK:=Lib.hid hmk
   clear hmk
   go_wp2_with (first
    | (at_builtin;refine wpList_int_app rfl _ _ 43 rfl (base:=W4.heap.size) i0 Tryz.underlying43 hi0 hz0 hz1 hz2 rfl (own_made0 W4) rfl (HSW.out.alloc _) (by simp;omega) (by simp) ?_;intro v1 x1 ho1 hg1 hb1;have HO1:=Lib.hid ho1;have HBX1:=Lib.hid ((below_alloc W4 _).trans hb1);clear ho1 hg1 hb1)
    | (at_builtin;refine wpList_int_app rfl _ _ 43 rfl (base:=W4.heap.size) i0 Tryz.underlying43 hi0 hz0 hz1 hz2 rfl (HO1.out.alloc _) rfl (SlI.one x1 _ _) (by simp;omega) (by have:=HBX1.out.size;simp;omega) ?_;intro v2 x2 ho2 hg2 hb2;have HO2:=Lib.hid ho2;have HBX2:=Lib.hid ((HBX1.out.alloc HBX1.out.size _).trans hb2);clear ho2 hg2 hb2))
   have ho2:=HO2.out
   rw[List.nil_append]at ho2
   obtain⟨a2,k2,rfl,hs2⟩:=ho2.sl
   have hl2:(SL++ [256+(n:Int)]).length=sl+1:=by simp[hlns]
   rw[hl2]at hs2 ⊢
   have HJ:=Lib.hid (rjoin_calls x2 hs2 (SlI.below Hu.out (HBW.out.trans (HBX2.out.mono HBW.out.size))) (by omega) (by omega))
   clear hs2 ho2
   go_at_call 22
   refine HJ.out.mono ?_
   rintro E w7 ⟨⟨vo7,vc7,rfl,ho7⟩,hb7⟩
   obtain⟨ao7,cap7,e7,hs7⟩:=ho7.sl
   obtain⟨rfl,e7',rfl⟩:=Value.slice.inj e7
   rw[←e7']at hs7
   have hX2:=HBX2.out.size
   have hB47:Below W4.heap.size W4 w7:=HBX2.out.trans (hb7.mono hX2)
   have HB27:Hid (Below w2.heap.size w2 w7):=Lib.hid (HBW2.out.trans (hB47.mono HBW2.out.size))
   have HB7:Hid (Below w.heap.size w w7):=Lib.hid (HBW.out.trans (hB47.mono HBW.out.size))
   have HS7:=Lib.hid hs7
   have hbl7:∀ad,vo7=some ad→0<sl+1+ul→ad.block<w7.heap.size∧¬(w0.heap.size≤ad.block∧ad.block<w1.heap.size):=fun ad e h0=>by
    have h9:=ho7.blk ad e (by rw[←e7'];exact h0)
    have:=HBW2.out.size
    have:=HZ2.out
    exact⟨h9.2,fun h=>by omega⟩
   have HBL7:=Lib.hid hbl7
   clear hs7 ho7 e7 e7' hb7 hX2 hB47 hbl7
   by_cases hy0:y<0
   ·have hck:checkF V N (SL++ [256+(n:Int)]++UL)=4:=by
     rw[List.append_assoc,checkF_cat HE1.out]
     have hf:faultF V N (256+(n:Int))=4:=by unfold faultF;rw[if_neg (by omega),if_pos ⟨by omega,by rw[HMK.out];exact hy0⟩]
     show(if faultF V N (256+(n:Int))=0 then _ else faultF V N (256+(n:Int)))=4
     rw[hf];rfl
    obtain⟨cb7,hcod⟩:=(HK1.out.below HB27.out).cod
    have hF:=tencode_fault w7 hcod HN1.out.1 HS7.out (by omega) (by rw[hck];simp)
    rw[hck]at hF
    have HF:=Lib.hid hF
    clear hck hcod hF
    go_wp2_with (fail)
    go_at_call 17
    refine HF.out.mono ?_
    rintro E W8 ⟨rfl,rfl⟩
    go_wp2_with (fail)
    refine(fixed16_calls _ (HU.out.below HB7.out)).mono ?_
    rintro e w9 ⟨rfl,hb9⟩
    have HB9:=Lib.hid (HB7.out.trans (hb9.mono HB7.out.size))
    clear hb9
    go_wp2_with (fail)
    go_ret
    exact⟨rfl,HB9.out⟩
   ·have hcm:checkF V N [256+(n:Int)]=0:=checkF_all.2 (fun s hs=>by
     obtain rfl:=List.mem_singleton.1 hs
     unfold faultF;rw[if_neg (by omega),if_neg (fun h=>hy0 (by rw[←HMK.out];exact h.2))])
    have hck:checkF V N (SL++ [256+(n:Int)]++UL)=0:=by
     rw[List.append_assoc,checkF_cat HE1.out,checkF_cat hcm];exact HE2.out
    have htx:=textF_mark (kind:=kind) HN1.out.2.2.2.1 HE1.out (m:=256+(n:Int)) (b:=UL) hcm (by omega)
    rw[HMK.out]at htx
    have hsy:symsOf V N y=([256+(n:Int)],0):=by
     cases hsp:spNamed V.specials nm with
     | none=>rw[hsp]at HY2;exact absurd (show y= -1 from HY2.out) (by omega)
     | some s=>
      rw[hsp]at HY2
      obtain rfl:y=s.id:=HY2.out
      exact symsOf_mark HM.out.2.2.2 HOK.out.1 hnN (by rw[HNM.out];exact hsp)
    obtain⟨TX,hTX⟩:∃F,textF V N kind (tabOf T) (SL++ [256+(n:Int)]++UL)=F:=⟨_,rfl⟩
    obtain⟨D2,hD2⟩:∃F,byN (splitF kind (tabOf T) (SL++ [256+(n:Int)]++UL) true) (SL++ [256+(n:Int)]++UL)=F:=⟨_,rfl⟩
    have r2:=byN_le (split_ok (kind:=kind) (final:=true) HN1.out.2.2.2.1 hck)
    rw[hD2]at r2
    have hEn:Calls Tryz.prog 17 #[.pointer (some ⟨g,0,none⟩), .slice vo7 (sl+1+ul) vc7] w7 (EncQ w7 w0.heap.size g V N kind (tabOf T) room 0 (fun q=>w0.heap.size≤q∧q<w1.heap.size) TX D2):=by
     obtain⟨q1,q2,q3,q4,q5,q6⟩:=HN1.out
     rw[←hTX,←hD2]
     exact tencode_calls w7 (HK1.out.below HB27.out) HM.out q1 q4 q2 q3 q6 HS7.out HBL7.out (by omega) (by omega) hck
    have HEN:=Lib.hid hEn
    have hTXe:TX=textF V N kind (tabOf T) SL++y::textF V N kind (tabOf T) UL:=by rw[←hTX,List.append_assoc];exact htx
    have HTX:=Lib.hid hTXe
    have HSY:=Lib.hid hsy
    have HR2:=Lib.hid r2
    clear hcm hck htx hsy hTX hD2 r2 hEn hTXe
    go_wp2_with (fail)
    go_at_call 17
    refine HEN.out.mono ?_
    rintro E w8 ⟨v8,P8,rfl,ho8,hc8,hs8,hv8,hk8⟩
    obtain⟨a8,k8,rfl,-⟩:=ho8.sl
    have hS5:w.heap.size≤w0.heap.size∧w0.heap.size≤w1.heap.size∧w1.heap.size≤w7.heap.size:=⟨HB0.out.size,hZ01.out,by have:=HZ2.out;have:=HB27.out.size;omega⟩
    have HS5:=Lib.hid hS5
    have HB8:Hid (Below w.heap.size w w8):=Lib.hid (HB7.out.trans ((hk8.below (B:=w0.heap.size) (by omega) (fun q h=>h.1)).mono hS5.1))
    have HO8:=Lib.hid ho8
    have HC8:=Lib.hid hc8
    have HS8:=Lib.hid (And.intro hs8 (And.intro hv8 hk8.size))
    obtain⟨X,hX⟩:∃F,textF V N kind (tabOf T) SL=F:=⟨_,rfl⟩
    obtain⟨Y,hY⟩:∃F,textF V N kind (tabOf T) UL=F:=⟨_,rfl⟩
    obtain⟨D3,hD3⟩:∃F,byN (splitF kind (tabOf T) SL true) SL=F:=⟨_,rfl⟩
    obtain⟨D4,hD4⟩:∃F,byN (splitF kind (tabOf T) UL true) UL=F:=⟨_,rfl⟩
    have r3:=byN_le (split_ok (kind:=kind) (final:=true) HN1.out.2.2.2.1 HE1.out)
    have r4:=byN_le (split_ok (kind:=kind) (final:=true) HN1.out.2.2.2.1 HE2.out)
    rw[hD3]at r3
    rw[hD4]at r4
    have hR2:=HR2.out
    simp only[List.length_append,List.length_singleton]at hR2
    have hXl:X.length≤sl:=by
     rw[←hX,←hlns];exact textF_len HN1.out.2.2.2.1 HE1.out
    have hYl:Y.length≤ul:=by
     rw[←hY,←hlnu];exact textF_len HN1.out.2.2.2.1 HE2.out
    have hEn:Calls Tryz.prog 17 #[.pointer (some ⟨g,0,none⟩), .slice so sl sc] w8 (EncQ w8 w0.heap.size g V N kind (tabOf T) room (0+D2) P8 X D3):=by
     obtain⟨q1,q2,q3,q4,q5,q6⟩:=HN1.out
     rw[←hX,←hD3]
     exact tencode_calls w8 hc8 HM.out q1 q4 q2 q3 q6 (SlI.below Hs.out HB8.out) (fun ad e h0=>⟨(SlI.below Hs.out HB8.out).blk ad e h0,fun hq=>by have:=(hc8.lt _ hq).1;have:=Hs.out.blk ad e h0;omega⟩) (by omega) (by omega) HE1.out
    have HEN2:=Lib.hid hEn
    have HTX2:Hid (TX=X++y::Y):=Lib.hid (by rw[HTX.out,hX,hY])
    have HXY:=Lib.hid (And.intro hY hD4)
    have HR3:=Lib.hid (And.intro r3 (And.intro r4 (And.intro hXl (And.intro hYl hR2))))
    clear ho8 hc8 hs8 hv8 hk8 hS5 r3 r4 hR2 hX hY hD3 hD4 hEn hXl hYl
    go_wp2_with (fail)
    go_at_call 17
    refine HEN2.out.mono ?_
    rintro E w9 ⟨v9,P9,rfl,ho9,hc9,hs9,hv9,hk9⟩
    obtain⟨a9,k9,rfl,-⟩:=ho9.sl
    have HB9:Hid (Below w.heap.size w w9):=Lib.hid (HB8.out.trans ((hk9.below (B:=w0.heap.size) (by have:=HS5.out;have:=HS8.out.2.2;omega) (fun q h=>(HC8.out.lt q h).1)).mono HS5.out.1))
    have i8:=own_on HO8.out hk9 HS8.out.2.1
    have hS5:=HS5.out
    have hR3:=HR3.out
    have hEn:Calls Tryz.prog 17 #[.pointer (some ⟨g,0,none⟩), .slice uo ul uc] w9 (EncQ w9 w0.heap.size g V N kind (tabOf T) room (0+D2+D3) P9 Y D4):=by
     obtain⟨q1,q2,q3,q4,q5,q6⟩:=HN1.out
     rw[←HXY.out.1,←HXY.out.2]
     exact tencode_calls w9 hc9 HM.out q1 q4 q2 q3 q6 (SlI.below Hu.out HB9.out) (fun ad e h0=>⟨(SlI.below Hu.out HB9.out).blk ad e h0,fun hq=>by have:=(hc9.lt _ hq).1;have:=Hu.out.blk ad e h0;omega⟩) (by omega) (by omega) HE2.out
    have HEN3:=Lib.hid hEn
    have HI8:=Lib.hid i8
    have HO9:=Lib.hid ho9
    have HC9:=Lib.hid hc9
    have HS9:=Lib.hid (And.intro hs9 (And.intro hv9 hk9.size))
    clear ho9 hc9 hs9 hv9 hk9 hS5 hR3 hEn i8
    go_wp2_with (fail)
    go_at_call 17
    refine HEN3.out.mono ?_
    rintro E w10 ⟨v10,P10,rfl,ho10,hc10,-,-,hk10⟩
    obtain⟨a10,k10,rfl,hsl10⟩:=ho10.sl
    have HB10:Hid (Below w.heap.size w w10):=Lib.hid (HB9.out.trans ((hk10.below (B:=w0.heap.size) (by have:=HS5.out;have:=HS8.out.2.2;have:=HS9.out.2.2;omega) (fun q h=>(HC9.out.lt q h).1)).mono HS5.out.1))
    have i8:=own_on HI8.out hk10 (fun q hq hz=>by
     rcases HS9.out.1 q hz with h | h
     ·exact HS8.out.2.1 q hq h
     ·have:=(World.ownsRow.lt HO8.out q hq).2;omega)
    have i9:=own_on HO9.out hk10 HS9.out.2.1
    obtain⟨x8,y8,e8,s8⟩:=i8.sl
    obtain⟨rfl,-,rfl⟩:=Value.slice.inj e8
    obtain⟨x9,y9,e9,s9⟩:=i9.sl
    obtain⟨rfl,-,rfl⟩:=Value.slice.inj e9
    obtain⟨cb10,hcod⟩:=hc10.cod
    have hSy:=symbols_calls y w10 hcod HM.out.1.2.1 HOK.out.1
    unfold SymPost at hSy
    rw[HSY.out]at hSy
    have HSYC:=Lib.hid hSy
    have HL:=Lib.hid (And.intro s8 (And.intro s9 hsl10))
    clear i8 i9 e8 e9 s8 s9 hsl10 ho10 hc10 hk10 hcod hSy
    go_wp2_with (fail)
    go_at_call 23
    refine HSYC.out.mono ?_
    rintro E w11 ⟨⟨v11,rfl,ho11⟩,hb11⟩
    obtain⟨a11,k11,rfl,hsl11⟩:=ho11.sl
    have HB11:Hid (Below w.heap.size w w11):=Lib.hid (HB10.out.trans (hb11.mono HB10.out.size))
    have HBA:=Lib.hid hb11
    have HSL11:=Lib.hid hsl11
    clear ho11 hsl11 hb11
    go_wp2_with (fail)
    refine(fixed16_calls _ (HU.out.below HB11.out)).mono ?_
    rintro e w12 ⟨rfl,hb12⟩
    have HBB:Hid (Below w10.heap.size w10 w12):=Lib.hid (HBA.out.trans (hb12.mono HBA.out.size))
    have HB12:Hid (Below w.heap.size w w12):=Lib.hid (HB11.out.trans (hb12.mono HB11.out.size))
    have HSL12:Hid (SlI w12 a11 1 k11 [256+(n:Int)]):=Lib.hid (HSL11.out.below hb12)
    have HX12:Hid (SlI w12 a9 X.length k9 X):=Lib.hid (HL.out.2.1.below HBB.out)
    have hR3:=HR3.out
    clear hb12
    go_wp2_with (first
     | (at_builtin;refine wpList_unguard (by rfl) ?_;refine wpList_int_app rfl _ _ 43 rfl (base:=w12.heap.size) i0 Tryz.underlying43 hi0 hz0 hz1 hz2 rfl (own_made0 w12) rfl (HX12.out.alloc _) (by simp;omega) (by simp) ?_;intro v1 y1 ho1 hg1 hb1;have HQ1:=Lib.hid ho1;have HBY1:=Lib.hid ((below_alloc w12 _).trans hb1);clear ho1 hg1 hb1)
     | (at_builtin;refine wpList_unguard (by rfl) ?_;refine wpList_int_app rfl _ _ 43 rfl (base:=w12.heap.size) i0 Tryz.underlying43 hi0 hz0 hz1 hz2 rfl (HQ1.out.alloc _) rfl (SlI.one y1 _ _) (by simp;omega) (by have:=HBY1.out.size;simp;omega) ?_;intro v2 y2 ho2 hg2 hb2;have HQ2:=Lib.hid ho2;have HBY2:=Lib.hid ((HBY1.out.alloc HBY1.out.size _).trans hb2);clear ho2 hg2 hb2))
    have ho2:=HQ2.out
    rw[List.nil_append]at ho2
    obtain⟨a2',k2',rfl,hs2⟩:=ho2.sl
    have hl3:(X++ [y]).length=X.length+1:=by simp
    rw[hl3]at hs2 ⊢
    have HBC:Hid (Below w10.heap.size w10 y2):=Lib.hid (HBB.out.trans (HBY2.out.mono HBB.out.size))
    have hJ2:=Lib.hid (rjoin_calls y2 hs2 (HL.out.2.2.below HBC.out) (by omega) (by omega))
    clear hs2 ho2 hl3
    go_at_call 22
    refine hJ2.out.mono ?_
    rintro E w15 ⟨⟨vo15,vc15,rfl,ho15⟩,hb15⟩
    obtain⟨x15,y15,e15,s15⟩:=ho15.sl
    obtain⟨rfl,e15',rfl⟩:=Value.slice.inj e15
    rw[←e15']at s15
    have HBD:Hid (Below w12.heap.size w12 w15):=Lib.hid (HBY2.out.trans (hb15.mono HBY2.out.size))
    have HS15:=Lib.hid s15
    clear hb15 s15 ho15 e15 e15'
    go_wp2_with (fail)
    refine(same10 w15 (HL.out.1.below (HBB.out.trans (HBD.out.mono HBB.out.size))) HS15.out).mono ?_
    rintro E w16 ⟨q16,rfl,rfl⟩
    rw[eqB_true (by rw[HTX2.out,List.append_assoc];rfl)]
    have HB15:Hid (Below w.heap.size w (w15.drewN q16)):=Lib.hid (below_drewN (HB12.out.trans (HBD.out.mono HB12.out.size)) q16)
    have HS16:Hid (SlI (w15.drewN q16) a11 1 k11 [256+(n:Int)]):=Lib.hid ((HSL12.out.below HBD.out).drewN q16)
    go_wp2_with (fail)
    refine(same10 _ (HS16.out.alloc _) (SlI.one (w15.drewN q16) _ _)).mono ?_
    rintro E w17 ⟨q17,rfl,rfl⟩
    rw[eqB_true rfl]
    go_wp2_with (fail)
    go_ret
    exact⟨rfl,below_drewN (HB15.out.alloc HB15.out.size _) q17⟩
end Go.Proofs.YtimkkkdabmhedaaGreatDoor
