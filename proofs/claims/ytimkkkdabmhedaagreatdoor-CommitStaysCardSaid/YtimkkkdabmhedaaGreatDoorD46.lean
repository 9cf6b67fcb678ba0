/- Walk: CommitStays. (Printed by gStays.py.) -/
import Derived.Test.YtimkkkdabmhedaaGreatDoorD38
import Derived.Test.YtimkkkdabmhedaaGreatDoorD41
set_option linter.unusedVariables false
set_option maxHeartbeats 4000000
set_option maxRecDepth 100000
namespace Go.Proofs.YtimkkkdabmhedaaGreatDoor
open Go.RowKit
theorem commitStays_walk {V:Vc} {dd:Vd} {N:List ByteArray} {kind:Int} {T:List Rg} {room:Int} {no to_:Option Addr} {nn nc tn tc:Nat} {so:Option Addr} {sl sc:Nat} {SL:List Int} {uo:Option Addr} {ul uc:Nat} {UL:List Int} (w:World) (hV:VocR w dd V) (hok:(∀s∈V.tokens,s.size≤maxLen)∧Sized V.specials) (hN:SlS w no nn nc N) (hNs:∀s∈N,s.size≤maxLen)
  (hT:SlF 3 w to_ tn tc (flat Rg.enc T)) (hs:SlI w so sl sc SL) (hu:SlI w uo ul uc UL) (hU:Usu w):
  Frame.Law Tryz.prog 10 #[.agg #[.slice dd.ta dd.tn dd.tc, .slice dd.ma dd.mn dd.mc, .slice dd.sa dd.sn dd.sc, .slice no nn nc, .int .i64 kind, .slice to_ tn tc, .int .i64 room], .slice so sl sc, .slice uo ul uc] w:=by
 unfold Frame.Law
 obtain⟨ta,tn',tc',ma,mn,mc,sa,sn,sc'⟩:=dd
 obtain⟨w0,hw0⟩:∃w0,w.alloc (.cells #[.slice ta tn' tc', .slice ma mn mc, .slice sa sn sc', .slice no nn nc, .int .i64 kind, .slice to_ tn tc, .int .i64 room] 29)=w0:=⟨_,rfl⟩
 have hb0:Below w.heap.size w w0:=hw0▸below_alloc w _
 have hx0:w0.heap[w.heap.size]?=some (.cells #[.slice ta tn' tc', .slice ma mn mc, .slice sa sn sc', .slice no nn nc, .int .i64 kind, .slice to_ tn tc, .int .i64 room] 29):=by rw[←hw0];exact heap_alloc_new w _
 have hmade:=made2_calls (dd:=⟨ta,tn',tc',ma,mn,mc,sa,sn,sc'⟩) (kind:=kind) (room:=room) w0 (hV.below hb0) hok (Sl.below hN hb0) hNs (hT.below hb0) (hU.below hb0)
 have Hs:=Lib.hid hs
 have hmxs:=Nat.le_trans (Sl.le hs) (Sl.max hs)
 have hlns:=hs.len
 unfold maxLen at hmxs
 have Hu:=Lib.hid hu
 have hmxu:=Nat.le_trans (Sl.le hu) (Sl.max hu)
 have hlnu:=hu.len
 unfold maxLen at hmxu
 have HU:=Lib.hid hU
 have HB0:=Lib.hid hb0
 have HW0:=Lib.hid hw0
 obtain⟨c0,c1,c2,c3,c4,c5,c6⟩:=box7 hx0
 rw[←HW0.out]at c0 c1 c2 c3 c4 c5 c6
 clear hV hok hN hNs hT hU hb0 hw0 hx0 hs hu
 go_enter Tryz.func10,Tryz.ntmps10
 go_wp2_with (fail)
 rw[HW0.out]
 clear c0 c1 c2 c3 c4 c5 c6
 refine hmade.mono ?_
 rintro e w1 ⟨hpost,hb1⟩
 have hZ01:Hid (w0.heap.size≤w1.heap.size):=Lib.hid hb1.size
 have HB01:=Lib.hid hb1
 have HB1:Hid (Below w.heap.size w w1):=Lib.hid (HB0.out.trans (hb1.mono HB0.out.size))
 clear hb1 hmade
 rcases hpost with⟨rfl,-⟩ | ⟨hM,hOK,hG,g,cb,mb,to2,tn2,tc2,rfl,hTC,hCR⟩
 ·unfold noC
  have hb2:=HB1.out.alloc HB1.out.size (.cells #[.slice none 0 0, .slice none 0 0, .slice none 0 0, .slice none 0 0, .int .i64 0, .slice none 0 0] 37)
  have HB2:=Lib.hid hb2
  clear hb2
  go_wp2_with (fail)
  refine(fixed20_calls _ (HU.out.below HB2.out)).mono ?_
  rintro e w3 ⟨rfl,hb3⟩
  have HB3:=Lib.hid (HB2.out.trans (hb3.mono HB2.out.size))
  clear hb3
  go_wp2_with (fail)
  go_ret
  exact⟨rfl,HB3.out⟩
 obtain⟨w2,hw2⟩:∃w2,w1.alloc (.cells #[.slice ta tn' tc', .slice ma mn mc, .slice sa sn sc', .slice no nn nc, .int .i64 kind, .slice to2 tn2 tc2] 37)=w2:=⟨_,rfl⟩
 have hb2:Below w1.heap.size w1 w2:=hw2▸below_alloc w1 _
 have hx2:w2.heap[w1.heap.size]?=some (.cells #[.slice ta tn' tc', .slice ma mn mc, .slice sa sn sc', .slice no nn nc, .int .i64 kind, .slice to2 tn2 tc2] 37):=by rw[←hw2];exact heap_alloc_new w1 _
 have hz2:w1.heap.size<w2.heap.size:=by rw[←hw2];simp
 have HB2:Hid (Below w.heap.size w w2):=Lib.hid (HB1.out.trans (hb2.mono HB1.out.size))
 have hK1:=Cdr.new hTC hOK.2.2.2.2.1
 have HK1:=Lib.hid (hK1.below hb2)
 have HCR:=Lib.hid (hCR.below hb2)
 have HM:=Lib.hid hM
 have HOK:=Lib.hid hOK
 have HX2:=Lib.hid hx2
 have HZ2:=Lib.hid hz2
 have HW2:=Lib.hid hw2
 have HN1:Hid (N.length≤16∧0≤kind∧kind≤3∧MayTab (tabOf T)∧0≤room∧room≤1048576):=Lib.hid ⟨hOK.1.1,hOK.2.1,hOK.2.2.1,mayTab_of hOK.2.2.2.1,hOK.2.2.2.2.1,hOK.2.2.2.2.2⟩
 clear hb2 hx2 hz2 hw2 hTC hCR hM hOK hG hK1
 unfold cVal
 by_cases hls:60<sl
 ·have hl1:(60:Int)<(sl:Int):=by omega
  go_wp2_with (fail)
  rw[HW2.out]
  refine(fixed20_calls _ (HU.out.below HB2.out)).mono ?_
  rintro e w3 ⟨rfl,hb3⟩
  have HB3:=Lib.hid (HB2.out.trans (hb3.mono HB2.out.size))
  clear hb3
  go_wp2_with (fail)
  go_ret
  exact⟨rfl,HB3.out⟩
 have hls1:¬(60:Int)<(sl:Int):=by omega
 by_cases hlu:60<ul
 ·have hl1:(60:Int)<(ul:Int):=by omega
  go_wp2_with (fail)
  rw[HW2.out]
  refine(fixed20_calls _ (HU.out.below HB2.out)).mono ?_
  rintro e w3 ⟨rfl,hb3⟩
  have HB3:=Lib.hid (HB2.out.trans (hb3.mono HB2.out.size))
  clear hb3
  go_wp2_with (fail)
  go_ret
  exact⟨rfl,HB3.out⟩
 have hlu1:¬(60:Int)<(ul:Int):=by omega
 have hc1:=rcheck_calls (dd:=⟨ta,tn',tc',ma,mn,mc,sa,sn,sc'⟩) (kind:=kind) (to_:=to2) (tn':=tn2) (tc':=tc2) w2 HCR.out (SlI.below Hs.out HB2.out) (by omega)
 obtain⟨x1,hx1⟩:∃x,checkF V N SL=x:=⟨_,rfl⟩
 obtain⟨x2,hx2⟩:∃x,checkF V N UL=x:=⟨_,rfl⟩
 rw[hx1]at hc1
 unfold cVal at hc1
 have HC1:=Lib.hid hc1
 have HE1:=Lib.hid hx1
 have HE2:=Lib.hid hx2
 clear hc1 hx1 hx2
 go_wp2_with (fail)
 rw[HW2.out]
 go_at_call 21
 refine HC1.out.mono ?_
 rintro e w3 ⟨rfl,hb3⟩
 have HB23:=Lib.hid hb3
 have HB3:Hid (Below w.heap.size w w3):=Lib.hid (HB2.out.trans (hb3.mono HB2.out.size))
 obtain⟨b0,b1,b2,b3,b4,b5,bf⟩:=box6 ((hb3.block _ HZ2.out).trans HX2.out)
 have hc2:=rcheck_calls (dd:=⟨ta,tn',tc',ma,mn,mc,sa,sn,sc'⟩) (kind:=kind) (to_:=to2) (tn':=tn2) (tc':=tc2) w3 (HCR.out.below hb3) (SlI.below Hu.out HB3.out) (by omega)
 rw[HE2.out]at hc2
 unfold cVal at hc2
 have HC2:=Lib.hid hc2
 clear hb3 hc2
 by_cases g1:x1=0
 rotate_left
 ·have g2:(x1 != 0)=true:=by simpa using g1
  clear g1
  go_wp2_with (fail)
  refine(fixed20_calls _ (HU.out.below HB3.out)).mono ?_
  rintro e w9 ⟨rfl,hb9⟩
  have HB9:=Lib.hid (HB3.out.trans (hb9.mono HB3.out.size))
  clear hb9
  go_wp2_with (fail)
  go_ret
  exact⟨rfl,HB9.out⟩
 subst g1
 go_wp2_with (fail)
 go_at_call 21
 refine HC2.out.mono ?_
 rintro e w4 ⟨rfl,hb4⟩
 have HB34:=Lib.hid hb4
 have HB4:Hid (Below w.heap.size w w4):=Lib.hid (HB3.out.trans (hb4.mono HB3.out.size))
 have HB24:Hid (Below w2.heap.size w2 w4):=Lib.hid (HB23.out.trans (hb4.mono HB23.out.size))
 clear hb4 b0 b1 b2 b3 b4 b5 bf
 by_cases g1:x2=0
 rotate_left
 ·have g2:(x2 != 0)=true:=by simpa using g1
  clear g1
  go_wp2_with (fail)
  refine(fixed20_calls _ (HU.out.below HB4.out)).mono ?_
  rintro e w9 ⟨rfl,hb9⟩
  have HB9:=Lib.hid (HB4.out.trans (hb9.mono HB4.out.size))
  clear hb9
  go_wp2_with (fail)
  go_ret
  exact⟨rfl,HB9.out⟩
 subst g1
 go_wp2_with (fail)
 obtain⟨w5,hw5⟩:∃w5,w4.alloc (.cells #[.pointer (some ⟨g,0,none⟩), .slice none 0 0, .int .i64 0, .int .i64 0, .bool false] 110)=w5:=⟨_,rfl⟩
 have hb5:Below w4.heap.size w4 w5:=hw5▸below_alloc w4 _
 have hx5:w5.heap[w4.heap.size]?=some (.cells #[.pointer (some ⟨g,0,none⟩), .slice none 0 0, .int .i64 0, .int .i64 0, .bool false] 110):=by rw[←hw5];exact heap_alloc_new w4 _
 have hz5:w4.heap.size<w5.heap.size:=by rw[←hw5];simp
 have hs01:w.heap.size≤w0.heap.size∧w0.heap.size≤w2.heap.size:=⟨HB0.out.size,by have:=hZ01.out;have:=HZ2.out;omega⟩
 have hs24:=HB24.out.size
 have hz2:=HZ2.out
 have hcd5:=(HK1.out.below HB24.out).below hb5
 have hp5:PtR w5 w4.heap.size g none [] 0 0 false:=⟨0,hx5,Sl.none⟩
 have hnp5:¬(w0.heap.size≤w4.heap.size∧w4.heap.size<w1.heap.size):=fun h=>by omega
 have hB5:=HB4.out.trans (hb5.mono HB4.out.size)
 obtain⟨q1,q2,q3,q4,q5,q6⟩:=HN1.out
 have hG:=pgrow_calls w5 hcd5 HM.out q1 q4 q2 q3 q6 hp5 hnp5 (SlI.below Hs.out hB5) (show 0+SL.length≤100000 by omega) (show(0:Int)+((0+SL.length:Nat):Int)<1000000 by omega) rfl HE1.out (by omega) (by omega)
 rw[List.nil_append]at hG
 have HG:=Lib.hid hG
 have HS5:Hid (w.heap.size≤w0.heap.size∧w0.heap.size≤w1.heap.size∧w1.heap.size≤w4.heap.size∧w4.heap.size<w5.heap.size):=Lib.hid ⟨hs01.1,hZ01.out,by omega,hz5⟩
 have HB5:=Lib.hid hB5
 have HW5:=Lib.hid hw5
 clear hw5 hb5 hx5 hz5 hs01 hs24 hz2 hcd5 hp5 hnp5 hB5 hG q1 q2 q3 q4 q5 q6
 go_at_call 26
 refine(pnew_calls g w4).mono ?_
 rintro E W6 ⟨rfl,rfl⟩
 rw[HW5.out]
 go_wp2_with (fail)
 go_at_call 27
 refine HG.out.mono ?_
 rintro E w6 ⟨v6,rfl,o6,P6,ho6,hc6,hp6,hs6,hf6,hv6,hk6⟩
 obtain⟨F1,hF1⟩:∃F,comT V N kind (tabOf T) SL false=F:=⟨_,rfl⟩
 rw[hF1]at ho6 hp6
 obtain⟨a6,k6,rfl,-⟩:=ho6.sl
 obtain⟨n1,hn1⟩:∃n,comN kind (tabOf T) SL false=n:=⟨_,rfl⟩
 obtain⟨D1,hD1⟩:∃n,comB kind (tabOf T) SL false=n:=⟨_,rfl⟩
 obtain⟨q1,q2,q3,q4,q5,q6⟩:=HN1.out
 have r1:=com_len q4 HE1.out (kind:=kind) (e:=false)
 have r2:=comN_le q4 HE1.out (kind:=kind) (e:=false)
 have r3:=comB_le q4 HE1.out (kind:=kind) (e:=false)
 rw[hF1]at r1
 rw[hn1]at hp6 hf6 r2
 rw[hD1]at hc6 r3
 have hck:checkF V N (SL++UL)=0:=by rw[checkF_cat HE1.out];exact HE2.out
 have hck1:checkF V N (SL.drop n1++UL)=0:=by rw[checkF_cat (checkF_take HE1.out n1).2];exact HE2.out
 have htx:=com_text (kind:=kind) q4 ⟨q2,q3⟩ UL HE1.out
 have htx2:=com_text (kind:=kind) q4 ⟨q2,q3⟩ [] hck1
 rw[hF1,hn1]at htx
 rw[List.append_nil,List.append_nil]at htx2
 rw[htx2]at htx
 have hb6:Below w0.heap.size w5 w6:=hk6.below (by have:=HS5.out;omega) (fun q hq=>hq.elim (fun h=>h.1) (fun h=>by have:=HS5.out;omega))
 have HB6:Hid (Below w.heap.size w w6):=Lib.hid (HB5.out.trans (hb6.mono (by have:=HS5.out;omega)))
 have HK6:=Lib.hid hk6
 have HO6:=Lib.hid ho6
 have HC6:=Lib.hid hc6
 have HP6:=Lib.hid hp6
 have HS6:=Lib.hid (And.intro hs6 (And.intro hf6 hv6))
 have HTX:=Lib.hid htx
 have HCK:=Lib.hid (And.intro hck hck1)
 have HJ:=Lib.hid (rjoin_calls w6 (SlI.below Hs.out HB6.out) (SlI.below Hu.out HB6.out) (by omega) (by omega))
 have HR:=Lib.hid (And.intro r1 (And.intro r2 (And.intro r3.1 r3.2)))
 clear hF1 hn1 hD1 r1 r2 r3 hck hck1 htx htx2 hb6 hk6 ho6 hc6 hp6 hs6 hf6 hv6 q1 q2 q3 q4 q5 q6
 go_wp2_with (fail)
 go_at_call 22
 refine HJ.out.mono ?_
 rintro E w7 ⟨⟨vo7,vc7,rfl,ho7⟩,hb7⟩
 obtain⟨ao7,cap7,e7,hs7⟩:=ho7.sl
 obtain⟨rfl,e7',rfl⟩:=Value.slice.inj e7
 rw[←e7']at hs7
 obtain⟨TX,hTX⟩:∃F,textF V N kind (tabOf T) (SL++UL)=F:=⟨_,rfl⟩
 obtain⟨D2,hD2⟩:∃F,byN (splitF kind (tabOf T) (SL++UL) true) (SL++UL)=F:=⟨_,rfl⟩
 have r2:=byN_le (split_ok (kind:=kind) (final:=true) HN1.out.2.2.2.1 HCK.out.1)
 have hEn:Calls Tryz.prog 17 #[.pointer (some ⟨g,0,none⟩), .slice vo7 (sl+ul) vc7] w7 (EncQ w7 w0.heap.size g V N kind (tabOf T) room (0+D1) P6 TX D2):=by
  obtain⟨q1,q2,q3,q4,q5,q6⟩:=HN1.out
  have hR:=HR.out
  rw[←hTX,←hD2]
  exact tencode_calls w7 (HC6.out.below hb7) HM.out q1 q4 q2 q3 q6 hs7 (fun ad e h0=>by
   have:=ho7.blk ad e (by rw[←e7'];exact h0)
   exact⟨this.2,fun hq=>by have:=(HC6.out.lt _ hq).2;omega⟩) (by omega) (by omega) HCK.out.1
 have HEN:=Lib.hid hEn
 have hTXe:TX=F1++(comT V N kind (tabOf T) (SL.drop n1++UL) false++textF V N kind (tabOf T) ((SL.drop n1++UL).drop (comN kind (tabOf T) (SL.drop n1++UL) false))):=by rw[←hTX];exact HTX.out
 have HTX2:=Lib.hid hTXe
 have hTXl:TX.length≤sl+ul:=by
  rw[←hTX,←comT_end]
  have:=com_len HN1.out.2.2.2.1 HCK.out.1 (kind:=kind) (e:=true)
  rw[List.length_append]at this
  omega
 have hF1l:F1.length≤TX.length:=by rw[hTXe,List.length_append];omega
 rw[hD2,List.length_append]at r2
 have HR2:=Lib.hid r2
 have HB7:=Lib.hid hb7
 clear hs7 hTX hD2 hEn hTXe r2 ho7 hb7 e7 e7'
 go_wp2_with (fail)
 go_at_call 17
 refine HEN.out.mono ?_
 rintro E w8 ⟨v8,P8,rfl,ho8,hc8,hs8,hv8,hk8⟩
 obtain⟨a8,k8,rfl,hsl8⟩:=ho8.sl
 have hi6:Own w8 w5.heap.size (.slice a6 F1.length k6) F1:=own_on (HO6.out.below HB7.out) hk8 HS6.out.2.2
 obtain⟨a6',k6',e6,hsl6⟩:=hi6.sl
 obtain⟨rfl,-,rfl⟩:=Value.slice.inj e6
 have hle8:=Sl.le hsl8
 have HO8:=Lib.hid ho8
 have HSL8:=Lib.hid hsl8
 have HI6:=Lib.hid hi6
 have HSL6:=Lib.hid hsl6
 have HC8:=Lib.hid hc8
 have HS8:=Lib.hid (And.intro hs8 hv8)
 have HK8:=Lib.hid hk8
 have g7:¬((TX.length:Int)<(F1.length:Int)):=by omega
 obtain⟨i0,hi0,hz0,hz1,hz2⟩:=info_parts infoInt3
 clear ho8 hsl8 hi6 e6 hsl6 hc8 hs8 hv8 hk8
 go_wp2_with (fail)
 have hR9:=HR.out
 have hR92:=HR2.out
 refine(same10 w8 HSL6.out (B:=TX.take F1.length) (HSL8.out.take hF1l)).mono ?_
 rintro E W8 ⟨qq,rfl,rfl⟩
 rw[eqB_true (by rw[HTX2.out,List.take_left])]
 have hbW:Below w8.heap.size w8 (w8.drewN qq):=below_drewN (Below.refl _ _) qq
 have hpn6:¬P6 w4.heap.size:=fun hq=>by
  rcases HS6.out.1 _ hq with h | h
  ·have:=HS5.out;omega
  ·have:=HS5.out;omega
 have h56:=HK6.out.size
 have h67:=HB7.out.size
 have h78:=HK8.out.size
 have hpn8:¬P8 w4.heap.size:=fun hq=>by
  rcases HS8.out.1 _ hq with h | h
  ·exact hpn6 h
  ·have:=HS5.out;omega
 have hp8:=((HP6.out.stay (w':=w7) (HB7.out.block _ HP6.out.lt) (fun ad e h0=>HB7.out.block _ (HP6.out.olt ad e h0))).stay (w':=w8) (HK8.out.block _ (by have:=HS5.out;omega) hpn6) (fun ad e h0=>HK8.out.block _ (Nat.lt_of_lt_of_le (HP6.out.olt ad e h0) h67) (HS6.out.2.1 ad e h0).2)).stay (w':=w8.drewN qq) rfl (fun _ _ _=>rfl)
 have hG:=by
  obtain⟨q1,q2,q3,q4,q5,q6⟩:=HN1.out
  exact pgrow_calls (w8.drewN qq) (HC8.out.below hbW) HM.out q1 q4 q2 q3 q6 hp8 hpn8 (B:=UL) (bo:=uo) (m:=ul) (d:=uc) ((SlI.below ((SlI.below (SlI.below Hu.out HB6.out) HB7.out).keep0 (fun ad e h0=>HK8.out.block _ ((SlI.below (SlI.below Hu.out HB6.out) HB7.out).blk ad e h0) (fun hq=>by have:=(HC6.out.lt _ hq).1;have:=Hu.out.blk ad e h0;have:=HS5.out;omega))) hbW)) (by rw[List.length_drop];omega) (by rw[List.length_drop];omega) (checkF_take HE1.out n1).2 HE2.out (by omega) (by omega)
 have HG:=Lib.hid hG
 have HPN:=Lib.hid (And.intro hpn6 (And.intro hpn8 (And.intro h56 (And.intro h67 h78))))
 clear hbW hpn6 h56 h67 h78 hpn8 hp8 hG
 go_wp2_with (fail)
 go_at_call 27
 refine HG.out.mono ?_
 rintro E w9 ⟨v9,rfl,o9,P9,ho9,hc9,hp9,hs9,hf9,hv9,hk9⟩
 have hR9:=HR.out
 have hR92:=HR2.out
 obtain⟨F2,hF2⟩:∃F,comT V N kind (tabOf T) (SL.drop n1++UL) false=F:=⟨_,rfl⟩
 obtain⟨n2,hn2⟩:∃n,comN kind (tabOf T) (SL.drop n1++UL) false=n:=⟨_,rfl⟩
 obtain⟨D3,hD3⟩:∃n,comB kind (tabOf T) (SL.drop n1++UL) false=n:=⟨_,rfl⟩
 rw[hF2]at ho9 hp9
 rw[hn2]at hp9 hf9
 rw[hD3]at hc9
 have r1:=com_len HN1.out.2.2.2.1 HCK.out.2 (kind:=kind) (e:=false)
 have r2:=comN_le HN1.out.2.2.2.1 HCK.out.2 (kind:=kind) (e:=false)
 have r3:=comB_le HN1.out.2.2.2.1 HCK.out.2 (kind:=kind) (e:=false)
 rw[hF2]at r1
 rw[hn2]at r2
 rw[hD3]at r3
 rw[List.length_append,List.length_drop]at r1 r2 r3
 obtain⟨a9,k9,rfl,-⟩:=ho9.sl
 have htx:=HTX2.out
 rw[hF2,hn2]at htx
 have hlR2:((SL.drop n1++UL).drop n2).length≤sl+ul:=by rw[List.length_drop,List.length_append,List.length_drop];omega
 have hpn9:¬P9 w4.heap.size:=fun hq=>by
  rcases hs9 _ hq with h | h
  ·exact HPN.out.2.1 h
  ·have h:w8.heap.size≤w4.heap.size:=h
   have:=HPN.out
   have:=HS5.out
   omega
 have hck2:=(checkF_take HCK.out.2 n2).2
 have hE:=by
  obtain⟨q1,q2,q3,q4,q5,q6⟩:=HN1.out
  exact pend_calls w9 hc9 HM.out q1 q4 q2 q3 q6 hp9 hpn9 (fun ad e h0=>⟨(hf9 ad e h0).2,fun h=>by
   have h1:w8.heap.size≤ad.block:=(hf9 ad e h0).1
   have:=HPN.out
   have:=HS5.out
   omega⟩) (by omega) (by omega) hck2 (by omega) (by omega)
 have HE:=Lib.hid hE
 have HO9:=Lib.hid ho9
 have HC9:=Lib.hid hc9
 have HS9:=Lib.hid (And.intro hs9 hv9)
 have HK9:=Lib.hid hk9
 have HTX3:=Lib.hid htx
 have HR3:=Lib.hid (And.intro r1 (And.intro hpn9 (And.intro hck2 hlR2)))
 clear ho9 hc9 hp9 hs9 hf9 hv9 hk9 hF2 hn2 hD3 r1 r2 r3 htx hpn9 hck2 hE hlR2 hR9 hR92
 go_wp2_with (fail)
 go_at_call 42
 refine HE.out.mono ?_
 rintro E w10 ⟨v10,rfl,o10,P10,ho10,hc10,-,hs10,-,-,hk10⟩
 rw[comT_end]at ho10
 obtain⟨F3,hF3⟩:∃F,textF V N kind (tabOf T) ((SL.drop n1++UL).drop n2)=F:=⟨_,rfl⟩
 have r1:=com_len HN1.out.2.2.2.1 HR3.out.2.2.1 (kind:=kind) (e:=true)
 rw[comT_end,hF3]at r1
 have htx:=HTX3.out
 rw[hF3]at ho10 htx
 obtain⟨a10,k10,rfl,hsl10⟩:=ho10.sl
 have h89:w8.heap.size≤w9.heap.size:=HK9.out.size
 have h9t:=hk10.size
 have hZ:w0.heap.size≤w5.heap.size:=by have:=HS5.out;omega
 have K9:Keeps (fun q=>P8 q∨q=w4.heap.size) w8 w9:=⟨HK9.out.os,HK9.out.tape,HK9.out.output,HK9.out.size,HK9.out.block⟩
 have hown:∀{base:Nat} {ao:Option Addr} {n k:Nat} {A:List Int},Own w8 base (.slice ao n k) A→w5.heap.size≤base→(∀q,(Value.slice ao n k).ownBlock=some q→¬P8 q)→Own w10 base (.slice ao n k) A:=fun h hb hp=>by
  have h1:=own_on h K9 (fun q hq hz=>by
   rcases hz with hz | hz
   ·exact hp q hq hz
   ·have:=(World.ownsRow.lt h q hq).1;have:=HS5.out;omega)
  refine own_on h1 hk10 (fun q hq hz=> ?_)
  have hl:=World.ownsRow.lt h q hq
  rcases hz with hz | hz
  ·rcases HS9.out.1 q hz with h5 | h5
   ·exact hp q hq h5
   ·have h5:w8.heap.size≤q:=h5
    omega
  ·have:=HS5.out;omega
 have i6:=hown HI6.out (Nat.le_refl _) (fun q hq hz=>by
  rcases HS8.out.1 q hz with h5 | h5
  ·exact HS6.out.2.2 q hq h5
  ·have:=(World.ownsRow.lt HO6.out q hq).2;have:=HPN.out;omega)
 have i8:=hown HO8.out (by have:=HPN.out;omega) HS8.out.2
 have i9:Own w10 w8.heap.size (.slice a9 F2.length k9) F2:=own_on HO9.out hk10 (fun q hq hz=>by
  rcases hz with hz | hz
  ·exact HS9.out.2 q hq hz
  ·have h5:w8.heap.size≤q:=(World.ownsRow.lt HO9.out q hq).1
   have:=HPN.out
   have:=HS5.out
   omega)
 have hb610:Below w0.heap.size w6 w10:=by
  have k1:Keeps (fun q=>w0.heap.size≤q) w6 w8:=(Keeps.of_below HB7.out).trans (HK8.out.mono (fun q _ h=>(HC6.out.lt q h).1))
  have k2:Keeps (fun q=>w0.heap.size≤q) w8 w9:=K9.mono (fun q _ h=>h.elim (fun h=>(HC8.out.lt q h).1) (fun h=>by have:=HS5.out;omega))
  have k3:Keeps (fun q=>w0.heap.size≤q) w9 w10:=hk10.mono (fun q _ h=>h.elim (fun h=>(HC9.out.lt q h).1) (fun h=>by have:=HS5.out;omega))
  exact((k1.trans k2).trans k3).below (by have:=HK6.out.size;omega) (fun q h=>h)
 have HB10:Hid (Below w.heap.size w w10):=Lib.hid (HB6.out.trans (hb610.mono (by have:=HS5.out;omega)))
 obtain⟨x6,y6,e6,s6⟩:=i6.sl
 obtain⟨rfl,-,rfl⟩:=Value.slice.inj e6
 obtain⟨x8,y8,e8,s8⟩:=i8.sl
 obtain⟨rfl,-,rfl⟩:=Value.slice.inj e8
 obtain⟨x9,y9,e9,s9⟩:=i9.sl
 obtain⟨rfl,-,rfl⟩:=Value.slice.inj e9
 have HL:=Lib.hid (And.intro s6 (And.intro s8 (And.intro s9 hsl10)))
 have HT:=Lib.hid htx
 have hR9:=HR.out
 have hR3:=HR3.out.1
 have HLN:Hid (F1.length≤1000∧F2.length≤1000∧F3.length≤1000):=Lib.hid (by
  have:=HR3.out.2.2.2
  refine⟨by omega,by omega,by omega⟩)
 clear i6 i8 i9 e6 e8 e9 s6 s8 s9 hsl10 ho10 hc10 hs10 hk10 hF3 r1 htx h89 h9t hZ K9 hown hb610 hR9 hR3
 go_wp2_with (fail)
 refine(fixed20_calls _ (HU.out.below HB10.out)).mono ?_
 rintro E w11 ⟨rfl,hb11⟩
 have HB11:=Lib.hid hb11
 have hJ:=rjoin_calls w11 (HL.out.1.below hb11) (HL.out.2.2.1.below hb11) (by have:=HLN.out;omega) (by have:=HLN.out;omega)
 have HJ1:=Lib.hid hJ
 clear hb11 hJ
 go_wp2_with (fail)
 go_at_call 22
 refine HJ1.out.mono ?_
 rintro E w12 ⟨⟨vo12,vc12,rfl,ho12⟩,hb12⟩
 obtain⟨x12,y12,e12,s12⟩:=ho12.sl
 obtain⟨rfl,e12',rfl⟩:=Value.slice.inj e12
 rw[←e12']at s12
 have HB12:=Lib.hid (HB11.out.trans (hb12.mono HB11.out.size))
 have hJ:=rjoin_calls w12 s12 (HL.out.2.2.2.below HB12.out) (by have:=HLN.out;omega) (by have:=HLN.out;omega)
 have HJ2:=Lib.hid hJ
 clear hb12 hJ s12 ho12 e12 e12'
 go_wp2_with (fail)
 go_at_call 22
 refine HJ2.out.mono ?_
 rintro E w13 ⟨⟨vo13,vc13,rfl,ho13⟩,hb13⟩
 obtain⟨x13,y13,e13,s13⟩:=ho13.sl
 obtain⟨rfl,e13',rfl⟩:=Value.slice.inj e13
 rw[←e13']at s13
 have HB13:=Lib.hid (HB12.out.trans (hb13.mono HB12.out.size))
 have HS13:=Lib.hid s13
 clear hb13 s13 ho13 e13 e13'
 go_wp2_with (fail)
 refine(same10 w13 HS13.out (HL.out.2.1.below HB13.out)).mono ?_
 rintro E w14 ⟨q14,rfl,rfl⟩
 rw[eqB_true (by rw[HT.out,List.append_assoc])]
 go_wp2_with (fail)
 go_ret
 exact⟨rfl,below_drewN (HB10.out.trans (HB13.out.mono HB10.out.size)) q14⟩
end Go.Proofs.YtimkkkdabmhedaaGreatDoor
