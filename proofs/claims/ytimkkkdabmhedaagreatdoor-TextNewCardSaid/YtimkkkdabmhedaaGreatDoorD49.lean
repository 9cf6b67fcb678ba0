/- Walk: TextNew. -/
import Derived.Test.YtimkkkdabmhedaaGreatDoorD37
set_option linter.unusedVariables false
set_option maxHeartbeats 2000000
set_option maxRecDepth 100000
namespace Go.Proofs.YtimkkkdabmhedaaGreatDoor
open Go.RowKit
theorem textNew_walk {V:Vc} {dd:Vd} {N:List ByteArray} {kind:Int} {T:List Rg} {room:Int} {no to_:Option Addr} {nn nc tn tc:Nat} (w:World) (hV:VocR w dd V) (hok:(∀s∈V.tokens,s.size≤maxLen)∧Sized V.specials) (hN:SlS w no nn nc N) (hNs:∀s∈N,s.size≤maxLen)
  (hT:SlF 3 w to_ tn tc (flat Rg.enc T)) (hU:Usu w):
  Frame.Law Tryz.prog 3 #[.agg #[.slice dd.ta dd.tn dd.tc, .slice dd.ma dd.mn dd.mc, .slice dd.sa dd.sn dd.sc, .slice no nn nc, .int .i64 kind, .slice to_ tn tc, .int .i64 room]] w:=by
 unfold Frame.Law
 obtain⟨ta,tn',tc',ma,mn,mc,sa,sn,sc'⟩:=dd
 obtain⟨w0,hw0⟩:∃w0,w.alloc (.cells #[.slice ta tn' tc', .slice ma mn mc, .slice sa sn sc', .slice no nn nc, .int .i64 kind, .slice to_ tn tc, .int .i64 room] 29)=w0:=⟨_,rfl⟩
 have hb0:Below w.heap.size w w0:=hw0▸below_alloc w _
 have hx0:w0.heap[w.heap.size]?=some (.cells #[.slice ta tn' tc', .slice ma mn mc, .slice sa sn sc', .slice no nn nc, .int .i64 kind, .slice to_ tn tc, .int .i64 room] 29):=by rw[←hw0];exact heap_alloc_new w _
 have hz0:w.heap.size<w0.heap.size:=by rw[←hw0];simp
 have hgr:=great16_calls (dd:=⟨ta,tn',tc',ma,mn,mc,sa,sn,sc'⟩) w0 (hV.below hb0) hok (Sl.below hN hb0) hNs (hT.below hb0)
 have HV:=Lib.hid hV
 have HN:=Lib.hid hN
 have HT:=Lib.hid hT
 have HU:=Lib.hid hU
 have HNS:=Lib.hid hNs
 have HOK:=Lib.hid hok
 have HB0:=Lib.hid hb0
 have HX0:=Lib.hid hx0
 have HZ0:=Lib.hid hz0
 have HW0:=Lib.hid hw0
 obtain⟨c0,c1,c2,c3,c4,c5,c6⟩:=box7 hx0
 rw[←HW0.out]at c0 c1 c2 c3 c4 c5 c6
 clear hV hok hN hNs hT hU hb0 hw0 hx0 hz0
 go_enter Tryz.func3,Tryz.ntmps3
 go_wp2_with (fail)
 rw[HW0.out]
 clear c0 c1 c2 c3 c4 c5 c6
 refine hgr.mono ?_
 rintro e w1 ⟨⟨b,rfl,hbg⟩,hb1⟩
 have HB1:Hid (Below w.heap.size w w1):=Lib.hid (HB0.out.trans (hb1.mono HB0.out.size))
 have HX1:Hid (w1.heap[w.heap.size]?=some (.cells #[.slice ta tn' tc', .slice ma mn mc, .slice sa sn sc', .slice no nn nc, .int .i64 kind, .slice to_ tn tc, .int .i64 room] 29)):=Lib.hid ((hb1.block _ HZ0.out).trans HX0.out)
 have HZ1:Hid (w.heap.size<w1.heap.size):=Lib.hid (Nat.lt_of_lt_of_le HZ0.out hb1.size)
 have HBG:=Lib.hid hbg
 clear hgr hbg hb1
 cases b with
 | true=>
  go_wp2_with (fail)
  refine(fixed16_calls w1 (HU.out.below HB1.out)).mono ?_
  rintro e w3 ⟨rfl,hb3⟩
  have HB3:=Lib.hid (HB1.out.trans (hb3.mono HB1.out.size))
  clear hb3
  go_wp2_with (fail)
  first | go_ret | refine bodyPost_ret (results_tmp rfl _ _ _) rfl ?_
  exact⟨rfl,HB3.out⟩
 | false=>
  have hng:¬GreatK V N T:=fun h=>by have:=HBG.out.2 h;cases this
  have hvok:VOk V:=⟨HOK.out.1,HOK.out.2,by
   rcases Nat.lt_or_ge 20 V.specials.length with h | h
   ·exact absurd (.inl (.inr (.inr (.inl h)))) hng
   ·omega⟩
  have hnl:nn≤20:=by
   have h1:=HN.out.count
   rcases Nat.lt_or_ge 20 N.length with h | h
   ·exact absurd (.inr (.inl h)) hng
   ·omega
  have htl:tn≤80:=by
   have h1:=HT.out.count Rg.enc_len (by omega)
   rcases Nat.lt_or_ge 80 T.length with h | h
   ·exact absurd (.inr (.inr (.inl h))) hng
   ·omega
  have HVOK:=Lib.hid hvok
  obtain⟨c0,c1,c2,c3,c4,c5,c6⟩:=box7 HX1.out
  have hnew:=textNew_calls (dd:=⟨ta,tn',tc',ma,mn,mc,sa,sn,sc'⟩) (kind:=kind) (room:=room) w1 (HV.out.below HB1.out) hvok (Sl.below HN.out HB1.out) HNS.out (by omega) (HT.out.below HB1.out) (by omega) (HU.out.below HB1.out)
  clear hng hvok hnl htl
  go_wp2_with (fail)
  refine hnew.mono ?_
  rintro e w2 ⟨hpost,hb2⟩
  have HB2:Hid (Below w.heap.size w w2):=Lib.hid (HB1.out.trans (hb2.mono HB1.out.size))
  have hx2:w2.heap[w.heap.size]?=_:=(hb2.block _ HZ1.out).trans HX1.out
  have hrn:=rnew16_calls (dd:=⟨ta,tn',tc',ma,mn,mc,sa,sn,sc'⟩) (kind:=kind) (room:=room) w2 (HV.out.below HB2.out) HVOK.out (Sl.below HN.out HB2.out) HNS.out (HT.out.below HB2.out)
  clear c0 c1 c2 c3 c4 c5 c6 hb2 hnew
  obtain⟨c0,c1,c2,c3,c4,c5,c6⟩:=box7 hx2
  clear hx2
  have HRN:=Lib.hid hrn
  clear hrn
  rcases hpost with⟨hno,rfl⟩ | ⟨hmy,hno,rfl⟩ | ⟨hmy,hyes,g,cb,mb,rfl,hcod⟩
  ·have HNO:=Lib.hid hno
   clear hno
   go_wp2_with (fail)
   refine HRN.out.mono ?_
   rintro e w3 ⟨hpost,hb3⟩
   have HB3:=Lib.hid (HB2.out.trans (hb3.mono HB2.out.size))
   clear hb3 c0 c1 c2 c3 c4 c5 c6
   rcases hpost with⟨_,rfl⟩ | ⟨h,_⟩ | ⟨h,_⟩
   rotate_left
   ·exact absurd h HNO.out
   ·exact absurd h HNO.out
   unfold noC
   have HB4:=Lib.hid (HB3.out.alloc HB3.out.size (.cells #[.slice none 0 0, .slice none 0 0, .slice none 0 0, .slice none 0 0, .int .i64 0, .slice none 0 0] 37))
   go_wp2_with (fail)
   refine(fixed16_calls _ (HU.out.below HB4.out)).mono ?_
   rintro e w5 ⟨rfl,hb5⟩
   have HB5:=Lib.hid (HB4.out.trans (hb5.mono HB4.out.size))
   clear hb5
   go_wp2_with (fail)
   go_ret
   exact⟨rfl,HB5.out⟩
  ·have HNO:=Lib.hid hno
   have HMY:=Lib.hid hmy
   clear hno hmy
   go_wp2_with (fail)
   refine HRN.out.mono ?_
   rintro e w3 ⟨hpost,hb3⟩
   have HB3:=Lib.hid (HB2.out.trans (hb3.mono HB2.out.size))
   clear hb3 c0 c1 c2 c3 c4 c5 c6
   rcases hpost with⟨h,_⟩ | ⟨_,_,rfl⟩ | ⟨_,h,_⟩
   ·exact absurd HMY.out h
   rotate_left
   ·exact absurd h HNO.out
   unfold noC
   have HB4:=Lib.hid (HB3.out.alloc HB3.out.size (.cells #[.slice none 0 0, .slice none 0 0, .slice none 0 0, .slice none 0 0, .int .i64 0, .slice none 0 0] 37))
   go_wp2_with (fail)
   refine(fixed16_calls _ (HU.out.below HB4.out)).mono ?_
   rintro e w5 ⟨rfl,hb5⟩
   have HB5:=Lib.hid (HB4.out.trans (hb5.mono HB4.out.size))
   clear hb5
   go_wp2_with (fail)
   go_ret
   exact⟨rfl,HB5.out⟩
  ·have HYES:=Lib.hid hyes
   have HMY:=Lib.hid hmy
   clear hyes hmy hcod
   go_wp2_with (fail)
   refine HRN.out.mono ?_
   rintro e w3 ⟨hpost,hb3⟩
   have HB3:=Lib.hid (HB2.out.trans (hb3.mono HB2.out.size))
   clear hb3 c0 c1 c2 c3 c4 c5 c6
   rcases hpost with⟨h,_⟩ | ⟨_,h,_⟩ | ⟨_,_,uo,un,uc,rfl,_⟩
   ·exact absurd HMY.out h
   ·exact absurd HYES.out h
   have HB4:=Lib.hid (HB3.out.alloc HB3.out.size (.cells #[.slice ta tn' tc', .slice ma mn mc, .slice sa sn sc', .slice no nn nc, .int .i64 kind, .slice uo un uc] 37))
   go_wp2_with (fail)
   refine(fixed16_calls _ (HU.out.below HB4.out)).mono ?_
   rintro e w5 ⟨rfl,hb5⟩
   have HB5:=Lib.hid (HB4.out.trans (hb5.mono HB4.out.size))
   clear hb5
   go_wp2_with (fail)
   go_ret
   exact⟨rfl,HB5.out⟩
end Go.Proofs.YtimkkkdabmhedaaGreatDoor
