/- Walk: the coder of a kit, and the document's. -/
import Derived.Test.YtimkkkdabmhedaaGreatDoorD18
import Derived.Test.YtimkkkdabmhedaaGreatDoorD2
import Derived.Test.YtimkkkdabmhedaaGreatDoorD9
import Derived.Test.YtimkkkdabmhedaaGreatDoorD3
import Derived.Deep.AppendLies
import Derived.BigRegion
import Derived.Test.YtimkkkdabmhedaaGreatDoorD15
import Derived.Deep.RegionHeld3
set_option linter.unusedVariables false
set_option maxHeartbeats 2000000
set_option maxRecDepth 100000
namespace Go.Proofs.YtimkkkdabmhedaaGreatDoor
open Go.RowKit
theorem box7 {w:World} {g:Nat} {a b c d e f x:Value} {t:TypeId} (h:w.heap[g]?=some (.cells #[a,b,c,d,e,f,x] t)):
  w.cell? ⟨g,0,none⟩=some a∧w.cell? ⟨g,1,none⟩=some b∧w.cell? ⟨g,2,none⟩=some c∧w.cell? ⟨g,3,none⟩=some d∧w.cell? ⟨g,4,none⟩=some e∧w.cell? ⟨g,5,none⟩=some f∧w.cell? ⟨g,6,none⟩=some x:=by
 simp[World.cell?,h]
def MadePost (V:Vc) (N:List ByteArray) (kind:Int) (T:List Rg) (room:Int) (w:World) (e:Ending) (w':World):Prop:=
 (e= .returned (.tuple #[.pointer none,noC, .bool false])∨
  (May V∧OkKit N kind T room∧¬GreatK V N T∧∃g cb dd no nn nc to_ tn tc,e= .returned (.tuple #[.pointer (some ⟨g,0,none⟩),cVal dd no nn nc kind to_ tn tc, .bool true])∧(∀w'',Below w'.heap.size w' w''→TCod w'' w.heap.size g V N kind (tabOf T) cb)∧CR w' dd no nn nc V N))∧Below w.heap.size w w'
theorem CodR.stay {w:World} {base g:Nat} {V:Vc} {N:List ByteArray} {kind:Int} {T:List Rg} {room:Int} {cb mb:Nat} {no:Option Addr} {l:List Row} {hits misses:Int} (h:CodR w base g V N kind T room cb mb no l hits misses):
  ∀w',Below w.heap.size w w'→TCod w' base g V N kind T cb:=by
 obtain⟨⟨S,h1,h2⟩,_⟩:=h
 exact fun w' hb=>h1 w' (fun q hq=>hb.block q (h2 q hq).1.2) hb.size
theorem below_set6 {w w4:World} {n k:Nat} (h:Below n w w4) (hn:n≤k) (a b c d e f:Value):
  Below n w ((((((w4.setCell ⟨k,0,none⟩ a).setCell ⟨k,1,none⟩ b).setCell ⟨k,2,none⟩ c).setCell ⟨k,3,none⟩ d).setCell ⟨k,4,none⟩ e).setCell ⟨k,5,none⟩ f).drew:=
 have h1:=h.setCell (p:=⟨k,0,none⟩) hn a
 have h2:=h1.setCell (p:=⟨k,1,none⟩) hn b
 have h3:=h2.setCell (p:=⟨k,2,none⟩) hn c
 have h4:=h3.setCell (p:=⟨k,3,none⟩) hn d
 have h5:=h4.setCell (p:=⟨k,4,none⟩) hn e
 have h6:=h5.setCell (p:=⟨k,5,none⟩) hn f
 h6.drew
theorem heap_set6 {w4:World} {k q:Nat} (hn:q≠k) (a b c d e f:Value):
  ((((((w4.setCell ⟨k,0,none⟩ a).setCell ⟨k,1,none⟩ b).setCell ⟨k,2,none⟩ c).setCell ⟨k,3,none⟩ d).setCell ⟨k,4,none⟩ e).setCell ⟨k,5,none⟩ f).drew.heap[q]?=w4.heap[q]? :=by
 have e0:∀X:World,X.drew.heap=X.heap:=fun _=>rfl
 rw[e0]
 exact(Below.heap_setCell _ _ _ _ hn).trans ((Below.heap_setCell _ _ _ _ hn).trans ((Below.heap_setCell _ _ _ _ hn).trans ((Below.heap_setCell _ _ _ _ hn).trans ((Below.heap_setCell _ _ _ _ hn).trans (Below.heap_setCell _ _ _ _ hn)))))
theorem TCod.mono {w:World} {base base' g:Nat} {V:Vc} {N:List ByteArray} {kind:Int} {T:List Rg} {cb:Nat} (h:TCod w base g V N kind T cb) (hb:base'≤base):TCod w base' g V N kind T cb:=by
 obtain⟨h1,ta,tc,sa,sc,na,nc,ma,mc,oa,oc,eg,hx,a1,a2,a3,a4,a5,a6⟩:=h
 exact⟨by omega,ta,tc,sa,sc,na,nc,ma,mc,oa,oc,eg,hx,a1.mono hb,a2.mono hb,a3.mono hb,a4.mono hb,a5.mono hb,a6.mono hb⟩
theorem CodR.hold {w w':World} {base base' g:Nat} {V:Vc} {N:List ByteArray} {kind:Int} {T:List Rg} {room:Int} {cb mb:Nat} {no:Option Addr} {l:List Row} {hits misses:Int} (h:CodR w base g V N kind T room cb mb no l hits misses)
  (hk:∀q,base≤q→q<w.heap.size→w'.heap[q]?=w.heap[q]?) (hs:w.heap.size≤w'.heap.size) (hb:base'≤base):
  ∀w'',Below w'.heap.size w' w''→TCod w'' base' g V N kind T cb:=by
 obtain⟨⟨S,h1,h2⟩,_⟩:=h
 exact fun w'' hb'=>(h1 w'' (fun q hq=>(hb'.block q (Nat.lt_of_lt_of_le (h2 q hq).1.2 hs)).trans (hk q (h2 q hq).1.1 (h2 q hq).1.2)) (Nat.le_trans hs hb'.size)).mono hb
theorem made_calls {V:Vc} {dd:Vd} {N:List ByteArray} {kind:Int} {T:List Rg} {room:Int} {no to_:Option Addr} {nn nc tn tc:Nat} (w:World) (hV:VocR w dd V) (hok:(∀s∈V.tokens,s.size≤maxLen)∧Sized V.specials) (hN:SlS w no nn nc N) (hNs:∀s∈N,s.size≤maxLen)
  (hT:SlF 3 w to_ tn tc (flat Rg.enc T)) (hU:Usu w):
  Calls Tryz.prog 16 #[.agg #[.slice dd.ta dd.tn dd.tc, .slice dd.ma dd.mn dd.mc, .slice dd.sa dd.sn dd.sc, .slice no nn nc, .int .i64 kind, .slice to_ tn tc, .int .i64 room]] w (MadePost V N kind T room w):=by
 obtain⟨ta,tn',tc',ma,mn,mc,sa,sn,sc⟩:=dd
 obtain⟨w0,hw0⟩:∃w0,(w.alloc (.cells #[.slice ta tn' tc', .slice ma mn mc, .slice sa sn sc, .slice no nn nc, .int .i64 kind, .slice to_ tn tc, .int .i64 room] 29)).alloc (.cells #[.slice none 0 0, .slice none 0 0, .slice none 0 0, .slice none 0 0, .int .i64 0, .slice none 0 0] 37)=w0:=⟨_,rfl⟩
 have hb0:Below w.heap.size w w0:=hw0▸(below_alloc w _).alloc (by simp) _
 have hx0:w0.heap[w.heap.size]?=some (.cells #[.slice ta tn' tc', .slice ma mn mc, .slice sa sn sc, .slice no nn nc, .int .i64 kind, .slice to_ tn tc, .int .i64 room] 29):=by rw[←hw0];exact(Below.heap_alloc _ _ _ (by simp)).trans (heap_alloc_new w _)
 have hx1:w0.heap[w.heap.size+1]?=some (.cells #[.slice none 0 0, .slice none 0 0, .slice none 0 0, .slice none 0 0, .int .i64 0, .slice none 0 0] 37):=by
  rw[←hw0]
  have:=heap_alloc_new (w.alloc (.cells #[.slice ta tn' tc', .slice ma mn mc, .slice sa sn sc, .slice no nn nc, .int .i64 kind, .slice to_ tn tc, .int .i64 room] 29)) (.cells #[.slice none 0 0, .slice none 0 0, .slice none 0 0, .slice none 0 0, .int .i64 0, .slice none 0 0] 37)
  simpa using this
 have HSZ1:Hid (w.heap.size<w0.heap.size):=Lib.hid (by rw[←hw0];simp;omega)
 have HSZ2:Hid (w.heap.size+1<w0.heap.size):=Lib.hid (by rw[←hw0];simp)
 have hgr:=great16_calls (dd:=⟨ta,tn',tc',ma,mn,mc,sa,sn,sc⟩) w0 (hV.below hb0) hok (Sl.below hN hb0) hNs (hT.below hb0)
 have HBC:Hid (w.heap.size≤w.heap.size+1):=Lib.hid (by omega)
 have HV:=Lib.hid hV
 have HN:=Lib.hid hN
 have HT:=Lib.hid hT
 have HU:=Lib.hid hU
 have HB0:=Lib.hid hb0
 have HX0:=Lib.hid hx0
 have HX1:=Lib.hid hx1
 have HNS:=Lib.hid hNs
 have HOK:=Lib.hid hok
 have HW0:=Lib.hid hw0
 obtain⟨c0,c1,c2,c3,c4,c5,c6⟩:=box7 hx0
 rw[←HW0.out]at c0 c1 c2 c3 c4 c5 c6
 clear hV hN hT hNs hU hb0 hx0 hx1 hw0 hok
 go_enter Tryz.func16,Tryz.ntmps16
 go_wp2_with (fail)
 rw[HW0.out]
 clear c0 c1 c2 c3 c4 c5 c6
 refine hgr.mono ?_
 rintro e w1 ⟨⟨b,rfl,hbg⟩,hb1⟩
 have HB1:=Lib.hid hb1
 have HBG:=Lib.hid hbg
 clear hgr hbg hb1
 obtain⟨c0,c1,c2,c3,c4,c5,c6⟩:=box7 ((HB1.out.block w.heap.size HSZ1.out).trans HX0.out)
 obtain⟨b0,b1,b2,b3,b4,b5,bf⟩:=box6 ((HB1.out.block (w.heap.size+1) HSZ2.out).trans HX1.out)
 cases b with
 | true=>
  go_wp2_with (fail)
  refine bodyPost_ret (v:= .tuple #[.pointer none,noC, .bool false]) ?_ rfl ⟨.inl rfl,?_⟩
  ·simp[results,Tryz.results16,go_sem,noC,b0,b1,b2,b3,b4,b5]
  ·exact(((((((HB0.out.trans (HB1.out.mono HB0.out.size))).setCell HBC.out _).setCell HBC.out _).setCell HBC.out _).setCell HBC.out _).setCell HBC.out _).setCell HBC.out _
 | false=>
 have hng:¬GreatK V N T:=fun h=>by have:=HBG.out.2 h;cases this
 have hvok:VOk V:=⟨HOK.out.1,HOK.out.2,by
  rcases Nat.lt_or_ge 20 V.specials.length with h | h
  ·exact absurd (.inl (.inr (.inr (.inl h)))) hng
  ·omega⟩
 have HNG:=Lib.hid hng
 have HVOK:=Lib.hid hvok
 have HBW1:Hid (Below w.heap.size w w1):=Lib.hid (HB0.out.trans (HB1.out.mono HB0.out.size))
 have hrn:=rnew16_calls (dd:=⟨ta,tn',tc',ma,mn,mc,sa,sn,sc⟩) (kind:=kind) (room:=room) w1 (HV.out.below HBW1.out) hvok (Sl.below HN.out HBW1.out) HNS.out (HT.out.below HBW1.out)
 clear hng hvok
 go_wp2_with (fail)
 refine hrn.mono ?_
 rintro e w2 ⟨hpost,hb2⟩
 have HBW2:Hid (Below w.heap.size w w2):=Lib.hid (HBW1.out.trans (hb2.mono HBW1.out.size))
 have HSZ3:Hid (w.heap.size+1<w2.heap.size):=Lib.hid (by have:=hb2.size;have:=HB1.out.size;have:=HSZ2.out;omega)
 have HX02:Hid (w2.heap[w.heap.size]?=some (.cells #[.slice ta tn' tc', .slice ma mn mc, .slice sa sn sc, .slice no nn nc, .int .i64 kind, .slice to_ tn tc, .int .i64 room] 29)):=Lib.hid ((hb2.block w.heap.size (by have:=HB1.out.size;have:=HSZ1.out;omega)).trans ((HB1.out.block w.heap.size HSZ1.out).trans HX0.out))
 have HX12:Hid (w2.heap[w.heap.size+1]?=some (.cells #[.slice none 0 0, .slice none 0 0, .slice none 0 0, .slice none 0 0, .int .i64 0, .slice none 0 0] 37)):=Lib.hid ((hb2.block (w.heap.size+1) (by have:=HB1.out.size;have:=HSZ2.out;omega)).trans ((HB1.out.block (w.heap.size+1) HSZ2.out).trans HX1.out))
 clear hb2 hrn c0 c1 c2 c3 c4 c5 c6 b0 b1 b2 b3 b4 b5 bf
 rcases hpost with⟨_,rfl⟩ | ⟨_,_,rfl⟩ | ⟨hM,hOK,uo,un,uc,rfl,hU2⟩
 iterate 2 (
  ·obtain⟨b0,b1,b2,b3,b4,b5,bf⟩:=box6 ((Below.heap_alloc _ _ _ HSZ3.out:(w2.alloc (.cells #[.slice none 0 0, .slice none 0 0, .slice none 0 0, .slice none 0 0, .int .i64 0, .slice none 0 0] 37)).heap[w.heap.size+1]?=_).trans HX12.out)
   unfold noC
   go_wp2_with (fail)
   refine bodyPost_ret (v:= .tuple #[.pointer none,noC, .bool false]) ?_ rfl ⟨.inl rfl,?_⟩
   ·simp[results,Tryz.results16,go_sem,noC,b0,b1,b2,b3,b4,b5]
   ·exact((((((HBW2.out.alloc HBW2.out.size _).setCell HBC.out _).setCell HBC.out _).setCell HBC.out _).setCell HBC.out _).setCell HBC.out _).setCell HBC.out _)
 obtain⟨w3,hw3⟩:∃w3,w2.alloc (.cells #[.slice ta tn' tc', .slice ma mn mc, .slice sa sn sc, .slice no nn nc, .int .i64 kind, .slice uo un uc] 37)=w3:=⟨_,rfl⟩
 have hb3:Below w2.heap.size w2 w3:=hw3▸below_alloc w2 _
 have HBW3:Hid (Below w.heap.size w w3):=Lib.hid (HBW2.out.trans (hb3.mono HBW2.out.size))
 have HX3:Hid (w3.heap[w2.heap.size]?=some (.cells #[.slice ta tn' tc', .slice ma mn mc, .slice sa sn sc, .slice no nn nc, .int .i64 kind, .slice uo un uc] 37)):=Lib.hid (by rw[←hw3];exact heap_alloc_new w2 _)
 have HX03:=Lib.hid ((hb3.block w.heap.size (by have:=HSZ3.out;omega)).trans HX02.out)
 have HX13:=Lib.hid ((hb3.block (w.heap.size+1) HSZ3.out).trans HX12.out)
 have HSZ4:Hid (w2.heap.size<w3.heap.size):=Lib.hid (by rw[←hw3];simp)
 have hnn:nn≤1048576:=by
  have:=HN.out.count
  rcases Nat.lt_or_ge 20 N.length with h | h
  ·exact absurd (.inr (.inl h)) HNG.out
  ·omega
 have htn:tn≤1048576:=by
  have:=HT.out.count Rg.enc_len (by omega)
  rcases Nat.lt_or_ge 80 T.length with h | h
  ·exact absurd (.inr (.inr (.inl h))) HNG.out
  ·omega
 have htx:=textNew_calls (dd:=⟨ta,tn',tc',ma,mn,mc,sa,sn,sc⟩) (kind:=kind) (room:=room) w3 (HV.out.below HBW3.out) HVOK.out (Sl.below HN.out HBW3.out) HNS.out hnn (HT.out.below HBW3.out) htn (HU.out.below HBW3.out)
 have HM:=Lib.hid hM
 have HOK2:=Lib.hid hOK
 have HU3:=Lib.hid (hU2.below hb3)
 have HW3:=Lib.hid hw3
 obtain⟨c0,c1,c2,c3,c4,c5,c6⟩:=box7 HX03.out
 rw[←HW3.out]at c0 c1 c2 c3 c4 c5 c6
 clear hb3 hw3 hM hOK hU2 hnn htn
 go_wp2_with (fail)
 rw[HW3.out]
 refine htx.mono ?_
 rintro e w4 ⟨hpost,hb4⟩
 rcases hpost with⟨h,_⟩ | ⟨_,h,_⟩ | ⟨_,_,g,cb,mb,rfl,hcod⟩
 ·exact absurd HM.out h
 ·exact absurd HOK2.out h
 have HB4:=Lib.hid hb4
 have HCOD:=Lib.hid hcod
 have hx4:=(HB4.out.block w2.heap.size HSZ4.out).trans HX3.out
 have hx14:=(HB4.out.block (w.heap.size+1) (by have:=HSZ3.out;have:=HSZ4.out;omega)).trans HX13.out
 have HX14:=Lib.hid hx14
 obtain⟨d0,d1,d2,d3,d4,d5,df⟩:=box6 hx4
 obtain⟨b0,b1,b2,b3,b4,b5,bf⟩:=box6 hx14
 clear hx4 hx14 hb4 hcod htx c0 c1 c2 c3 c4 c5 c6
 go_wp2_with (fail)
 go_region
 all_goals(
  go_wp2_with (fail)
  refine bodyPost_ret (v:= .tuple #[.pointer (some ⟨g,0,none⟩),cVal ⟨ta,tn',tc',ma,mn,mc,sa,sn,sc⟩ no nn nc kind uo un uc, .bool true]) ?_ rfl ⟨.inr ⟨HM.out,HOK2.out,HNG.out,g,cb,⟨ta,tn',tc',ma,mn,mc,sa,sn,sc⟩,no,nn,nc,uo,un,uc,rfl,?_,?_⟩,?_⟩
  ·simp[results,Tryz.results16,go_sem,cVal,b0,b1,b2,b3,b4,b5]
  ·refine CodR.hold HCOD.out (fun q h1 h2=> ?_) (by simp) HBW3.out.size
   have hne:q≠w.heap.size+1:=by have:=HSZ3.out;have:=HSZ4.out;omega
   exact heap_set6 hne _ _ _ _ _ _
  ·have hbf:=below_set6 (HBW3.out.trans (HB4.out.mono HBW3.out.size)) HBC.out (.slice ta tn' tc') (.slice ma mn mc) (.slice sa sn sc) (.slice no nn nc) (.int .i64 kind) (.slice uo un uc)
   exact⟨HV.out.below hbf,Sl.below HN.out hbf,HM.out.1.2.1,by have:=HN.out.count;have:=HOK2.out.1.1;omega,HVOK.out.2.2,by have:=HM.out.1.1;omega⟩
  ·exact below_set6 (HBW3.out.trans (HB4.out.mono HBW3.out.size)) HBC.out _ _ _ _ _ _)
theorem CSt.among {w w':World} {base top cb mb m cap sz:Nat} {no:Option Addr} {N:Nat→Nd} {e y room hits misses:Int} {ord:List Nat} {f:ByteArray→Option Int} {R:Nat→List Int}
  (h:CSt w base top cb mb no m cap N e y room hits misses ord sz f R) (h1:∀k,Ft cb mb no k→w'.heap[k]?=w.heap[k]?) (h2:∀i,i<m→∀ad,(N i).ro=some ad→w'.heap[ad.block]?=w.heap[ad.block]?):
  CSt w' base top cb mb no m cap N e y room hits misses ord sz f R:=by
 refine⟨h.fl.stay (h1 cb (.inl rfl)),?_,h.mp.stay (h1 mb (.inr (.inl rfl))),h.ch,h.lt,h.cm,h.bc,h.bm,fun i hi=> ?_,h.keys⟩
 ·rcases h.nd with h' | ⟨nb,e1,e2,e3,e4,e5,e6⟩
  ·exact .inl h'
  ·exact .inr ⟨nb,e1,e2.stay (h1 nb (.inr (.inr e1))),e3,e4,e5,e6⟩
 ·obtain⟨a1,a2⟩:=h.rows i hi
  exact⟨a1.keep fun ad e=>h2 i hi ad e,a2⟩
theorem CRep.hi {w w':World} {base top cb mb:Nat} {no:Option Addr} {l:List Row} {room hits misses:Int} (h:CRep w base top cb mb no l room hits misses) (hk:∀q,base≤q→q<top→w'.heap[q]?=w.heap[q]?):CRep w' base top cb mb no l room hits misses:=by
 have hft:=h.ft
 obtain⟨m,cap,N,e,y,ord,sz,f,R,hc,hg,hl⟩:=h
 refine⟨m,cap,N,e,y,ord,sz,f,R,hc.among (fun k hf=>hk k (hft k hf).1 (hft k hf).2) (fun i hi ad e=> ?_),hg,hl⟩
 obtain⟨a,b,_⟩:=(hc.rows i hi).2 ad e
 exact hk _ a b
theorem CodR.hi {w w':World} {base base' g:Nat} {V:Vc} {N:List ByteArray} {kind:Int} {T:List Rg} {room:Int} {cb mb:Nat} {no:Option Addr} {l:List Row} {hits misses:Int} (h:CodR w base g V N kind T room cb mb no l hits misses)
  (hk:∀q,base≤q→q<w.heap.size→w'.heap[q]?=w.heap[q]?) (hs:w.heap.size≤w'.heap.size) (hb:base'≤base):CodR w' base' g V N kind T room cb mb no l hits misses:=by
 have hr:=h.rep
 obtain⟨⟨S,h1,h2⟩,_⟩:=h
 refine⟨⟨S,fun w'' e1 e2=>((h1.next (fun q hq=>hk q (h2 q hq).1.1 (h2 q hq).1.2) hs) w'' e1 e2).mono hb,fun q hq=>⟨⟨by have:=(h2 q hq).1.1;omega,Nat.lt_of_lt_of_le (h2 q hq).1.2 hs⟩,(h2 q hq).2⟩⟩,?_⟩
 exact((hr.hi hk).up hs).base hb
def MadePost2 (dd:Vd) (no:Option Addr) (nn nc:Nat) (V:Vc) (N:List ByteArray) (kind:Int) (T:List Rg) (room:Int) (w:World) (e:Ending) (w':World):Prop:=
 ((e= .returned (.tuple #[.pointer none,noC, .bool false])∧¬(May V∧OkKit N kind T room∧¬GreatK V N T))∨
  (May V∧OkKit N kind T room∧¬GreatK V N T∧∃g cb mb to_ tn tc,e= .returned (.tuple #[.pointer (some ⟨g,0,none⟩),cVal dd no nn nc kind to_ tn tc, .bool true])∧CodR w' w.heap.size g V N kind (tabOf T) room cb mb none [] 0 0∧CR w' dd no nn nc V N))∧Below w.heap.size w w'
theorem made2_calls {V:Vc} {dd:Vd} {N:List ByteArray} {kind:Int} {T:List Rg} {room:Int} {no to_:Option Addr} {nn nc tn tc:Nat} (w:World) (hV:VocR w dd V) (hok:(∀s∈V.tokens,s.size≤maxLen)∧Sized V.specials) (hN:SlS w no nn nc N) (hNs:∀s∈N,s.size≤maxLen)
  (hT:SlF 3 w to_ tn tc (flat Rg.enc T)) (hU:Usu w):
  Calls Tryz.prog 16 #[.agg #[.slice dd.ta dd.tn dd.tc, .slice dd.ma dd.mn dd.mc, .slice dd.sa dd.sn dd.sc, .slice no nn nc, .int .i64 kind, .slice to_ tn tc, .int .i64 room]] w (MadePost2 dd no nn nc V N kind T room w):=by
 obtain⟨ta,tn',tc',ma,mn,mc,sa,sn,sc⟩:=dd
 obtain⟨w0,hw0⟩:∃w0,(w.alloc (.cells #[.slice ta tn' tc', .slice ma mn mc, .slice sa sn sc, .slice no nn nc, .int .i64 kind, .slice to_ tn tc, .int .i64 room] 29)).alloc (.cells #[.slice none 0 0, .slice none 0 0, .slice none 0 0, .slice none 0 0, .int .i64 0, .slice none 0 0] 37)=w0:=⟨_,rfl⟩
 have hb0:Below w.heap.size w w0:=hw0▸(below_alloc w _).alloc (by simp) _
 have hx0:w0.heap[w.heap.size]?=some (.cells #[.slice ta tn' tc', .slice ma mn mc, .slice sa sn sc, .slice no nn nc, .int .i64 kind, .slice to_ tn tc, .int .i64 room] 29):=by rw[←hw0];exact(Below.heap_alloc _ _ _ (by simp)).trans (heap_alloc_new w _)
 have hx1:w0.heap[w.heap.size+1]?=some (.cells #[.slice none 0 0, .slice none 0 0, .slice none 0 0, .slice none 0 0, .int .i64 0, .slice none 0 0] 37):=by
  rw[←hw0]
  have:=heap_alloc_new (w.alloc (.cells #[.slice ta tn' tc', .slice ma mn mc, .slice sa sn sc, .slice no nn nc, .int .i64 kind, .slice to_ tn tc, .int .i64 room] 29)) (.cells #[.slice none 0 0, .slice none 0 0, .slice none 0 0, .slice none 0 0, .int .i64 0, .slice none 0 0] 37)
  simpa using this
 have HSZ1:Hid (w.heap.size<w0.heap.size):=Lib.hid (by rw[←hw0];simp;omega)
 have HSZ2:Hid (w.heap.size+1<w0.heap.size):=Lib.hid (by rw[←hw0];simp)
 have hgr:=great16_calls (dd:=⟨ta,tn',tc',ma,mn,mc,sa,sn,sc⟩) w0 (hV.below hb0) hok (Sl.below hN hb0) hNs (hT.below hb0)
 have HBC:Hid (w.heap.size≤w.heap.size+1):=Lib.hid (by omega)
 have HV:=Lib.hid hV
 have HN:=Lib.hid hN
 have HT:=Lib.hid hT
 have HU:=Lib.hid hU
 have HB0:=Lib.hid hb0
 have HX0:=Lib.hid hx0
 have HX1:=Lib.hid hx1
 have HNS:=Lib.hid hNs
 have HOK:=Lib.hid hok
 have HW0:=Lib.hid hw0
 obtain⟨c0,c1,c2,c3,c4,c5,c6⟩:=box7 hx0
 rw[←HW0.out]at c0 c1 c2 c3 c4 c5 c6
 clear hV hN hT hNs hU hb0 hx0 hx1 hw0 hok
 go_enter Tryz.func16,Tryz.ntmps16
 go_wp2_with (fail)
 rw[HW0.out]
 clear c0 c1 c2 c3 c4 c5 c6
 refine hgr.mono ?_
 rintro e w1 ⟨⟨b,rfl,hbg⟩,hb1⟩
 have HB1:=Lib.hid hb1
 have HBG:=Lib.hid hbg
 clear hgr hbg hb1
 obtain⟨c0,c1,c2,c3,c4,c5,c6⟩:=box7 ((HB1.out.block w.heap.size HSZ1.out).trans HX0.out)
 obtain⟨b0,b1,b2,b3,b4,b5,bf⟩:=box6 ((HB1.out.block (w.heap.size+1) HSZ2.out).trans HX1.out)
 cases b with
 | true=>
  go_wp2_with (fail)
  refine bodyPost_ret (v:= .tuple #[.pointer none,noC, .bool false]) ?_ rfl ⟨.inl ⟨rfl,fun h=>h.2.2 (HBG.out.1 (by first | exact rfl | trivial))⟩,?_⟩
  ·simp[results,Tryz.results16,go_sem,noC,b0,b1,b2,b3,b4,b5]
  ·exact(((((((HB0.out.trans (HB1.out.mono HB0.out.size))).setCell HBC.out _).setCell HBC.out _).setCell HBC.out _).setCell HBC.out _).setCell HBC.out _).setCell HBC.out _
 | false=>
 have hng:¬GreatK V N T:=fun h=>by have:=HBG.out.2 h;cases this
 have hvok:VOk V:=⟨HOK.out.1,HOK.out.2,by
  rcases Nat.lt_or_ge 20 V.specials.length with h | h
  ·exact absurd (.inl (.inr (.inr (.inl h)))) hng
  ·omega⟩
 have HNG:=Lib.hid hng
 have HVOK:=Lib.hid hvok
 have HBW1:Hid (Below w.heap.size w w1):=Lib.hid (HB0.out.trans (HB1.out.mono HB0.out.size))
 have hrn:=rnew16_calls (dd:=⟨ta,tn',tc',ma,mn,mc,sa,sn,sc⟩) (kind:=kind) (room:=room) w1 (HV.out.below HBW1.out) hvok (Sl.below HN.out HBW1.out) HNS.out (HT.out.below HBW1.out)
 clear hng hvok
 go_wp2_with (fail)
 refine hrn.mono ?_
 rintro e w2 ⟨hpost,hb2⟩
 have HBW2:Hid (Below w.heap.size w w2):=Lib.hid (HBW1.out.trans (hb2.mono HBW1.out.size))
 have HSZ3:Hid (w.heap.size+1<w2.heap.size):=Lib.hid (by have:=hb2.size;have:=HB1.out.size;have:=HSZ2.out;omega)
 have HX02:Hid (w2.heap[w.heap.size]?=some (.cells #[.slice ta tn' tc', .slice ma mn mc, .slice sa sn sc, .slice no nn nc, .int .i64 kind, .slice to_ tn tc, .int .i64 room] 29)):=Lib.hid ((hb2.block w.heap.size (by have:=HB1.out.size;have:=HSZ1.out;omega)).trans ((HB1.out.block w.heap.size HSZ1.out).trans HX0.out))
 have HX12:Hid (w2.heap[w.heap.size+1]?=some (.cells #[.slice none 0 0, .slice none 0 0, .slice none 0 0, .slice none 0 0, .int .i64 0, .slice none 0 0] 37)):=Lib.hid ((hb2.block (w.heap.size+1) (by have:=HB1.out.size;have:=HSZ2.out;omega)).trans ((HB1.out.block (w.heap.size+1) HSZ2.out).trans HX1.out))
 clear hb2 hrn c0 c1 c2 c3 c4 c5 c6 b0 b1 b2 b3 b4 b5 bf
 rcases hpost with⟨hwhy,rfl⟩ | ⟨_,hwhy,rfl⟩ | ⟨hM,hOK,uo,un,uc,rfl,hU2⟩
 iterate 2 (
  ·obtain⟨b0,b1,b2,b3,b4,b5,bf⟩:=box6 ((Below.heap_alloc _ _ _ HSZ3.out:(w2.alloc (.cells #[.slice none 0 0, .slice none 0 0, .slice none 0 0, .slice none 0 0, .int .i64 0, .slice none 0 0] 37)).heap[w.heap.size+1]?=_).trans HX12.out)
   unfold noC
   go_wp2_with (fail)
   refine bodyPost_ret (v:= .tuple #[.pointer none,noC, .bool false]) ?_ rfl ⟨.inl ⟨rfl,fun h=>by first | exact hwhy h.1 | exact hwhy h.2.1⟩,?_⟩
   ·simp[results,Tryz.results16,go_sem,noC,b0,b1,b2,b3,b4,b5]
   ·exact((((((HBW2.out.alloc HBW2.out.size _).setCell HBC.out _).setCell HBC.out _).setCell HBC.out _).setCell HBC.out _).setCell HBC.out _).setCell HBC.out _)
 obtain⟨w3,hw3⟩:∃w3,w2.alloc (.cells #[.slice ta tn' tc', .slice ma mn mc, .slice sa sn sc, .slice no nn nc, .int .i64 kind, .slice uo un uc] 37)=w3:=⟨_,rfl⟩
 have hb3:Below w2.heap.size w2 w3:=hw3▸below_alloc w2 _
 have HBW3:Hid (Below w.heap.size w w3):=Lib.hid (HBW2.out.trans (hb3.mono HBW2.out.size))
 have HX3:Hid (w3.heap[w2.heap.size]?=some (.cells #[.slice ta tn' tc', .slice ma mn mc, .slice sa sn sc, .slice no nn nc, .int .i64 kind, .slice uo un uc] 37)):=Lib.hid (by rw[←hw3];exact heap_alloc_new w2 _)
 have HX03:=Lib.hid ((hb3.block w.heap.size (by have:=HSZ3.out;omega)).trans HX02.out)
 have HX13:=Lib.hid ((hb3.block (w.heap.size+1) HSZ3.out).trans HX12.out)
 have HSZ4:Hid (w2.heap.size<w3.heap.size):=Lib.hid (by rw[←hw3];simp)
 have hnn:nn≤1048576:=by
  have:=HN.out.count
  rcases Nat.lt_or_ge 20 N.length with h | h
  ·exact absurd (.inr (.inl h)) HNG.out
  ·omega
 have htn:tn≤1048576:=by
  have:=HT.out.count Rg.enc_len (by omega)
  rcases Nat.lt_or_ge 80 T.length with h | h
  ·exact absurd (.inr (.inr (.inl h))) HNG.out
  ·omega
 have htx:=textNew_calls (dd:=⟨ta,tn',tc',ma,mn,mc,sa,sn,sc⟩) (kind:=kind) (room:=room) w3 (HV.out.below HBW3.out) HVOK.out (Sl.below HN.out HBW3.out) HNS.out hnn (HT.out.below HBW3.out) htn (HU.out.below HBW3.out)
 have HM:=Lib.hid hM
 have HOK2:=Lib.hid hOK
 have HU3:=Lib.hid (hU2.below hb3)
 have HW3:=Lib.hid hw3
 obtain⟨c0,c1,c2,c3,c4,c5,c6⟩:=box7 HX03.out
 rw[←HW3.out]at c0 c1 c2 c3 c4 c5 c6
 clear hb3 hw3 hM hOK hU2 hnn htn
 go_wp2_with (fail)
 rw[HW3.out]
 refine htx.mono ?_
 rintro e w4 ⟨hpost,hb4⟩
 rcases hpost with⟨h,_⟩ | ⟨_,h,_⟩ | ⟨_,_,g,cb,mb,rfl,hcod⟩
 ·exact absurd HM.out h
 ·exact absurd HOK2.out h
 have HB4:=Lib.hid hb4
 have HCOD:=Lib.hid hcod
 have hx4:=(HB4.out.block w2.heap.size HSZ4.out).trans HX3.out
 have hx14:=(HB4.out.block (w.heap.size+1) (by have:=HSZ3.out;have:=HSZ4.out;omega)).trans HX13.out
 have HX14:=Lib.hid hx14
 obtain⟨d0,d1,d2,d3,d4,d5,df⟩:=box6 hx4
 obtain⟨b0,b1,b2,b3,b4,b5,bf⟩:=box6 hx14
 clear hx4 hx14 hb4 hcod htx c0 c1 c2 c3 c4 c5 c6
 go_wp2_with (fail)
 go_region
 all_goals(
  go_wp2_with (fail)
  refine bodyPost_ret (v:= .tuple #[.pointer (some ⟨g,0,none⟩),cVal ⟨ta,tn',tc',ma,mn,mc,sa,sn,sc⟩ no nn nc kind uo un uc, .bool true]) ?_ rfl ⟨.inr ⟨HM.out,HOK2.out,HNG.out,g,cb,mb,uo,un,uc,rfl,?_,?_⟩,?_⟩
  ·simp[results,Tryz.results16,go_sem,cVal,b0,b1,b2,b3,b4,b5]
  ·refine CodR.hi HCOD.out (fun q h1 h2=> ?_) (by simp) HBW3.out.size
   have hne:q≠w.heap.size+1:=by have:=HSZ3.out;have:=HSZ4.out;omega
   exact heap_set6 hne _ _ _ _ _ _
  ·have hbf:=below_set6 (HBW3.out.trans (HB4.out.mono HBW3.out.size)) HBC.out (.slice ta tn' tc') (.slice ma mn mc) (.slice sa sn sc) (.slice no nn nc) (.int .i64 kind) (.slice uo un uc)
   exact⟨HV.out.below hbf,Sl.below HN.out hbf,HM.out.1.2.1,by have:=HN.out.count;have:=HOK2.out.1.1;omega,HVOK.out.2.2,by have:=HM.out.1.1;omega⟩
  ·exact below_set6 (HBW3.out.trans (HB4.out.mono HBW3.out.size)) HBC.out _ _ _ _ _ _)
theorem held_ro {a b:Nd} (h:a.held=b.held):a.ro=b.ro∧a.key=b.key:=by
 simp only[Nd.held,Prod.mk.injEq]at h
 exact⟨h.2.1,h.1⟩
def CReq (w:World) (base top cb mb:Nat) (no:Option Addr) (l:List Row) (room hits misses:Int) (P:Nat→Prop):Prop:=
 ∃m cap N e y ord sz f R,(CSt w base top cb mb no m cap N e y room hits misses ord sz f R∧(∀k,Ft cb mb no k→P k)∧(∀i,i<m→∀ad,(N i).ro=some ad→P ad.block))∧Good ord N R sz m f∧l=ord.map fun i=>((N i).key,R i)
section
variable {w:World} {base top cb mb:Nat} {no:Option Addr} {l:List Row} {room hits misses:Int} {P:Nat→Prop}
theorem CReq.rep (h:CReq w base top cb mb no l room hits misses P):CRep w base top cb mb no l room hits misses:=
 let ⟨m,cap,N,e,y,ord,sz,f,R,hc,hg,hl⟩:=h
 ⟨m,cap,N,e,y,ord,sz,f,R,hc.1,hg,hl⟩
theorem CRep.req (h:CRep w base top cb mb no l room hits misses):CReq w base top cb mb no l room hits misses (fun q=>base≤q∧q<top):=by
 have hft:=h.ft
 obtain⟨m,cap,N,e,y,ord,sz,f,R,hc,hg,hl⟩:=h
 exact⟨m,cap,N,e,y,ord,sz,f,R,⟨hc,hft,fun i hi ad e=>⟨((hc.rows i hi).2 ad e).1,((hc.rows i hi).2 ad e).2.1⟩⟩,hg,hl⟩
theorem CReq.more {Q:Nat→Prop} (h:CReq w base top cb mb no l room hits misses P) (hq:∀k,P k→Q k):CReq w base top cb mb no l room hits misses Q:=
 let ⟨m,cap,N,e,y,ord,sz,f,R,hc,hg,hl⟩:=h
 ⟨m,cap,N,e,y,ord,sz,f,R,⟨hc.1,fun k hk=>hq k (hc.2.1 k hk),fun i hi ad e=>hq _ (hc.2.2 i hi ad e)⟩,hg,hl⟩
theorem CReq.up {top':Nat} (h:CReq w base top cb mb no l room hits misses P) (ht:top≤top'):CReq w base top' cb mb no l room hits misses P:=
 let ⟨m,cap,N,e,y,ord,sz,f,R,hc,hg,hl⟩:=h
 ⟨m,cap,N,e,y,ord,sz,f,R,⟨hc.1.up ht,hc.2⟩,hg,hl⟩
theorem CReq.stay {w':World} (h:CReq w base top cb mb no l room hits misses P) (hk:∀k,P k→w'.heap[k]?=w.heap[k]?):CReq w' base top cb mb no l room hits misses P:=
 let ⟨m,cap,N,e,y,ord,sz,f,R,hc,hg,hl⟩:=h
 ⟨m,cap,N,e,y,ord,sz,f,R,⟨hc.1.among (fun k hf=>hk k (hc.2.1 k hf)) (fun i hi ad e=>hk _ (hc.2.2 i hi ad e)),hc.2⟩,hg,hl⟩
theorem CReq.ft (h:CReq w base top cb mb no l room hits misses P):∀q,Ft cb mb no q→P q:=
 let ⟨m,cap,N,e,y,ord,sz,f,R,hc,hg,hl⟩:=h
 hc.2.1
theorem creq_miss (h:CReq w base top cb mb no l room hits misses P) (htop:top≤w.heap.size) (key:ByteArray) (hkl:key.size≤maxLen) (hno:∀p∈l,p.1≠key) (hm0:0≤misses) (hm1:misses<4611686018427387904):
  Calls Tryz.prog 118 #[.pointer (some ⟨cb,0,none⟩), .string key] w fun en w'=>en= .returned (.tuple #[.slice none 0 0, .bool false])∧
   CReq w' base top cb mb no l room hits (misses+1) P∧Keeps (Ft cb mb no) w w':=by
 obtain⟨m,cap,N,e,y,ord,sz,f,R,hc,hg,rfl⟩:=h
 have hf:f key=none:=hg.miss.2 fun i hi=>hno _ (List.mem_map.2 ⟨i,hi,rfl⟩)
 refine(get_miss hc.1 htop key hkl hf hm0 hm1).mono ?_
 rintro en w' ⟨rfl,h1,h2⟩
 exact⟨rfl,⟨m,cap,N,e,y,ord,sz,f,R,⟨h1,hc.2⟩,hg,rfl⟩,h2⟩
theorem creq_hit (h:CReq w base top cb mb no l room hits misses P) (htop:top≤w.heap.size) (key:ByteArray) (A:List Int) (hkl:key.size≤maxLen) (hmem:(key,A)∈l) (hm0:0≤hits) (hm1:hits<4611686018427387904):
  Calls Tryz.prog 118 #[.pointer (some ⟨cb,0,none⟩), .string key] w fun en w'=>∃vo vn vc,en= .returned (.tuple #[.slice vo vn vc, .bool true])∧Own w' w.heap.size (.slice vo vn vc) A∧
   CReq w' base top cb mb no (young l key A) room (hits+1) misses P∧Keeps (Ft cb mb no) w w':=by
 obtain⟨m,cap,N,e,y,ord,sz,f,R,⟨hc,hp1,hp2⟩,hg,rfl⟩:=h
 obtain⟨i,hi,he⟩:=List.mem_map.1 hmem
 simp only[Prod.mk.injEq]at he
 obtain⟨hki,hRi⟩:=he
 obtain⟨pre,post,hs⟩:=List.append_of_mem hi
 subst hs
 have hnd:=hc.ch.nd
 have hni:i∉pre++post:=by
  have h2:(i::(pre++post)).Nodup:=(List.perm_middle.nodup_iff).1 hnd
  exact(List.nodup_cons.1 h2).1
 have hne:∀j∈pre++post,(N j).key≠key:=fun j hj e=>by
  have:j=i:=hg.inj (mem_mid.2 (.inr hj)) hi (by rw[e,hki])
  exact hni (this▸hj)
 have hf:f key=some (i:Int):=(hg.at_ _ _).2 ⟨i,hi,rfl,hki⟩
 refine(get_hit hc htop key hkl hf hm0 hm1 (hg.lim i hi)).mono ?_
 rintro en w' ⟨vo,vn,vc,N',e',y',rfl,hown,h1,h2,h3⟩
 rw[hRi]at hown
 have hk:∀j,(N' j).key=(N j).key:=fun j=>by have:=h2 j;simp only[Nd.held,Prod.mk.injEq]at this;exact this.1
 refine⟨vo,vn,vc,rfl,hown,⟨m,cap,N',e',y',_,sz,f,R,⟨h1,hp1,fun j hj ad e=>hp2 j hj ad (by rw[←(held_ro (h2 j)).1];exact e)⟩,⟨by have:=hg.len;simp at this ⊢;omega,hg.m_,fun s c=> ?_,fun j hj=>hg.lim j (mem_mid.2 (mem_end.1 hj))⟩,?_⟩,h3⟩
 ·rw[hg.at_ s c]
  constructor
  ·rintro⟨j,hj,rfl,hk'⟩
   exact⟨j,mem_end.2 (mem_mid.1 hj),rfl,by rw[hk];exact hk'⟩
  ·rintro⟨j,hj,rfl,hk'⟩
   exact⟨j,mem_mid.2 (mem_end.1 hj),rfl,by rw[←hk];exact hk'⟩
 ·exact young_old (N':=N') (R:=R) (R':=R) (A:=A) hki hne (fun j hj=>⟨hk j,rfl⟩) (by rw[hk,hki]) hRi
theorem creq_put (h:CReq w base w.heap.size cb mb no l room hits misses P) (key:ByteArray) (hkl:key.size≤maxLen) (hroom:0<room) (hroom2:room≤1048576) (hl:(l.length:Int)≤room) (hl2:l.length<1048576)
  {ao:Option Addr} {n c:Nat} {A:List Int} (hA:SlI w ao n c A) (hAo:∀ad,ao=some ad→0<n→ad.block<w.heap.size∧¬Ft cb mb no ad.block) (hlim:n≤1048576):
  Calls Tryz.prog 119 #[.pointer (some ⟨cb,0,none⟩), .string key, .slice ao n c] w fun en w'=>en= .returned (.tuple #[])∧∃g,
   CReq w' base w'.heap.size cb mb (some ⟨g,0,none⟩) (putL l room key A) room hits misses (fun q=>P q∨w.heap.size≤q)∧Keeps (Ft cb mb no) w w'∧At no g w.heap.size:=by
 obtain⟨m,cap,N,e,y,ord,sz,f,R,⟨hc,hp1,hp2⟩,hg,rfl⟩:=h
 rw[List.length_map]at hl hl2
 have hlen:=hg.len
 have hm:=hg.m_
 have hAl:=hA.len
 have hP1:∀g,At no g w.heap.size→∀k,Ft cb mb (some ⟨g,0,none⟩) k→P k∨w.heap.size≤k:=fun g ha k hk=>by
  rcases hk with h1 | h1 | h1
  ·exact .inl (hp1 k (.inl h1))
  ·exact .inl (hp1 k (.inr (.inl h1)))
  ·obtain rfl:g=k:=by simpa using h1
   rcases ha with h2 | h2
   ·exact .inl (hp1 g (.inr (.inr h2)))
   ·exact .inr h2
 have hP2:∀(N':Nat→Nd) (i m':Nat),(∀j,j<m'→j≠i→j<m)→(∀j,j≠i→(N' j).held=(N j).held)→(∀ad,(N' i).ro=some ad→w.heap.size≤ad.block)→∀j,j<m'→∀ad,(N' j).ro=some ad→P ad.block∨w.heap.size≤ad.block:=fun N' i m' h0 h1 h2 j hj ad e=>by
  by_cases ej:j=i
  ·subst ej;exact .inr (h2 ad e)
  ·exact .inl (hp2 j (h0 j hj ej) ad (by rw[←(held_ro (h1 j ej)).1];exact e))
 cases hf:f key with
 | some ci=>
  obtain⟨i,hi,rfl,hki⟩:=(hg.at_ key ci).1 hf
  obtain⟨pre,post,hs⟩:=List.append_of_mem hi
  subst hs
  have hnd:=hc.ch.nd
  have hni:i∉pre++post:=by
   have h2:(i::(pre++post)).Nodup:=(List.perm_middle.nodup_iff).1 hnd
   exact(List.nodup_cons.1 h2).1
  have hne:∀j∈pre++post,(N j).key≠key:=fun j hj e=>by
   have:j=i:=hg.inj (by simp at hj ⊢;rcases hj with h | h<;>simp[h]) hi (by rw[e,hki])
   exact hni (this▸hj)
  refine(put_oldB hc key hkl hroom hA hAo hlim (by omega) hf rfl).mono ?_
  rintro en w' ⟨rfl,g,cap',N',e',y',h1,h2',h3,h6,h4,h5⟩
  have h2:∀j,j≠i→(N' j).key=(N j).key:=fun j hj=>(held_ro (h2' j hj)).2
  refine⟨rfl,g,⟨m,cap',N',e',y',_,sz,_,_,⟨h1,hP1 g h5,hP2 N' i m (fun j hj _=>hj) h2' h6⟩,⟨by simp at hlen ⊢;omega,hm,fun s c=> ?_,fun j hj=> ?_⟩,?_⟩,h4,h5⟩
  ·refine at_put (N:=N) (fun s c hs=> ?_) hne hni h2 h3 s c
   rw[hg.at_ s c]
   constructor
   ·rintro⟨j,hj,rfl,hk⟩
    have:j≠i:=fun e=>hs (by rw[←hk,e,hki])
    exact⟨j,(mem_mid.1 hj).resolve_left this,rfl,hk⟩
   ·rintro⟨j,hj,rfl,hk⟩
    exact⟨j,mem_mid.2 (.inr hj),rfl,hk⟩
  ·by_cases e:j=i
   ·subst e;rw[upd_same];omega
   ·rw[upd_other _ _ _ _ e];exact hg.lim j (mem_mid.2 (mem_end.1 hj))
  ·have hy:=young_old (N':=N') (R:=R) (R':=upd R i A) (A:=A) hki hne (fun j hj=>⟨h2 j (fun e=>hni (e▸hj)),upd_other _ _ _ _ (fun e=>hni (e▸hj))⟩) h3 (upd_same _ _ _)
   unfold putL
   rw[hy,if_neg (by simp at hl ⊢;omega)]
 | none=>
  have hne:=hg.miss.1 hf
  by_cases hsr:(sz:Int)<room
  ·have hni:m∉ord:=fun hi=>by have:=hc.lt m hi;omega
   refine(put_newB hc key hkl hroom hA hAo hlim (by omega) hf hsr (by omega) rfl).mono ?_
   rintro en w' ⟨rfl,g,cap',N',e',y',h1,h2',h3,h6,h4,h5⟩
   have h2:∀j,j≠m→(N' j).key=(N j).key:=fun j hj=>(held_ro (h2' j hj)).2
   have hRR:∀j∈ord,upd (upd R m []) m A j=R j:=fun j hj=>by
    have:j≠m:=fun e=>hni (e▸hj)
    rw[upd_other _ _ _ _ this,upd_other _ _ _ _ this]
   refine⟨rfl,g,⟨m+1,cap',N',e',y',_,sz+1,_,_,⟨h1,hP1 g h5,hP2 N' m (m+1) (fun j hj _=>by omega) h2' h6⟩,⟨by simp;omega,by omega,fun s c=> ?_,fun j hj=> ?_⟩,?_⟩,h4,h5⟩
   ·exact at_put (N:=N) (fun s c hs=>hg.at_ s c) hne hni h2 h3 s c
   ·rcases List.mem_append.1 hj with h | h
    ·rw[hRR j h];exact hg.lim j h
    ·simp at h;subst h;rw[upd_same];omega
   ·have hy:=young_new (N':=N') (R:=R) (R':=upd (upd R m []) m A) (A:=A) hne (fun j hj=>⟨h2 j (fun e=>hni (e▸hj)),hRR j hj⟩) h3 (upd_same _ _ _)
    unfold putL
    rw[hy,if_neg (by simp;omega)]
  ·cases ord with
   | nil=>simp at hlen;omega
   | cons i post=>
    have hnd:=hc.ch.nd
    have hni:i∉post:=(List.nodup_cons.1 hnd).1
    have hfi:f (N i).key=some (i:Int):=(hg.at_ _ _).2 ⟨i,by simp,rfl,rfl⟩
    refine(put_evictB hc key hkl hroom hA hAo hlim (by omega) hf (by omega) (by rw[hfi];rfl) rfl rfl).mono ?_
    rintro en w' ⟨rfl,g,cap',N',e',y',h1,h2',h3,h6,h4,h5⟩
    have h2:∀j,j≠i→(N' j).key=(N j).key:=fun j hj=>(held_ro (h2' j hj)).2
    have hnep:∀j∈post,(N j).key≠key:=fun j hj=>hne j (by simp[hj])
    refine⟨rfl,g,⟨m,cap',N',e',y',_,sz-1+1,_,_,⟨h1,hP1 g h5,hP2 N' i m (fun j hj _=>hj) h2' h6⟩,⟨by simp at hlen ⊢;omega,by simp at hlen;omega,fun s c=> ?_,fun j hj=> ?_⟩,?_⟩,h4,h5⟩
    ·refine at_put (N:=N) (fA:=fun s=>if s=(N i).key then none else f s) (fun s c hs=> ?_) hnep hni h2 h3 s c
     show(if s=(N i).key then none else f s)=some c↔_
     by_cases es:s=(N i).key
     ·rw[if_pos es]
      constructor
      ·intro h;cases h
      ·rintro⟨j,hj,rfl,hk⟩
       have:j=i:=hg.inj (by simp[hj]) (by simp) (by rw[hk,es])
       exact absurd (this▸hj) hni
     ·rw[if_neg es,hg.at_ s c]
      constructor
      ·rintro⟨j,hj,rfl,hk⟩
       have:j≠i:=fun e=>es (by rw[←hk,e])
       exact⟨j,(List.mem_cons.1 hj).resolve_left this,rfl,hk⟩
      ·rintro⟨j,hj,rfl,hk⟩
       exact⟨j,by simp[hj],rfl,hk⟩
    ·by_cases e:j=i
     ·subst e;rw[upd_same];omega
     ·rw[upd_other _ _ _ _ e];exact hg.lim j (List.mem_cons.2 (mem_end.1 hj))
    ·have hy:=young_new (i:=i) (N':=N') (R:=R) (R':=upd R i A) (A:=A) hnep (fun j hj=>⟨h2 j (fun e=>hni (e▸hj)),upd_other _ _ _ _ (fun e=>hni (e▸hj))⟩) h3 (upd_same _ _ _)
     unfold putL young
     unfold young at hy
     have hki:decide (((N i).key,R i).1≠key)=true:=by simpa using hne i (by simp)
     have hcons:(((i::post).map fun i=>((N i).key,R i)).filter (fun p=>p.1≠key))++ [(key,A)]=((N i).key,R i)::((post++ [i]).map fun j=>((N' j).key,upd R i A j)):=by
      rw[List.map_cons,List.filter_cons,if_pos hki,List.cons_append,hy]
     rw[hcons,if_pos (by simp at hlen ⊢;omega)]
     rfl
end
open Go
def findM (M:List Mg) (a b:Int):Option Mg:=M.find? (fun m=>decide (m.left=a) && decide (m.right=b))
structure IsBest (M:List Mg) (row:List Int) (i:Nat) (m:Mg):Prop where
 at_:∃a b,row[i]?=some a∧row[i+1]?=some b∧findM M a b=some m
 least:∀j a b m',row[j]?=some a→row[j+1]?=some b→findM M a b=some m'→m.order<m'.order∨(m.order=m'.order∧i≤j)
def NoBest (M:List Mg) (row:List Int):Prop:=∀j a b,row[j]?=some a→row[j+1]?=some b→findM M a b=none
theorem IsBest.uniq {M:List Mg} {row:List Int} {i j:Nat} {m n:Mg} (h:IsBest M row i m) (k:IsBest M row j n):i=j∧m=n:=by
 obtain⟨a,b,h1,h2,h3⟩:=h.at_
 obtain⟨c,d,k1,k2,k3⟩:=k.at_
 have e1:=h.least j c d n k1 k2 k3
 have e2:=k.least i a b m h1 h2 h3
 have e:i=j:=by omega
 subst e
 rw[h1]at k1
 rw[h2]at k2
 simp only[Option.some.injEq]at k1 k2
 subst k1 k2
 rw[h3]at k3
 exact⟨rfl,by simpa using k3⟩
theorem IsBest.not {M:List Mg} {row:List Int} {i:Nat} {m:Mg} (h:IsBest M row i m) (k:NoBest M row):False:=by
 obtain⟨a,b,h1,h2,h3⟩:=h.at_
 rw[k i a b h1 h2]at h3
 cases h3
def mergeAt (row:List Int) (i:Nat) (o:Int):List Int:=row.take i++o::row.drop (i+2)
open Classical in
noncomputable def stepF (M:List Mg) (row:List Int):Option (List Int):=if h:∃p:Nat×Mg,IsBest M row p.1 p.2 then some (mergeAt row h.choose.1 h.choose.2.out)else none
theorem stepF_some {M:List Mg} {row:List Int} {i:Nat} {m:Mg} (h:IsBest M row i m):stepF M row=some (mergeAt row i m.out):=by
 have he:∃p:Nat×Mg,IsBest M row p.1 p.2:=⟨(i,m),h⟩
 unfold stepF
 rw[dif_pos he]
 obtain⟨e1,e2⟩:=he.choose_spec.uniq h
 rw[e1,e2]
theorem stepF_none {M:List Mg} {row:List Int} (h:NoBest M row):stepF M row=none:=by
 unfold stepF
 rw[dif_neg]
 rintro⟨p,hp⟩
 exact hp.not h
theorem stepF_len {M:List Mg} {row r:List Int} (h:stepF M row=some r):r.length+1=row.length:=by
 unfold stepF at h
 split at h
 ·next he=>
  simp only[Option.some.injEq]at h
  obtain⟨a,b,h1,h2,h3⟩:=he.choose_spec.at_
  have:=(List.getElem?_eq_some_iff.1 h2).1
  rw[←h]
  unfold mergeAt
  simp
  omega
 ·cases h
noncomputable def runF (M:List Mg):Nat→List Int→List Int
 | 0,r=>r
 | k+1,r=>match stepF M r with
  | none=>r
  | some r'=>runF M k r'
theorem runF_end {M:List Mg} {r:List Int} (h:stepF M r=none):∀k,runF M k r=r
 | 0=>rfl
 | k+1=>by simp only[runF,h]
theorem runF_step {M:List Mg} {r r':List Int} (h:stepF M r=some r'):runF M r.length r=runF M r'.length r':=by
 have hl:=stepF_len h
 rw[←hl]
 simp only[runF,h]
def rowOf (V:Vc) (b:List Int):List Int:=b.map (fun x=>ofT V.tokens (one x.toNat))
theorem rowOf_len (V:Vc) (b:List Int):(rowOf V b).length=b.length:=by simp[rowOf]
noncomputable def encF (V:Vc) (b:List Int):List Int:=runF V.merges b.length (rowOf V b)
theorem encF_one (V:Vc) (x:Int):encF V [x]= [ofT V.tokens (one x.toNat)]:=by
 unfold encF
 exact runF_end (stepF_none fun j a b h1 h2=>by
  have:=(List.getElem?_eq_some_iff.1 h2).1
  simp[rowOf]at this) _
abbrev Ch:=List (Nat×Int)
def ChOK (C:Ch):Prop:=C.Pairwise (fun a b=>a.1<b.1)
def agF (M:List Mg):Ch→Nat→Option (Int×Int)
 | (p,a)::(q,b)::l,x=>if x=p then(findM M a b).map (fun m=>(m.order,m.out))else agF M ((q,b)::l) x
 | _,_=>none
theorem agF_cons2 (M:List Mg) (p q:Nat) (a b:Int) (l:Ch) (x:Nat):agF M ((p,a)::(q,b)::l) x=if x=p then(findM M a b).map (fun m=>(m.order,m.out))else agF M ((q,b)::l) x:=rfl
theorem agF_mem {M:List Mg}:∀{C:Ch} {x:Nat} {o},agF M C x=some o→∃i a q b m,C[i]?=some (x,a)∧C[i+1]?=some (q,b)∧findM M a b=some m∧o=(m.order,m.out)
 | [],x,o,h=>by simp[agF]at h
 | [_],x,o,h=>by simp[agF]at h
 | (p,a)::(q,b)::l,x,o,h=>by
  rw[agF_cons2]at h
  split at h
  ·next e=>
   subst e
   cases hf:findM M a b with
   | none=>rw[hf]at h;simp at h
   | some m=>rw[hf]at h;exact⟨0,a,q,b,m,rfl,rfl,hf,by simpa using h.symm⟩
  ·obtain⟨i,a',q',b',m,h1,h2,h3,h4⟩:=agF_mem h
   exact⟨i+1,a',q',b',m,by simpa using h1,by simpa using h2,h3,h4⟩
theorem agF_at {M:List Mg}:∀{C:Ch},ChOK C→∀{i p q:Nat} {a b:Int},C[i]?=some (p,a)→C[i+1]?=some (q,b)→agF M C p=(findM M a b).map (fun m=>(m.order,m.out))
 | [],_,i,p,q,a,b,h,_=>by simp at h
 | [_],_,i,p,q,a,b,_,h=>by simp at h
 | (p0,a0)::(q0,b0)::l,hc,i,p,q,a,b,h1,h2=>by
  rw[agF_cons2]
  cases i with
  | zero=>
   simp at h1 h2
   obtain⟨rfl,rfl⟩:=h1
   obtain⟨rfl,rfl⟩:=h2
   simp
  | succ i=>
   have hc':=List.pairwise_cons.1 hc
   have hm:(p,a)∈(q0,b0)::l:=List.mem_of_getElem? (by simpa using h1)
   have:=hc'.1 _ hm
   simp only at this
   rw[if_neg (by omega)]
   exact agF_at hc'.2 (i:=i) (by simpa using h1) (by simpa using h2)
theorem agF_no {M:List Mg} {C:Ch} {x:Nat} (h:∀c∈C,c.1≠x):agF M C x=none:=by
 cases hf:agF M C x with
 | none=>rfl
 | some o=>
  obtain⟨i,a,q,b,m,h1,_⟩:=agF_mem hf
  exact absurd rfl (h _ (List.mem_of_getElem? h1))
theorem agF_last {M:List Mg}:∀{C:Ch},ChOK C→∀{i p:Nat} {a:Int},C[i]?=some (p,a)→C[i+1]?=none→agF M C p=none:=by
 intro C hc i p a h1 h2
 cases hf:agF M C p with
 | none=>rfl
 | some o=>
  obtain⟨j,a',q,b,m,k1,k2,_⟩:=agF_mem hf
  exfalso
  have hi:=(List.getElem?_eq_some_iff.1 h1).1
  have hj:=(List.getElem?_eq_some_iff.1 k1).1
  have hj2:=(List.getElem?_eq_some_iff.1 k2).1
  have hi2:C.length≤i+1:=by simpa using h2
  have hp:=List.pairwise_iff_getElem.1 hc j i hj hi (by omega)
  rw[List.getElem?_eq_getElem hi]at h1
  rw[List.getElem?_eq_getElem hj]at k1
  simp only[Option.some.injEq]at h1 k1
  rw[h1,k1]at hp
  simp at hp
theorem agF_best {M:List Mg} {C:Ch} (hc:ChOK C) {p:Nat} {o d:Int} (h:agF M C p=some (o,d)) (hm:∀q o' d',agF M C q=some (o',d')→o<o'∨(o=o'∧p≤q)):
  ∃i a q b m,C[i]?=some (p,a)∧C[i+1]?=some (q,b)∧findM M a b=some m∧m.order=o∧m.out=d∧IsBest M (C.map (·.2)) i m:=by
 obtain⟨i,a,q,b,m,h1,h2,h3,h4⟩:=agF_mem h
 simp only[Prod.mk.injEq]at h4
 refine⟨i,a,q,b,m,h1,h2,h3,h4.1.symm,h4.2.symm,⟨⟨a,b,by simp[h1],by simp[h2],h3⟩,fun j a' b' m' k1 k2 k3=> ?_⟩⟩
 simp only[List.getElem?_map,Option.map_eq_some_iff]at k1 k2
 obtain⟨⟨pj,a1⟩,g1,rfl⟩:=k1
 obtain⟨⟨qj,b1⟩,g2,rfl⟩:=k2
 have:=hm pj m'.order m'.out (by rw[agF_at hc g1 g2];simp only at k3;rw[k3];rfl)
 rw[h4.1]at this
 rcases this with e | ⟨e1,e2⟩
 ·exact .inl e
 ·refine .inr ⟨e1,?_⟩
  rcases Nat.lt_or_ge j i with hji | hji
  ·exfalso
   have hj:=(List.getElem?_eq_some_iff.1 g1).1
   have hi:=(List.getElem?_eq_some_iff.1 h1).1
   have hp:=List.pairwise_iff_getElem.1 hc j i hj hi hji
   rw[List.getElem?_eq_getElem hj]at g1
   rw[List.getElem?_eq_getElem hi]at h1
   simp only[Option.some.injEq]at g1 h1
   rw[g1,h1]at hp
   simp only at hp
   omega
  ·exact hji
theorem agF_noBest {M:List Mg} {C:Ch} (hc:ChOK C) (h:∀p,agF M C p=none):NoBest M (C.map (·.2)):=by
 intro j a b k1 k2
 simp only[List.getElem?_map,Option.map_eq_some_iff]at k1 k2
 obtain⟨⟨pj,a1⟩,g1,rfl⟩:=k1
 obtain⟨⟨qj,b1⟩,g2,rfl⟩:=k2
 have:=h pj
 rw[agF_at hc g1 g2]at this
 simpa using this
theorem mergeC_ok {pre post:Ch} {p q:Nat} {a b o:Int} (h:ChOK (pre++(p,a)::(q,b)::post)):ChOK (pre++(p,o)::post):=by
 unfold ChOK at *
 rw[List.pairwise_append]at h ⊢
 obtain⟨h1,h2,h3⟩:=h
 rw[List.pairwise_cons,List.pairwise_cons]at h2
 refine⟨h1,List.pairwise_cons.2 ⟨fun c hc=>h2.1 c (by simp[hc]),h2.2.2⟩,fun x hx y hy=> ?_⟩
 rcases List.mem_cons.1 hy with rfl | hy
 ·exact h3 x hx (p,a) (by simp)
 ·exact h3 x hx y (by simp[hy])
theorem merge_map {pre post:Ch} {p q:Nat} {a b o:Int}:(pre++(p,o)::post).map (·.2)=mergeAt ((pre++(p,a)::(q,b)::post).map (·.2)) pre.length o:=by
 unfold mergeAt
 simp[List.drop_append]
theorem agF_pre {M:List Mg}:∀{pre l l':Ch} {x p:Nat} {a a':Int},ChOK (pre++(p,a)::l)→(∀c,pre.getLast?=some c→c.1≠x)→(∃c∈pre,c.1=x)→agF M (pre++(p,a)::l) x=agF M (pre++(p,a')::l') x
 | [],l,l',x,p,a,a',_,_,h=>by simp at h
 | [c],l,l',x,p,a,a',_,h1,h2=>by
  obtain⟨d,hd,e⟩:=h2
  simp at hd
  subst hd
  exact absurd e (h1 _ rfl)
 | (r,u)::(s,v)::pre,l,l',x,p,a,a',hc,h1,h2=>by
  simp only[List.cons_append]
  rw[agF_cons2,agF_cons2]
  by_cases e:x=r
  ·rw[if_pos e,if_pos e]
  ·rw[if_neg e,if_neg e]
   have:=agF_pre (M:=M) (pre:=(s,v)::pre) (l:=l) (l':=l') (x:=x) (p:=p) (a:=a) (a':=a') (List.pairwise_cons.1 hc).2 (fun c h=>h1 c (by simpa using h)) (by
    obtain⟨d,hd,e2⟩:=h2
    rcases List.mem_cons.1 hd with rfl | h
    ·exact absurd e2.symm e
    ·exact⟨d,h,e2⟩)
   simpa using this
theorem agF_skip {M:List Mg}:∀{pre l:Ch} {x:Nat},(∀c∈pre,c.1≠x)→l≠[]→agF M (pre++l) x=agF M l x
 | [],l,x,_,_=>rfl
 | [(r,u)],(p,a)::l,x,h,_=>by
  simp only[List.cons_append,List.nil_append]
  rw[agF_cons2,if_neg (fun e=>h (r,u) (by simp) e.symm)]
 | (r,u)::(s,v)::pre,l,x,h,hl=>by
  simp only[List.cons_append]
  rw[agF_cons2,if_neg (fun e=>h (r,u) (by simp) e.symm)]
  have:=agF_skip (M:=M) (pre:=(s,v)::pre) (l:=l) (x:=x) (fun c hc=>h c (by simp[hc])) hl
  simpa using this
 | [(r,u)],[],x,_,hl=>absurd rfl hl
def chOf (row:List Int):Ch:=(List.range row.length).zip row
theorem chOf_at {row:List Int} {i:Nat} {a:Int} (h:row[i]?=some a):(chOf row)[i]?=some (i,a):=by
 have hi:=(List.getElem?_eq_some_iff.1 h).1
 unfold chOf
 rw[List.getElem?_zip_eq_some]
 exact⟨by simp[hi],h⟩
theorem chOf_len (row:List Int):(chOf row).length=row.length:=by simp[chOf]
theorem chOf_map (row:List Int):(chOf row).map (·.2)=row:=by
 unfold chOf
 rw[List.map_snd_zip]
 simp
theorem chOf_ok (row:List Int):ChOK (chOf row):=by
 unfold ChOK
 rw[List.pairwise_iff_getElem]
 intro i j hi hj hij
 simp only[chOf,List.getElem_zip,List.getElem_range]
 exact hij
structure Ent where
 place:Int
 order:Int
 out:Int
 deriving DecidableEq
instance :Inhabited Ent:=⟨⟨0,0,0⟩⟩
def Ent.less (a b:Ent):Bool:=decide (a.order<b.order) || (decide (a.order=b.order) && decide (a.place<b.place))
theorem Ent.less_iff {a b:Ent}:a.less b=true↔a.order<b.order∨(a.order=b.order∧a.place<b.place):=by
 simp[Ent.less]
theorem Ent.ge_trans {a b c:Ent} (h1:¬a.less b=true) (h2:¬b.less c=true):¬a.less c=true:=by
 rw[Ent.less_iff]at *
 omega
theorem Ent.less_asymm {a b:Ent} (h1:a.less b=true):¬b.less a=true:=by
 rw[Ent.less_iff]at *
 omega
theorem Ent.not_self (a:Ent):¬a.less a=true:=by
 rw[Ent.less_iff];omega
def en (L:List Ent) (i:Nat):Ent:=L.getD i default
theorem en_eq {L:List Ent} {i:Nat} (h:i<L.length):L[i]?=some (en L i):=by simp[en,List.getD,h]
theorem en_get {L:List Ent} {i:Nat} (h:i<L.length):L[i]=en L i:=by simp[en,List.getD,h]
def swp (L:List Ent) (i j:Nat):List Ent:=(L.set i (en L j)).set j (en L i)
theorem swp_len (L:List Ent) (i j:Nat):(swp L i j).length=L.length:=by simp[swp]
theorem en_set {L:List Ent} {i:Nat} {x:Ent} (k:Nat) (h:i<L.length):en (L.set i x) k=if k=i then x else en L k:=by
 unfold en
 simp only[List.getD,List.getElem?_set]
 by_cases hk:i=k
 ·subst hk;simp[h]
 ·rw[if_neg hk,if_neg (fun e=>hk e.symm)]
theorem en_swp {L:List Ent} {i j:Nat} (k:Nat) (hi:i<L.length) (hj:j<L.length):en (swp L i j) k=if k=j then en L i else if k=i then en L j else en L k:=by
 unfold swp
 rw[en_set k (by simpa using hj),en_set k hi]
def par (i:Nat):Nat:=(i-1) / 2
def Heap (L:List Ent) (n:Nat):Prop:=∀i,0<i→i<n→¬(en L i).less (en L (par i))=true
structure HeapU (L:List Ent) (n j:Nat):Prop where
 ok:∀i,0<i→i<n→i≠j→¬(en L i).less (en L (par i))=true
 kid:∀c,0<c→c<n→par c=j→0<j→¬(en L c).less (en L (par j))=true
theorem up_stop {L:List Ent} {n j:Nat} (h:HeapU L n j) (hs:j=0∨¬(en L j).less (en L (par j))=true):Heap L n:=fun i h0 hn=>by
 by_cases e:i=j
 ·subst e
  rcases hs with h1 | h1
  ·omega
  ·exact h1
 ·exact h.ok i h0 hn e
theorem par_lt {i:Nat} (h:0<i):par i<i:=by unfold par;omega
theorem up_step {L:List Ent} {n j:Nat} (h:HeapU L n j) (h0:0<j) (hj:j<n) (hl:n≤L.length) (hs:(en L j).less (en L (par j))=true):HeapU (swp L (par j) j) n (par j):=by
 have hp:=par_lt h0
 have hE:=fun k=>en_swp (L:=L) (i:=par j) (j:=j) k (by omega) (by omega)
 refine⟨fun i i0 hi hne=> ?_,fun c c0 hc hcp hp0=> ?_⟩
 ·rw[hE i,hE (par i)]
  by_cases e1:i=j
  ·subst e1
   rw[if_pos rfl,if_neg (by omega),if_pos rfl]
   exact Ent.less_asymm hs
  ·rw[if_neg e1,if_neg hne]
   by_cases e2:par i=j
   ·rw[if_pos e2]
    exact h.kid i i0 hi e2 h0
   ·rw[if_neg e2]
    by_cases e3:par i=par j
    ·rw[if_pos e3]
     have h1:=h.ok i i0 hi e1
     rw[e3]at h1
     exact Ent.ge_trans h1 (Ent.less_asymm hs)
    ·rw[if_neg e3]
     exact h.ok i i0 hi e1
 ·rw[hE c,hE (par (par j))]
  have hpp:=par_lt hp0
  rw[if_neg (show par (par j)≠j by omega),if_neg (show par (par j)≠par j by omega)]
  have hq:¬(en L (par j)).less (en L (par (par j)))=true:=h.ok (par j) hp0 (by omega) (by omega)
  by_cases e1:c=j
  ·rw[if_pos e1];exact hq
  ·have e2:c≠par j:=fun e=>by have:=par_lt c0;rw[hcp,e]at this;omega
   rw[if_neg e1,if_neg e2]
   have h1:=h.ok c c0 hc e1
   rw[hcp]at h1
   exact Ent.ge_trans h1 hq
structure HeapD (L:List Ent) (n i:Nat) (g:Prop):Prop where
 ok:∀k,0<k→k<n→par k≠i→(k=i→g)→¬(en L k).less (en L (par k))=true
 kid:∀c,0<c→c<n→par c=i→0<i→¬(en L c).less (en L (par i))=true
theorem down_stop {L:List Ent} {n i:Nat} {g:Prop} (h:HeapD L n i g) (hs:∀c,0<c→c<n→par c=i→¬(en L c).less (en L i)=true):(g→Heap L n)∧HeapU L n i:=by
 have key:∀k,0<k→k<n→(k=i→g)→¬(en L k).less (en L (par k))=true:=fun k k0 hk hg=>by
  by_cases e:par k=i
  ·have:=hs k k0 hk e
   rw[e];exact this
  ·exact h.ok k k0 hk e hg
 exact⟨fun hg k k0 hk=>key k k0 hk (fun _=>hg),fun k k0 hk e=>key k k0 hk (fun e2=>absurd e2 e),h.kid⟩
theorem down_step {L:List Ent} {n i j:Nat} {g:Prop} (h:HeapD L n i g) (hj:j<n) (hl:n≤L.length) (hj0:0<j) (hp:par j=i) (hm:∀c,0<c→c<n→par c=i→¬(en L c).less (en L j)=true) (hs:(en L j).less (en L i)=true):HeapD (swp L i j) n j True:=by
 have hij:i<j:=by have:=par_lt hj0;omega
 have hE:=fun k=>en_swp (L:=L) (i:=i) (j:=j) k (by omega) (by omega)
 refine⟨fun k k0 hk hne _=> ?_,fun c c0 hc hcp _=> ?_⟩
 ·rw[hE k,hE (par k),if_neg hne]
  have hpk:=par_lt k0
  by_cases e1:k=j
  ·subst e1
   rw[if_pos rfl,if_pos hp]
   exact Ent.less_asymm hs
  ·rw[if_neg e1]
   by_cases e2:k=i
   ·subst e2
    rw[if_pos rfl,if_neg (by omega)]
    exact h.kid j hj0 hj hp k0
   ·rw[if_neg e2]
    by_cases e3:par k=i
    ·rw[if_pos e3]
     exact hm k k0 hk e3
    ·rw[if_neg e3]
     exact h.ok k k0 hk e3 (fun e=>absurd e e2)
 ·have hcj:j<c:=by have:=par_lt c0;omega
  have e1:en (swp L i j) c=en L c:=by rw[hE c,if_neg (by omega),if_neg (by omega)]
  have e2:en (swp L i j) (par j)=en L j:=by rw[hE (par j),if_neg (by omega),if_pos hp]
  rw[e1,e2]
  have:=h.ok c c0 hc (by rw[hcp];omega) (fun e=>by omega)
  rw[hcp]at this
  exact this
theorem heap_set {L:List Ent} {n i:Nat} {x:Ent} (h:Heap L n) (hi:i<n) (hl:n≤L.length):HeapD (L.set i x) n i False:=by
 have hE:=fun k=>en_set (L:=L) (i:=i) (x:=x) k (by omega)
 refine⟨fun k k0 hk hne hg=> ?_,fun c c0 hc hcp hi0=> ?_⟩
 ·rw[hE k,hE (par k),if_neg hne,if_neg (fun e=>hg e)]
  exact h k k0 hk
 ·have hci:c≠i:=by have:=par_lt c0;omega
  have hpi:par i≠i:=by have:=par_lt hi0;omega
  rw[hE c,hE (par i),if_neg hci,if_neg hpi]
  have h1:=h c c0 hc
  rw[hcp]at h1
  exact Ent.ge_trans h1 (h i hi0 hi)
theorem heap_last {L:List Ent} {n i:Nat} (h:Heap L (n+1)) (hi:i<n) (hl:n+1≤L.length):HeapD (swp L i n) n i False:=by
 have h2:Heap L n:=fun k k0 hk=>h k k0 (by omega)
 have h3:=heap_set (x:=en L n) h2 hi (by omega)
 have hE:=fun k=>en_set (L:=L) (i:=i) (x:=en L n) k (by omega)
 have hS:=fun k=>en_swp (L:=L) (i:=i) (j:=n) k (by omega) (by omega)
 have same:∀k,k<n→en (swp L i n) k=en (L.set i (en L n)) k:=fun k hk=>by
  rw[hS k,hE k,if_neg (by omega)]
 refine⟨fun k k0 hk hne hg=> ?_,fun c c0 hc hcp hi0=> ?_⟩
 ·rw[same k hk,same (par k) (by have:=par_lt k0;omega)]
  exact h3.ok k k0 hk hne hg
 ·rw[same c hc,same (par i) (by have:=par_lt hi0;omega)]
  exact h3.kid c c0 hc hcp hi0
theorem heap_push {L:List Ent} {x:Ent} (h:Heap L L.length):HeapU (L++ [x]) (L.length+1) L.length:=by
 have hE:∀k,k<L.length→en (L++ [x]) k=en L k:=fun k hk=>by simp[en,List.getD,List.getElem?_append,hk]
 refine⟨fun i i0 hi hne=> ?_,fun c c0 hc hcp _=> ?_⟩
 ·rw[hE i (by omega),hE (par i) (by have:=par_lt i0;omega)]
  exact h i i0 (by omega)
 ·have:=par_lt c0;unfold par at *;omega
theorem Heap.min {L:List Ent} {n:Nat} (h:Heap L n):∀i,i<n→¬(en L i).less (en L 0)=true:=by
 intro i
 induction i using Nat.strongRecOn with
 | _ i ih=>
  intro hi
  rcases Nat.eq_zero_or_pos i with h0 | h0
  ·subst h0;exact Ent.not_self _
  ·have hp:=par_lt h0
   exact Ent.ge_trans (h i h0 hi) (ih (par i) hp (by omega))
theorem Heap.zero (L:List Ent):Heap L 0:=fun i _ h=>by omega
theorem Heap.less {L:List Ent} {n m:Nat} (h:Heap L n) (hm:m≤n):Heap L m:=fun i i0 hi=>h i i0 (by omega)
def Once (L:List Ent):Prop:=∀i j,i<L.length→j<L.length→(en L i).place=(en L j).place→i=j
def agL (L:List Ent) (p:Int):Option (Int×Int):=(L.find? (fun e=>decide (e.place=p))).map (fun e=>(e.order,e.out))
theorem agL_some {L:List Ent} (h:Once L) {p o d:Int}:agL L p=some (o,d)↔∃i,i<L.length∧en L i=⟨p,o,d⟩:=by
 unfold agL
 rw[Option.map_eq_some_iff]
 constructor
 ·rintro⟨e,he,h1⟩
  obtain⟨h2,i,hi,h3,_⟩:=List.find?_eq_some_iff_getElem.1 he
  refine⟨i,hi,?_⟩
  rw[←en_get hi,h3]
  obtain⟨a,b,c⟩:=e
  simp at h2 h1
  rw[h2,h1.1,h1.2]
 ·rintro⟨i,hi,h1⟩
  refine⟨⟨p,o,d⟩,List.find?_eq_some_iff_getElem.2 ⟨by simp,i,hi,by rw[en_get hi,h1],fun j hj=> ?_⟩,rfl⟩
  rw[en_get (by omega)]
  simp only[Bool.not_eq_true',decide_eq_false_iff_not]
  intro e
  have:=h j i (by omega) hi (by rw[h1];exact e)
  omega
theorem agL_none {L:List Ent} {p:Int}:agL L p=none↔∀i,i<L.length→(en L i).place≠p:=by
 unfold agL
 rw[Option.map_eq_none_iff,List.find?_eq_none]
 constructor
 ·intro h i hi e
  have:=h (en L i) (List.mem_of_getElem? (en_eq hi))
  simp at this
  exact this e
 ·intro h x hx
  obtain⟨i,hi,rfl⟩:=List.getElem_of_mem hx
  rw[en_get hi]
  simpa using h i hi
def atL (L:List Ent) (p:Int):Option Int:=(L.findIdx? (fun e=>decide (e.place=p))).map (fun(i:Nat)=>(i:Int))
theorem atL_some {L:List Ent} (h:Once L) {p:Int} {i:Nat}:atL L p=some (i:Int)↔i<L.length∧(en L i).place=p:=by
 unfold atL
 rw[Option.map_eq_some_iff]
 constructor
 ·rintro⟨k,hk,e⟩
  obtain rfl:k=i:=by omega
  obtain⟨h1,h2,_⟩:=List.findIdx?_eq_some_iff_getElem.1 hk
  rw[en_get h1]at h2
  exact⟨h1,by simpa using h2⟩
 ·rintro⟨h1,h2⟩
  refine⟨i,List.findIdx?_eq_some_iff_getElem.2 ⟨h1,by rw[en_get h1];simpa using h2,fun j hj=> ?_⟩,rfl⟩
  rw[en_get (by omega)]
  simp only[decide_eq_true_eq]
  intro e
  have:=h j i (by omega) h1 (by rw[h2];exact e)
  omega
theorem atL_none {L:List Ent} {p:Int}:atL L p=none↔∀i,i<L.length→(en L i).place≠p:=by
 unfold atL
 rw[Option.map_eq_none_iff,List.findIdx?_eq_none_iff]
 constructor
 ·intro h i hi e
  have:=h (en L i) (List.mem_of_getElem? (en_eq hi))
  simp at this
  exact this e
 ·intro h x hx
  obtain⟨i,hi,rfl⟩:=List.getElem_of_mem hx
  rw[en_get hi]
  simpa using h i hi
open Go.RowKit Go.Maps Go.ChangeMaps Go.WideMaps
set_option linter.unusedSimpArgs false
section
variable {P:Program} {k t e:TypeId} {α:Type} {V:KeyView P k α}
def MapKS (V:KeyView P k α) (e:TypeId) (w:World) (mb sz:Nat) (f:α→Option Int) (st:α→Nat):Prop:=
 ∃es clock,w.heap[mb]?=some (.map es clock)∧MapK V e w mb sz f∧∀s,V.ok s→(f s).isSome=true→∃x∈es.toList,x.key=V.val s∧st s=x.born
theorem MapKS.rep {w:World} {mb sz:Nat} {f:α→Option Int} {st:α→Nat} (h:MapKS V e w mb sz f st):MapK V e w mb sz f:=let ⟨_,_,_,h1,_⟩:=h;h1
theorem MapK.stamped (ht:P.underlying t=some (.map k e)) (he:P.underlying e=some (.int .i64)) (hz:∀w:World,(zeroValue e).run P w= .ok (.int .i64 0) w) {w:World} {mb sz:Nat} {f:α→Option Int} (h:MapK V e w mb sz f):∃st,MapKS V e w mb sz f st:=by
 have hm:=h
 obtain⟨D,h1,h2,h3,h4⟩:=h
 have h1':=h1
 obtain⟨es,clock,hb,F,hsz,hD⟩:=h1
 have key:∀s,V.ok s→(f s).isSome=true→∃x∈es.toList,x.key=V.val s:=fun s hs hf=>by
  rcases V.keyed.find w (V.key s hs) es.toList F.keys with⟨hn,_⟩ | ⟨j,e0,h5,h6,h7⟩
  ·obtain⟨v,ps,hrun,_⟩:=h1'.look_ok V.keyed ht (hz w) (plainElem_int he (by decide)) (V.key s hs)
   rw[(h4 s hs).1,hf]at hrun
   simp[Instr.lookup,run_underlying ht,MapKept.run_getObj_map hb,V.keyed.check w _ (V.key s hs),hn,hz w,Result.andThen]at hrun
  ·exact⟨e0,List.mem_of_getElem? (show es.toList[j]?=some e0 from h6),h7⟩
 refine⟨fun s=>open Classical in if h:∃x∈es.toList,x.key=V.val s then h.choose.born else 0,es,clock,hb,hm,fun s hs hf=> ?_⟩
 have h8:=key s hs hf
 refine⟨h8.choose,h8.choose_spec.1,h8.choose_spec.2,?_⟩
 simp only[dif_pos h8]
theorem MapKS.find {w:World} {mb sz:Nat} {f:α→Option Int} {es:Array MapEntry} {clock:Nat} (hb:w.heap[mb]?=some (.map es clock)) (h:MapK V e w mb sz f) {s:α} (hs:V.ok s) {x:MapEntry} (hxm:x∈es.toList) (hxk:x.key=V.val s):
  (es.toList.map (·.born)).Nodup∧∃j,es[j]?=some x∧∀W:World,(Instr.findKey k (V.val s) es.toList).run P W= .ok (some (j,x.val)) W:=by
 obtain⟨D,⟨es',clock',hb',F,hsz,hD⟩,_⟩:=h
 rw[hb]at hb'
 cases hb'
 obtain⟨j,hj⟩:∃j,es[j]?=some x:=by
  obtain⟨j,hj,rfl⟩:=List.getElem_of_mem hxm
  exact⟨j,by simp at hj;exact Array.getElem?_eq_getElem hj⟩
 have hjl:=(Array.getElem?_eq_some_iff.1 hj).1
 have hnd:=F.stamped.2.2
 refine⟨F.stamped.2.1,j,hj,fun W=> ?_⟩
 rcases V.keyed.find W (V.key s hs) es.toList F.keys with⟨_,h2⟩ | ⟨j',e0,h1,h2,h3⟩
 ·exact absurd hxk (h2 x hxm)
 ·have hjj:j'=j:=by
   have hj':es[j']?=some e0:=by simpa using h2
   have hjl':=(Array.getElem?_eq_some_iff.1 hj').1
   rcases Nat.lt_trichotomy j' j with h4 | h4 | h4
   ·have:=(List.pairwise_iff_getElem.1 hnd) j' j (by simpa using hjl') (by simpa using hjl) h4
    simp only[List.getElem_map,Array.getElem_toList]at this
    rw[(Array.getElem?_eq_some_iff.1 hj).2,(Array.getElem?_eq_some_iff.1 hj').2,hxk,h3]at this
    exact absurd rfl this
   ·exact h4
   ·have:=(List.pairwise_iff_getElem.1 hnd) j j' (by simpa using hjl) (by simpa using hjl') h4
    simp only[List.getElem_map,Array.getElem_toList]at this
    rw[(Array.getElem?_eq_some_iff.1 hj).2,(Array.getElem?_eq_some_iff.1 hj').2,hxk,h3]at this
    exact absurd rfl this
  subst hjj
  have hj':es[j']?=some e0:=by simpa using h2
  rw[hj]at hj'
  cases hj'
  exact h1
theorem setBlock_same {W:World} {mb:Nat} {o:Obj} (h:W.heap[mb]?=some o):ChangeMaps.setBlock W mb o=W:=by
 have e:W.heap.setIfInBounds mb o=W.heap:=by
  apply Array.ext_getElem?
  intro i
  rw[Array.getElem?_setIfInBounds]
  split
  ·rename_i h1
   subst h1
   rw[if_pos (Array.getElem?_eq_some_iff.1 h).1,h]
  ·rfl
 unfold ChangeMaps.setBlock
 rw[e]
theorem MapKS.entry (ht:P.underlying t=some (.map k e)) (he:P.underlying e=some (.int .i64)) (hz:∀w:World,(zeroValue e).run P w= .ok (.int .i64 0) w) {w:World} {mb sz:Nat} {f:α→Option Int} {st:α→Nat} (h:MapKS V e w mb sz f st) {s:α} (hs:V.ok s) {c:Int} (hf:f s=some c):
  (Instr.mapEntry t (.map (some mb)) (V.val s)).run P w= .ok (.tuple #[.int .i64 c,goInt (st s)]) w:=by
 obtain⟨es,clock,hb,hm,hst⟩:=h
 obtain⟨x,hxm,hxk,hxs⟩:=hst s hs (by rw[hf];rfl)
 obtain⟨hnd,j,hj,hfind⟩:=MapKS.find hb hm hs hxm hxk
 have hjl:=(Array.getElem?_eq_some_iff.1 hj).1
 have hkey:=V.key s hs
 have hmod:es.modify j (fun e=>{e with key:=V.val s})=es:=by
  apply Array.ext
  ·simp
  ·intro i h1 h2
   rw[Array.getElem_modify]
   split
   ·subst i
    have:es[j]=x:=(Array.getElem?_eq_some_iff.1 hj).2
    rw[this,←hxk]
   ·rfl
 have hstay:∀W:World,(Instr.keyThatStays x.key (V.val s)).run P W= .ok (V.val s) W:=fun W=>by
  rw[hxk]
  exact V.keyed.stays W hkey
 have hg:=MapK.get (s:=s) ht he hz hm hs
 have hv:x.val= .int .i64 c:=by
  rw[hf]at hg
  simp[Instr.lookup,run_underlying ht,MapKept.run_getObj_map hb,V.keyed.check w _ hkey,hfind,Result.andThen]at hg
  exact hg
 have hsame:({w with heap:=w.heap.setIfInBounds mb (.map es clock)}:World)=w:=setBlock_same hb
 simp[Instr.mapEntry,run_underlying ht,MapKept.run_getObj_map hb,V.keyed.check w false hkey,hfind w,hstay w,hmod,MapKept.run_setObj_map _ hb,Result.andThen,hj,hsame,hv,hxs,ChangeMaps.setBlock]
theorem MapKS.store [DecidableEq α] (ht:P.underlying t=some (.map k e)) (he:P.underlying e=some (.int .i64)) {w:World} {mb sz:Nat} {f:α→Option Int} {st:α→Nat} (h:MapKS V e w mb sz f st) {s:α} (hs:V.ok s) (hf:(f s).isSome=true) {c:Int} (hc:(Lit.int .i64 c).wf=true) (hn:sz<maxLen):
  ∃o,(Instr.entryStore t (.map (some mb)) (goInt (st s)) (.int .i64 c)).run P w= .ok () (ChangeMaps.setBlock w mb o)∧MapKS V e (ChangeMaps.setBlock w mb o) mb sz (fun t=>if t=s then some c else f t) st:=by
 obtain⟨es,clock,hb,hm,hst⟩:=h
 obtain⟨x,hxm,hxk,hxs⟩:=hst s hs hf
 obtain⟨hnd,j,hj,hfind⟩:=MapKS.find hb hm hs hxm hxk
 have hjl:=(Array.getElem?_eq_some_iff.1 hj).1
 have hkey:=V.key s hs
 have hstay:∀W:World,(Instr.keyThatStays x.key (V.val s)).run P W= .ok (V.val s) W:=fun W=>by
  rw[hxk]
  exact V.keyed.stays W hkey
 have hmod2:(es.modify j fun e=>{e with key:=V.val s,val:= .int .i64 c})=es.modify j (fun e=>{e with val:= .int .i64 c}):=by
  apply Array.ext
  ·simp
  ·intro i h1 h2
   rw[Array.getElem_modify,Array.getElem_modify]
   split
   ·subst i
    have:es[j]=x:=(Array.getElem?_eq_some_iff.1 hj).2
    rw[this,←hxk]
   ·rfl
 obtain⟨w',hrun,hm',hg'⟩:=MapK.update (s:=s) ht he hm hs hc hn
 have hrun2:(Instr.mapUpdate t (.map (some mb)) (V.val s) (.int .i64 c)).run P w= .ok () (ChangeMaps.setBlock w mb (.map (es.modify j (fun e=>{e with val:= .int .i64 c})) clock)):=by
  simp[Instr.mapUpdate,run_underlying ht,MapKept.run_getObj_map hb,V.keyed.check w false hkey,hfind w,hj,hstay w,hmod2,MapKept.run_setObj_map _ hb,Result.andThen,ChangeMaps.setBlock]
 rw[hrun]at hrun2
 have hw':w'=_:=(Result.ok.inj hrun2).2
 subst hw'
 refine⟨.map (es.modify j (fun e=>{e with val:= .int .i64 c})) clock,?_,_,_,heap_setBlock_same hb _,by rw[hf]at hm';exact hm',fun s' hs' hf'=> ?_⟩
 ·rw[hxs]
  simp[Instr.entryStore,MapKept.run_getObj_map hb,MapKept.run_setObj_map _ hb,Result.andThen,ChangeMaps.setBlock,goInt,asInt,asIntOf,findIdx_nodup hnd hj]
 ·have hf2:(f s').isSome=true:=by
   by_cases e1:s'=s
   ·subst e1;exact hf
   ·simpa[e1]using hf'
  obtain⟨x',hxm',hxk',hxs'⟩:=hst s' hs' hf2
  obtain⟨i,hi,rfl⟩:=List.getElem_of_mem hxm'
  simp only[Array.length_toList]at hi
  refine⟨(es.modify j (fun e=>{e with val:= .int .i64 c}))[i]'(by simpa using hi),Array.getElem_mem_toList _,?_,?_⟩
  ·rw[Array.getElem_modify]
   split<;>simpa using hxk'
  ·rw[Array.getElem_modify]
   split<;>simpa using hxs'
theorem MapK.del [DecidableEq α] (ht:P.underlying t=some (.map k e)) {w:World} {mb sz:Nat} {f:α→Option Int} (h:MapK V e w mb sz f) {s:α} (hs:V.ok s) (ty:TypeId):
  ∃w',(Builtin.delete_ #[t,k] ty #[.map (some mb),V.val s]).run P w= .ok (.tuple #[]) w'∧MapK V e w' mb (if(f s).isSome then sz-1 else sz) (fun t=>if t=s then none else f t)∧w.mapTurned w' mb:=by
 obtain⟨D,h1,h2,h3,h4⟩:=h
 obtain⟨w',hrun,hown,hturn⟩:=h1.drop V.keyed ht (V.key s hs) ty
 have e1:size (D.del (V.lit s))=if(f s).isSome then sz-1 else sz:=by
  have:=size_del (k:=V.lit s) h2
  rw[(h4 s hs).1,h3]at this
  split at this<;>simp_all<;>omega
 refine⟨w',hrun,⟨D.del (V.lit s),?_,h2.del _,e1,fun t ht'=> ?_⟩,hturn⟩
 ·have:=ownsMapK_size hown
  rw[e1]at this
  exact this
 ·by_cases e2:t=s
  ·subst e2
   simp only[if_true,Option.isSome_none]
   exact⟨has_del_same,fun c' hc'=>by cases hc'⟩
  ·have hne:V.lit t≠V.lit s:=fun h=>e2 (V.inj t s ht' hs h)
   simp only[e2,if_false]
   rw[has_del_other hne]
   exact⟨(h4 t ht').1,fun c' hc'=>by rw[atKey_del_other hne];exact(h4 t ht').2 c' hc'⟩
theorem MapK.getOk (ht:P.underlying t=some (.map k e)) (he:P.underlying e=some (.int .i64)) (hz:∀w:World,(zeroValue e).run P w= .ok (.int .i64 0) w) {w:World} {mb sz:Nat} {f:α→Option Int} (h:MapK V e w mb sz f)
  {s:α} (hs:V.ok s):(Instr.lookup t (.map (some mb)) (V.val s) true).run P w= .ok (.tuple #[.int .i64 ((f s).getD 0), .bool (f s).isSome]) w:=by
 obtain⟨D,h1,h2,h3,h4⟩:=h
 obtain⟨v,ps,hrun,hv⟩:=h1.look_ok V.keyed ht (hz w) (plainElem_int he (by decide)) (V.key s hs)
 obtain⟨c,rfl,hc,_⟩:=plainElem_int_inv he hv
 have hat:=congrArg Prod.fst hc
 have hh:=h4 s hs
 rw[hh.1]at hrun
 have hcc:c=(f s).getD 0:=by
  cases hf:f s with
  | none=>
   rw[hf]at hh
   rw[atKey_of_not_has (by simpa using hh.1)]at hat
   simpa using hat.symm
  | some c'=>
   have:=hh.2 c' hf
   rw[this]at hat
   simpa using hat.symm
 rw[←hcc]
 exact hrun
end
section
variable {α:Type} {enc:α→List Value} {s:Nat} {e:TypeId}
theorem wpList_flat_lies {P:Program} {w:World} {ops:Array Oper} {rest:List Oper} {o:Oper} {a:Act} {Q:Exit→Act→World→Prop} (hgd:o.guard= .none) (y x:Operand) (t:TypeId)
  (ho:o.op= .call {callee:= .builtin .append,args:=#[y,x],argTypes:=#[t,t]})
  {base:Nat} (i:TypeInfo) (z:Value) (bytes:Nat) (ht:P.underlying t=some (.slice e)) (hi:P.info? e=some i) (hz:i.zero=some z)
  (hsize:i.size=s) (hby:i.bytes=bytes) (hzs:z.cells.size=s) (hs:∀x,(enc x).length=s) (h0:0<s) (hone:∀x,∀u∈enc x,u.oneCell'=true)
  {v:Value} {L M:List α} (hy:a.eval y=v) (hown:OwnF enc s e w base v L)
  {ad:Addr} {m c:Nat} (hx:a.eval x= .slice (some ad) m c) (hl:SlF s w (some ad) m c (flat enc M)) (hm:0<m)
  (h63:L.length+m≤maxLen) (hbytes:(L.length+m)*bytes≤140737488355328) (hbase:base≤w.heap.size) {H:Nat} (hH:w.heap.size=H)
  (h:∀g cap w',OwnF enc s e w' base (.slice (some ⟨g,0,none⟩) (L.length+m) cap) (L++M)→w.grownBy w' v.ownBlock→(v.ownBlock=some g∨g=H)→Below base w w'→wpList P ops Q rest (a.put o.dst (.slice (some ⟨g,0,none⟩) (L.length+m) cap)) w'):wpList P ops Q (o::rest) a w:=by
 have hM:=hl.count hs h0
 have hlt:=World.ownsRow.lt hown
 refine wpList_append_lies w hgd y x t ho base e i z s bytes ht hi hz hsize hby hzs h0 v L.length _ hy hown ad m c (flat enc M) hx (by rw[flat_len hs,hM]) ?_ ?_ hm h63 hbytes hbase H hH (fun g cap w' h1 h2 h3 h4=>h g cap w' ?_ h2 h3 ?_)
 ·intro j u hu
  obtain⟨b,of,e,hc⟩:=hl.at_ j u hu
  obtain rfl:=Option.some.inj e
  rw[Addr.add_lit];exact hc
 ·intro u hu
  obtain⟨q,_,hq⟩:=List.mem_flatMap.1 hu
  exact hone q u hq
 ·unfold OwnF;rw[List.length_append,hM,flat_append];exact h1
 ·exact(Below.refl _ _).grown h2 hbase fun k hk=>(hlt k hk).1
end
theorem wpList_slice_low_at {P:Program} {w:World} {ops:Array Oper} {rest:List Oper} {o:Oper} {a:Act} {Q:Exit→Act→World→Prop} (hgd:o.guard= .none) (t:TypeId) (x l:Operand)
  (ho:o.op= .slice t x (some l) .none .none) (e:TypeId) (i:TypeInfo) (ht:P.underlying t=some (.slice e)) (hi:P.info? e=some i) (hsz:i.size=1)
  (ao:Option Addr) (n cap:Nat) (hx:a.eval x= .slice ao n cap) (hle:n≤cap) (kl:IntKind) (L:Int) (k:Nat) (hl:a.eval l= .int kl L) (hL:L=(k:Int)) (hk:k≤n)
  (h:∀ao',(∀W vs,Sl W ao n cap vs→Sl W ao' (n-k) (cap-k) (vs.drop k))→wpList P ops Q rest (a.put o.dst (.slice ao' (n-k) (cap-k))) w):wpList P ops Q (o::rest) a w:=by
 subst hL
 refine wpList_val hgd (v:= .slice (if cap=k then ao else ao.map (·.add k)) (n-k) (cap-k)) (w':=w) ?_ (h _ (fun W vs hS=>hS.drop hk))
 have hr:=run_sliceAt_lh ht hi w ao n cap (some (.int kl k)) .none k n (fun w=>by simp[Instr.sliceBounds,run_sliceBound,hk])
 simp only[execOp,ho,hx,hl,Option.map_some,Option.map_none,Sem.run_bind,hr,Result.andThen_ok,Sem.run_pure,hsz,Nat.mul_one]
def Ent.enc (e:Ent):List Value:=[.int .i64 e.place, .int .i64 e.order, .int .i64 e.out]
theorem Ent.enc_len (e:Ent):e.enc.length=3:=rfl
theorem Ent.enc_one (e:Ent):∀v∈e.enc,v.oneCell'=true:=by
 intro v hv
 simp[Ent.enc]at hv
 rcases hv with rfl | rfl | rfl<;>rfl
theorem infoEnt:(Tryz.prog.info? 186).map (fun i=>(i.zero.map (·.cells.size),i.size,i.bytes))=some (some 3,3,24):=by kernel_rfl
noncomputable def iV:KeyView Tryz.prog 3 Int:=intView Tryz.underlying3
theorem zeroI (w:World):(zeroValue 3).run Tryz.prog w= .ok (.int .i64 0) w:=by kernel_rfl
structure PileV (w:World) (base g mb:Nat) (v:Value) (L:List Ent):Prop where
 box:w.heap[g]?=some (.cells #[v, .map (some mb)] 214)
 row:OwnF Ent.enc 3 186 w base v L
 at_:MapK iV 3 w mb L.length (atL L)
 once:Once L
 ok:∀e∈L,-9223372036854775808≤e.place∧e.place≤9223372036854775807
 far:∀q,v.ownBlock=some q→q≠g∧q≠mb
 lo:base≤g∧base≤mb∧g≠mb
 small:L.length≤1048576
theorem box2p {w:World} {g:Nat} {a b:Value} {t:TypeId} (h:w.heap[g]?=some (.cells #[a,b] t)):w.cell? ⟨g,0,none⟩=some a∧w.cell? ⟨g,1,none⟩=some b∧∀o,w.frozen? ⟨g,o,none⟩=false:=by
 simp[World.cell?,World.frozen?,h]
theorem PileV.stay {w w':World} {base g mb:Nat} {v:Value} {L:List Ent} (h:PileV w base g mb v L) (hk:∀q,q<w.heap.size→w'.heap[q]?=w.heap[q]?):PileV w' base g mb v L:=
 ⟨(hk _ (Array.getElem?_eq_some_iff.1 h.box).1).trans h.box,own_stay h.row (fun q hq=>hk q (World.ownsRow.lt h.row q hq).2),h.at_.stay (hk _ h.at_.lt),h.once,h.ok,h.far,h.lo,h.small⟩
theorem PileV.below {w w':World} {base g mb:Nat} {v:Value} {L:List Ent} (h:PileV w base g mb v L) (hb:Below w.heap.size w w'):PileV w' base g mb v L:=h.stay (fun q hq=>hb.block q hq)
theorem pileLen_calls {base g mb:Nat} {v:Value} {L:List Ent} (w:World) (h:PileV w base g mb v L):
  Calls Tryz.prog 174 #[.pointer (some ⟨g,0,none⟩)] w fun e w'=>e= .returned (.int .i64 L.length)∧w=w':=by
 obtain⟨ro,rc,rfl,_⟩:=h.row.sl
 obtain⟨b0,b1,bf⟩:=box2p h.box
 clear h
 generalize L.length=n at *
 go_enter Tryz.func174,Tryz.ntmps174
 go_wp2_with (fail)
 go_ret
 exact⟨rfl,rfl⟩
theorem below_two {w:World} (x y:Obj):Below w.heap.size w ((w.alloc x).alloc y).drew:=
 ((below_alloc w x).trans (Below.mono (below_alloc _ y) (below_alloc w x).size)).drew
theorem pileLess_calls {base g mb:Nat} {v:Value} {L:List Ent} (i j:Nat) (w:World) (h:PileV w base g mb v L) (hi:i<L.length) (hj:j<L.length):
  Calls Tryz.prog 212 #[.pointer (some ⟨g,0,none⟩), .int .i64 i, .int .i64 j] w fun e w'=>e= .returned (.bool ((en L i).less (en L j)))∧Below w.heap.size w w':=by
 obtain⟨ro,rc,rfl,hsl⟩:=h.row.sl
 obtain⟨b0,b1,bf⟩:=box2p h.box
 obtain⟨b,o,hao,hci⟩:=hsl.elem Ent.enc_len (by omega) (en_eq hi)
 obtain⟨b',o',hao',hcj⟩:=hsl.elem Ent.enc_len (by omega) (en_eq hj)
 subst hao
 simp only[Option.some.injEq,Addr.mk.injEq,and_true]at hao'
 obtain⟨rfl,rfl⟩:=hao'
 have hsm:=h.small
 obtain⟨x,hx⟩:∃x,en L i=x:=⟨_,rfl⟩
 obtain⟨y,hy⟩:∃y,en L j=y:=⟨_,rfl⟩
 rw[hx]at hci ⊢
 rw[hy]at hcj ⊢
 have d0:=hci 0 _ rfl
 have d1:=hci 1 _ rfl
 have d2:=hci 2 _ rfl
 have e0:=hcj 0 _ rfl
 have e1:=hcj 1 _ rfl
 have e2:=hcj 2 _ rfl
 rw[Nat.add_zero]at d0 e0
 have gi:(i:Int)<(L.length:Int):=by omega
 have gj:(j:Int)<(L.length:Int):=by omega
 have gi0:(0:Int)≤(i:Int):=by omega
 have gj0:(0:Int)≤(j:Int):=by omega
 have HL:Hid (x.less y=(decide (x.order<y.order) || (decide (x.order=y.order) && decide (x.place<y.place)))):=Lib.hid rfl
 obtain⟨n,hn⟩:∃n,L.length=n:=⟨_,rfl⟩
 rw[hn]at gi gj b0 hsm
 clear h hsl hci hcj hx hy hi hj hn
 go_enter Tryz.func212,Tryz.ntmps212
 go_wp2_with (fail)
 go_region_held3 (fun w'=>w'.cell? ⟨g,0,none⟩=some (.slice (some ⟨b,o,none⟩) n rc)∧w'.cell? ⟨b,o+i*3,none⟩=some (.int .i64 x.place)∧w'.cell? ⟨b,o+i*3+1,none⟩=some (.int .i64 x.order)∧w'.cell? ⟨b,o+i*3+2,none⟩=some (.int .i64 x.out)∧w'.cell? ⟨b,o+j*3,none⟩=some (.int .i64 y.place)∧w'.cell? ⟨b,o+j*3+1,none⟩=some (.int .i64 y.order)∧w'.cell? ⟨b,o+j*3+2,none⟩=some (.int .i64 y.out)) (first | assumption | go_keep) (fail)
 all_goals
  by_cases h1:x.order<y.order
  ·go_wp2_with (fail)
   go_ret
   exact⟨by rw[HL.out];simp[h1],by exact below_two _ _⟩
  ·by_cases h2:x.order=y.order
   ·by_cases h3:x.place<y.place
    ·go_wp2_with (fail)
     go_ret
     exact⟨by rw[HL.out];simp[h2,h3],by exact below_two _ _⟩
    ·go_wp2_with (fail)
     go_ret
     exact⟨by rw[HL.out];simp[h2,h3],by exact below_two _ _⟩
   ·go_wp2_with (fail)
    go_ret
    exact⟨by rw[HL.out];simp[h1,h2],by exact below_two _ _⟩
end Go.Proofs.YtimkkkdabmhedaaGreatDoor
