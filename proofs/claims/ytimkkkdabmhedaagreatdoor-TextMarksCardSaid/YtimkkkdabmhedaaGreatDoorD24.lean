/- Walks: the agenda: New, Len, Put, Drop, Take. -/
import Derived.Test.YtimkkkdabmhedaaGreatDoorD23
import Derived.Test.YtimkkkdabmhedaaGreatDoorD16
import Derived.Test.YtimkkkdabmhedaaGreatDoorD19
set_option linter.unusedVariables false
set_option maxHeartbeats 2000000
set_option maxRecDepth 100000
namespace Go.Proofs.YtimkkkdabmhedaaGreatDoor
open Go.RowKit Go.ChangeMaps
structure AgV (w:World) (base g mb:Nat) (v:Value) (L:List Ent):Prop where
 pile:PileV w base g mb v L
 heap:Heap L L.length
theorem AgV.below {w w':World} {base g mb:Nat} {v:Value} {L:List Ent} (h:AgV w base g mb v L) (hb:Below w.heap.size w w'):AgV w' base g mb v L:=⟨h.pile.below hb,h.heap⟩
theorem AgV.stay {w w':World} {base g mb:Nat} {v:Value} {L:List Ent} (h:AgV w base g mb v L) (hk:∀q,q<w.heap.size→w'.heap[q]?=w.heap[q]?):AgV w' base g mb v L:=⟨h.pile.stay hk,h.heap⟩
theorem aLen_calls {base g mb:Nat} {v:Value} {L:List Ent} (w:World) (h:AgV w base g mb v L):
  Calls Tryz.prog 152 #[.pointer (some ⟨g,0,none⟩)] w fun e w'=>e= .returned (.int .i64 L.length)∧w=w':=by
 have HL:=Lib.hid (pileLen_calls w h.pile)
 clear h
 go_enter Tryz.func152,Tryz.ntmps152
 go_wp2_with (go_at_call 174;refine HL.out.mono ?_;rintro e w1 ⟨rfl,rfl⟩)
 go_ret
 exact⟨rfl,rfl⟩
theorem atL_nil:atL []=fun _=>none:=by funext p;rfl
theorem pile_new (w:World) (base:Nat) (hb:base≤w.heap.size):AgV ((w.alloc (.map #[] 0)).alloc (.cells #[.slice none 0 0, .map (some w.heap.size)] 214)) base (w.heap.size+1) w.heap.size (.slice none 0 0) []:=by
 refine⟨⟨?_,OwnF.nil _ _,?_,fun i j hi=>by simp at hi,fun e he=>by simp at he,fun q hq=>by simp[Value.ownBlock]at hq,⟨by omega,hb,by omega⟩,by simp⟩,Heap.zero []⟩
 ·have:=heap_alloc_new (w.alloc (.map #[] 0)) (.cells #[.slice none 0 0, .map (some w.heap.size)] 214)
  simpa using this
 ·refine MapK.below ?_ (below_alloc _ _)
  rw[atL_nil]
  exact MapK.new iV 3 w
theorem aNew_calls (w:World):
  Calls Tryz.prog 121 #[] w fun e w'=>∃g mb,e= .returned (.pointer (some ⟨g,0,none⟩))∧AgV w' w.heap.size g mb (.slice none 0 0) []∧Below w.heap.size w w'∧w'.heap.size≤w.heap.size+2:=by
 have hmk:=@run_makeMap Tryz.prog
 have HP:=Lib.hid (pile_new w w.heap.size (Nat.le_refl _))
 have HB:Hid (Below w.heap.size w ((w.alloc (.map #[] 0)).alloc (.cells #[.slice none 0 0, .map (some w.heap.size)] 214))):=Lib.hid ((below_alloc w _).trans (Below.mono (below_alloc _ _) (below_alloc w _).size))
 go_enter Tryz.func121,Tryz.ntmps121
 go_wp2_with (fail)
 go_ret
 exact⟨_,_,rfl,HP.out,HB.out,by simp⟩
theorem ent_mem_ok {w:World} {base g mb:Nat} {v:Value} {L:List Ent} (h:PileV w base g mb v L) {x:Ent} {i:Nat} (hi:i<L.length) (hx:(en L i).place=x.place):∀e∈L.set i x,-9223372036854775808≤e.place∧e.place≤9223372036854775807:=fun e he=>by
 rcases(mem_set h.once hi hx e).1 he with rfl | ⟨h1,_⟩
 ·rw[←hx];exact h.ok _ (List.mem_of_getElem? (en_eq hi))
 ·exact h.ok e h1
theorem pile_put {w:World} {base g mb b rc:Nat} {L:List Ent} (h:PileV w base g mb (.slice (some ⟨b,0,none⟩) L.length rc) L) {i:Nat} (hi:i<L.length) {x:Ent} (hx:(en L i).place=x.place):
  PileV (w.setCells b (i*3) x.enc) base g mb (.slice (some ⟨b,0,none⟩) L.length rc) (L.set i x)∧Trod w (w.setCells b (i*3) x.enc) g mb (.slice (some ⟨b,0,none⟩) L.length rc) (.slice (some ⟨b,0,none⟩) L.length rc):=by
 obtain⟨hA,hAg,hAs⟩:=Ent.put h.row hi x
 have hf:=h.far b rfl
 have hgl:=(Array.getElem?_eq_some_iff.1 h.box).1
 have hml:=h.at_.lt
 generalize w.setCells b (i*3) x.enc=W0 at hA hAg hAs ⊢
 have h1:W0.heap[g]?=w.heap[g]? :=hAg.block g hgl (fun e=>hf.1 (Option.some.inj e).symm)
 have h2:W0.heap[mb]?=w.heap[mb]? :=hAg.block mb hml (fun e=>hf.2 (Option.some.inj e).symm)
 refine⟨⟨h1.trans h.box,hA,?_,once_set h.once hi hx,ent_mem_ok h hi hx,h.far,h.lo,by rw[List.length_set];exact h.small⟩,Trod.row hAg⟩
 rw[List.length_set]
 exact(h.at_.stay (w':=W0) h2).congr rfl (fun s _=>(atL_set h.once hi hx s).symm)
def PutP (w:World) (base g mb:Nat) (v:Value) (L:List Ent) (x:Ent) (e:Ending) (w':World):Prop:=
 e= .returned (.tuple #[])∧∃v' L',AgV w' base g mb v' L'∧(∀p,agL L' p=if p=x.place then some (x.order,x.out)else agL L p)∧L'.length≤L.length+1∧Trod w w' g mb v v'
theorem aPut_calls {base g mb:Nat} {v:Value} {L:List Ent} (x:Ent) (w:World) (h:AgV w base g mb v L) (hp: -9223372036854775808≤x.place∧x.place≤9223372036854775807) (hn:L.length+1≤1048576) (hb:base≤w.heap.size):
  Calls Tryz.prog 150 #[.pointer (some ⟨g,0,none⟩), .agg #[.int .i64 x.place, .int .i64 x.order, .int .i64 x.out]] w (PutP w base g mb v L x):=by
 obtain⟨w0,hw0⟩:∃w0,w.alloc (.cells #[.int .i64 x.place, .int .i64 x.order, .int .i64 x.out] 186)=w0:=⟨_,rfl⟩
 have hb0:Below w.heap.size w w0:=hw0▸below_alloc w _
 have hx0:w0.heap[w.heap.size]?=some (.cells #[.int .i64 x.place, .int .i64 x.order, .int .i64 x.out] 186):=by rw[←hw0];exact heap_alloc_new w _
 have h0:=h.below hb0
 have hbb:base≤w0.heap.size:=Nat.le_trans hb hb0.size
 obtain⟨b0,b1,bf⟩:=box2p h0.pile.box
 obtain⟨x0,x1,x2⟩:=box3e hx0
 have hok:iV.ok x.place:=i64_wf.2 hp
 have hlk:∀m,(Instr.lookup 209 (.map (some mb)) (.int .i64 x.place) true).run Tryz.prog (w0.drewN m)= .ok (.tuple #[.int .i64 ((atL L x.place).getD 0), .bool (atL L x.place).isSome]) (w0.drewN m):=fun m=>
  MapK.getOk (V:=iV) Tryz.underlying209 Tryz.underlying3 zeroI (h0.pile.at_.drewN m) hok
 have HW0:=Lib.hid hw0
 have HB0:=Lib.hid hb0
 have HP:=Lib.hid hp
 cases hat:atL L x.place with
 | none=>
  have hx:=atL_none.1 hat
  have HC:=fun(W:World) (hW:Below w0.heap.size w0 W)=>hpush_calls x W (h0.below hW).pile h0.heap hx hp hn (Nat.le_trans hbb hW.size)
  have HCC:=Lib.hid HC
  have HX:=Lib.hid hx
  have HO:=Lib.hid h.pile.once
  rw[hat]at hlk
  simp only[Option.getD_none,Option.isSome_none]at hlk
  clear h0 h hw0 hb0 hx0 hok hp HC hx hat
  go_enter Tryz.func150,Tryz.ntmps150
  go_wp2_with (fail)
  rw[HW0.out]
  go_quiet (fail)
  go_wp2_with (fail)
  go_region_with (go_at_call 171;refine(HCC.out _ (by exact⟨rfl,rfl,rfl,Nat.le_refl _,fun _ _=>rfl⟩)).mono ?_;rintro e w2 ⟨rfl,v2,L2,hP2,hH2,hR2,hT2⟩;have HP2:=Lib.hid hP2;have HH2:=Lib.hid hH2;have HR2:=Lib.hid hR2;have HT2:=Lib.hid hT2;clear hP2 hH2 hR2 hT2)
  all_goals(
   go_wp2_with (fail)
   refine bodyPost_ret (results_none rfl _ _ _) rfl ⟨rfl,v2,L2,⟨HP2.out,?_⟩,fun p=>agL_put HO.out HP2.out.once HX.out HR2.out.mem p,?_,?_⟩
   ·have h1:=HH2.out
    have h2:=HR2.out.len
    rw[List.length_append]at h2
    rw[h2];exact h1
   ·have h2:=HR2.out.len
    rw[List.length_append]at h2
    rw[h2];exact Nat.le_refl _
   ·exact((Trod.of HB0.out).trans (Trod.of (w:=w0) (by exact⟨rfl,rfl,rfl,Nat.le_refl _,fun _ _=>rfl⟩))).trans HT2.out)
 | some c=>
  obtain⟨i,rfl,hi,hpl⟩:=atL_at h.pile.once hat
  rw[hat]at hlk
  simp only[Option.getD_some,Option.isSome_some]at hlk
  obtain⟨b,rc,rfl,hbb,hbl⟩:=h0.pile.row.at0 (by omega)
  have hrow:=h0.pile.row
  have hfr:=Ent.free hrow
  obtain⟨ro,rc',e0,hsl⟩:=hrow.sl
  obtain⟨e1,_,e2⟩:=Value.slice.inj e0
  subst e1 e2
  obtain⟨b',o',hao',hci⟩:=hsl.elem Ent.enc_len (by omega) (en_eq hi)
  simp only[Option.some.injEq,Addr.mk.injEq,and_true]at hao'
  obtain⟨rfl,rfl⟩:=hao'
  simp only[Nat.zero_add]at hci
  have d0:=hci 0 _ rfl
  have d1:=hci 1 _ rfl
  have d2:=hci 2 _ rfl
  rw[Nat.add_zero]at d0
  have gi:(i:Int)<(L.length:Int):=by omega
  have gi0:(0:Int)≤(i:Int):=by omega
  have hPP:=fun(q:Nat)=>pile_put (w:=w0.drewN q) (x:=x) (h0.pile.below (below_drewN (Below.refl _ _) q)) hi hpl
  have hFX:=fun(q:Nat)=>hfix_calls i _ (hPP q).1 (by rw[List.length_set];exact hi) (by rw[List.length_set];exact heap_set h0.heap hi (Nat.le_refl _))
  have HPP:=Lib.hid hPP
  have HFX:=Lib.hid hFX
  have HO:=Lib.hid h.pile.once
  have HI:=Lib.hid hi
  have HPL:=Lib.hid hpl
  obtain⟨n,hn⟩:∃n,L.length=n:=⟨_,rfl⟩
  have HN:=Lib.hid hn
  have HB:=Lib.hid (show∃y,y=en L i from⟨_,rfl⟩)
  obtain⟨y,hy⟩:∃y,en L i=y:=⟨_,rfl⟩
  rw[hy]at d0 d1 d2
  rw[hn]at gi b0 HPP HFX
  clear h0 h hw0 hb0 hx0 hok hp hPP hFX hat hrow hsl hci e0 hi hpl hn hy hbb hbl
  go_enter Tryz.func150,Tryz.ntmps150
  go_wp2_with (fail)
  rw[HW0.out]
  go_quiet (fail)
  go_wp2_with (fail)
  go_region
  all_goals go_wp2_with (fail)
  all_goals(
   go_at_call 172;refine(HFX.out _).mono ?_;rintro e w2 ⟨rfl,L2,hP2,hH2,hR2,hT2⟩;have HP2:=Lib.hid hP2;have HH2:=Lib.hid hH2;have HR2:=Lib.hid hR2;have HT2:=Lib.hid hT2;clear hP2 hH2 hR2 hT2
   go_wp2_with (fail)
   go_end0
   have hl:L2.length=n:=by have:=HR2.out.len;rw[List.length_set]at this;rw[this];exact HN.out
   refine⟨rfl,_,L2,⟨HP2.out,?_⟩,fun p=>agL_set HO.out HP2.out.once HI.out HPL.out HR2.out.mem p,by rw[hl,HN.out];omega,?_⟩
   ·have h1:=HH2.out
    rw[List.length_set,HN.out]at h1
    rw[hl];exact h1
   ·rw[HN.out]
    exact(((Trod.of HB0.out).trans (Trod.of (w:=w0) (by exact⟨rfl,rfl,rfl,Nat.le_refl _,fun _ _=>rfl⟩))).trans (HPP.out _).2).trans HT2.out)
def DropP (w:World) (base g mb:Nat) (v:Value) (L:List Ent) (pl:Int) (e:Ending) (w':World):Prop:=
 (∃t,e= .returned (.bool t))∧∃v' L',AgV w' base g mb v' L'∧(∀p,agL L' p=if p=pl then none else agL L p)∧L'.length≤L.length∧Trod w w' g mb v v'
theorem aDrop_calls {base g mb:Nat} {v:Value} {L:List Ent} (pl:Int) (w:World) (h:AgV w base g mb v L) (hp: -9223372036854775808≤pl∧pl≤9223372036854775807):
  Calls Tryz.prog 151 #[.pointer (some ⟨g,0,none⟩), .int .i64 pl] w (DropP w base g mb v L pl):=by
 obtain⟨b0,b1,bf⟩:=box2p h.pile.box
 have hok:iV.ok pl:=i64_wf.2 hp
 have hlk:(Instr.lookup 209 (.map (some mb)) (.int .i64 pl) true).run Tryz.prog w= .ok (.tuple #[.int .i64 ((atL L pl).getD 0), .bool (atL L pl).isSome]) w:=
  MapK.getOk (V:=iV) Tryz.underlying209 Tryz.underlying3 zeroI h.pile.at_ hok
 have H:=Lib.hid h
 cases hat:atL L pl with
 | none=>
  have hx:=agL_none.2 (atL_none.1 hat)
  have HX:=Lib.hid hx
  rw[hat]at hlk
  simp only[Option.getD_none,Option.isSome_none]at hlk
  clear h hok hp hx hat
  go_enter Tryz.func151,Tryz.ntmps151
  go_wp2_with (fail)
  go_ret
  refine⟨⟨_,rfl⟩,v,L,H.out,fun p=> ?_,Nat.le_refl _,Trod.of (Below.refl _ _)⟩
  by_cases e:p=pl
  ·rw[if_pos e,e];exact HX.out
  ·rw[if_neg e]
 | some c=>
  obtain⟨i,rfl,hi,hpl⟩:=atL_at h.pile.once hat
  rw[hat]at hlk
  simp only[Option.getD_some,Option.isSome_some]at hlk
  obtain⟨n,hn⟩:∃n,L.length=n+1:=⟨L.length-1,by omega⟩
  have HR:=Lib.hid (hremove_calls n i w h.pile h.heap hn (by omega))
  have HN:=Lib.hid hn
  have HPL:=Lib.hid hpl
  clear h hok hp hat hi hpl hn
  go_enter Tryz.func151,Tryz.ntmps151
  go_wp2_with (fail)
  go_at_call 173
  refine HR.out.mono ?_
  rintro e w2 ⟨⟨y,rfl⟩,v2,M,hP2,hH2,hl2,hm2,hT2⟩
  have HP2:=Lib.hid hP2
  have HH2:=Lib.hid hH2
  have HL2:=Lib.hid hl2
  have HM2:=Lib.hid hm2
  have HT2:=Lib.hid hT2
  clear hP2 hH2 hl2 hm2 hT2
  go_wp2_with (fail)
  go_ret
  have hl:=HL2.out
  have hln:=HN.out
  refine⟨⟨_,rfl⟩,v2,M,⟨HP2.out,by rw[hl];exact HH2.out⟩,fun p=> ?_,by omega,HT2.out⟩
  have:=agL_drop H.out.pile.once HP2.out.once (by omega) HM2.out (once_apart H.out.pile.once HP2.out.once (by omega) HM2.out) p
  rw[HPL.out]at this
  exact this
theorem AgV.other {w w':World} {base g mb:Nat} {v:Value} {L:List Ent} (h:AgV w base g mb v L) (hk:∀q,q=g∨q=mb∨v.ownBlock=some q→w'.heap[q]?=w.heap[q]?):AgV w' base g mb v L:=
 ⟨⟨(hk _ (.inl rfl)).trans h.pile.box,own_stay h.pile.row (fun q hq=>hk q (.inr (.inr hq))),h.pile.at_.stay (hk _ (.inr (.inl rfl))),h.pile.once,h.pile.ok,h.pile.far,h.pile.lo,h.pile.small⟩,h.heap⟩
theorem Trod.setNew {w W:World} {g mb:Nat} {v v':Value} (h:Trod w W g mb v v') {b:Nat} (hb:w.heap.size≤b) (i:Nat) (u:Value):Trod w (W.setCell ⟨b,i,none⟩ u) g mb v v':=
 ⟨h.os,h.tape,h.output,by have:=h.size;simpa using this,fun q hq h1 h2 h3=>(heap_setCell_other W ⟨b,i,none⟩ q u (fun(e:q=b)=>by omega)).trans (h.block q hq h1 h2 h3),h.new⟩
def TakeP (w:World) (base g mb:Nat) (v:Value) (L:List Ent) (e:Ending) (w':World):Prop:=
 e= .returned (.tuple #[.agg #[.int .i64 (en L 0).place, .int .i64 (en L 0).order, .int .i64 (en L 0).out], .bool true])∧∃v' L',AgV w' base g mb v' L'∧(∀p,agL L' p=if p=(en L 0).place then none else agL L p)∧L'.length+1=L.length∧Trod w w' g mb v v'
theorem aTake_none {base g mb:Nat} {v:Value} (w:World) (h:AgV w base g mb v []):
  Calls Tryz.prog 123 #[.pointer (some ⟨g,0,none⟩)] w fun e w'=>e= .returned (.tuple #[.agg #[.int .i64 0, .int .i64 0, .int .i64 0], .bool false])∧Below w.heap.size w w':=by
 have HL:Hid (Calls Tryz.prog 152 #[.pointer (some ⟨g,0,none⟩)] (w.alloc (.cells #[.int .i64 0, .int .i64 0, .int .i64 0] 186)) fun e w'=>e= .returned (.int .i64 0)∧(w.alloc (.cells #[.int .i64 0, .int .i64 0, .int .i64 0] 186))=w'):=Lib.hid (aLen_calls _ (h.below (below_alloc w _)))
 obtain⟨x0,x1,x2⟩:=box3e (heap_alloc_new w (.cells #[.int .i64 0, .int .i64 0, .int .i64 0] 186))
 clear h
 go_enter Tryz.func123,Tryz.ntmps123
 go_wp2_with (go_at_call 152;refine HL.out.mono ?_;rintro e w1 ⟨rfl,rfl⟩)
 refine bodyPost_ret (v:= .tuple #[.agg #[.int .i64 0, .int .i64 0, .int .i64 0], .bool false]) ?_ rfl ⟨rfl,below_alloc w _⟩
 simp[results,Tryz.results123,go_sem,x0,x1,x2]
theorem aTake_calls {base g mb:Nat} {v:Value} {L:List Ent} (w:World) (h:AgV w base g mb v L) (h0:0<L.length):
  Calls Tryz.prog 123 #[.pointer (some ⟨g,0,none⟩)] w (TakeP w base g mb v L):=by
 obtain⟨n,hn⟩:∃n,L.length=n+1:=⟨L.length-1,by omega⟩
 obtain⟨x,hx⟩:∃x,en L 0=x:=⟨_,rfl⟩
 have hB1:=below_alloc w (.cells #[.int .i64 0, .int .i64 0, .int .i64 0] 186)
 have hA1:=h.below hB1
 have hlen:=aLen_calls _ hA1
 rw[hn]at hlen
 have hB2:=below_alloc (w.alloc (.cells #[.int .i64 0, .int .i64 0, .int .i64 0] 186)) (.cells #[.int .i64 x.place, .int .i64 x.order, .int .i64 x.out] 186)
 have hA2:=hA1.below hB2
 have hpop:=hpop_calls n _ hA2.pile hA2.heap hn
 obtain⟨w2,hw2⟩:∃w2,(w.alloc (.cells #[.int .i64 0, .int .i64 0, .int .i64 0] 186)).alloc (.cells #[.int .i64 x.place, .int .i64 x.order, .int .i64 x.out] 186)=w2:=⟨_,rfl⟩
 obtain⟨b0,b1,bf⟩:=box2p hA1.pile.box
 obtain⟨b,rc,rfl,hbb,hbl⟩:=hA1.pile.row.at0 (by omega)
 obtain⟨ro,rc',e0,hsl⟩:=hA1.pile.row.sl
 obtain⟨e1,_,e2⟩:=Value.slice.inj e0
 subst e1 e2
 obtain⟨b',o',hao',hci⟩:=hsl.elem Ent.enc_len (by omega) (en_eq (L:=L) (i:=0) (by omega))
 simp only[Option.some.injEq,Addr.mk.injEq,and_true]at hao'
 obtain⟨rfl,rfl⟩:=hao'
 rw[hx]at hci
 simp only[Nat.zero_add,Nat.zero_mul]at hci
 have d0:=hci 0 _ rfl
 have d1:=hci 1 _ rfl
 have d2:=hci 2 _ rfl
 have gn:(0:Int)<((n+1:Nat):Int):=by omega
 rw[hn]at b0
 have HLN:=Lib.hid hlen
 have HX:=Lib.hid hx
 have HN:=Lib.hid hn
 have H:=Lib.hid h
 have HB12:Hid (Below w.heap.size w w2):=Lib.hid (hw2▸hB1.trans (Below.mono hB2 hB1.size))
 have hz1:=heap_alloc_new w (.cells #[.int .i64 0, .int .i64 0, .int .i64 0] 186)
 have hz2:=heap_alloc_new (w.alloc (.cells #[.int .i64 0, .int .i64 0, .int .i64 0] 186)) (.cells #[.int .i64 x.place, .int .i64 x.order, .int .i64 x.out] 186)
 have hz1':=(hB2.block w.heap.size (by simp)).trans hz1
 have hs1:(w.alloc (.cells #[.int .i64 0, .int .i64 0, .int .i64 0] 186)).heap.size=w.heap.size+1:=by simp
 have hs2:w2.heap.size=w.heap.size+2:=by rw[←hw2];simp
 rw[hw2]at hpop hz1' hz2
 rw[hs1]at hz2
 have HPOP:=Lib.hid hpop
 have HZ1:=Lib.hid hz1'
 have HZ2:=Lib.hid hz2
 have HS2:=Lib.hid hs2
 have HW2:=Lib.hid hw2
 have hgl:g<w.heap.size:=(Array.getElem?_eq_some_iff.1 h.pile.box).1
 have hml:mb<w.heap.size:=h.pile.at_.lt
 have hbw:b<w.heap.size:=(World.ownsRow.lt h.pile.row b rfl).2
 have HGL:=Lib.hid (show g<w.heap.size∧mb<w.heap.size∧b<w.heap.size from⟨hgl,hml,hbw⟩)
 clear h h0 hB1 hB2 hA1 hA2 hlen hpop hsl hci hx hn hz1 hz1' hz2 hs1 hs2 hw2 hgl hml hbw e0 hbb hbl
 go_enter Tryz.func123,Tryz.ntmps123
 go_wp2_with (go_at_call 152;refine HLN.out.mono ?_;rintro e w1 ⟨rfl,rfl⟩)
 rw[HW2.out]
 go_at_call 153
 refine HPOP.out.mono ?_
 rintro e w3 ⟨rfl,v3,M,hP3,hH3,hl3,hm3,hT3⟩
 have k0:w3.heap[w.heap.size]?=_:=(hT3.block w.heap.size (by have:=HS2.out;omega) (by have:=HGL.out;omega) (by have:=HGL.out;omega) (by have:=HGL.out;simp only[Value.ownBlock,ne_eq,Option.some.injEq];omega)).trans HZ1.out
 have k1:w3.heap[w.heap.size+1]?=_:=(hT3.block (w.heap.size+1) (by have:=HS2.out;omega) (by have:=HGL.out;omega) (by have:=HGL.out;omega) (by have:=HGL.out;simp only[Value.ownBlock,ne_eq,Option.some.injEq];omega)).trans HZ2.out
 obtain⟨y0,y1,y2⟩:=box3e k0
 obtain⟨z0,z1,z2⟩:=box3e k1
 have yf:∀o,w3.frozen? ⟨w.heap.size,o,none⟩=false:=fun o=>by simp[World.frozen?,k0]
 have HP3:=Lib.hid hP3
 have HH3:=Lib.hid hH3
 have HL3:=Lib.hid hl3
 have HM3:=Lib.hid hm3
 have HT3:=Lib.hid hT3
 have K0:=Lib.hid k0
 clear hP3 hH3 hl3 hm3 hT3 k0 k1
 go_wp2_with (fail)
 have hn:=HN.out
 have hl3:=HL3.out
 have hT0:Trod w w3 g mb (.slice (some ⟨b,0,none⟩) L.length rc) v3:=(Trod.of HB12.out).trans HT3.out
 have hnb:∀q,v3.ownBlock=some q→q≠w.heap.size:=fun q hq e=>by
  rcases HT3.out.new q hq with h1 | h1
  ·have:=HGL.out;simp[Value.ownBlock]at h1;omega
  ·have:=HS2.out;omega
 refine bodyPost_ret (v:= .tuple #[.agg #[.int .i64 x.place, .int .i64 x.order, .int .i64 x.out], .bool true]) ?_ rfl ⟨by rw[HX.out],v3,M,AgV.other (w:=w3) ⟨HP3.out,by rw[hl3];exact HH3.out⟩ ?_,fun p=>agL_drop H.out.pile.once HP3.out.once (by omega) HM3.out (once_apart H.out.pile.once HP3.out.once (by omega) HM3.out) p,by omega,((hT0.setNew (Nat.le_refl _) _ _).setNew (Nat.le_refl _) _ _).setNew (Nat.le_refl _) _ _⟩
 ·simp[results,Tryz.results123,go_sem,y0,y1,y2]
 ·intro q hq
  have hqn:q≠w.heap.size:=by
   have:=HGL.out
   rcases hq with rfl | rfl | hq
   ·omega
   ·omega
   ·exact hnb q hq
  have hk:∀(W:World) (o:Nat) (u:Value),(W.setCell ⟨w.heap.size,o,none⟩ u).heap[q]?=W.heap[q]? :=fun W o u=>heap_setCell_other W ⟨w.heap.size,o,none⟩ q u hqn
  rw[hk,hk,hk]
open Go
def nxtC (C:Ch) (i:Nat):Int:=match C[i+1]? with | some c=>(c.1:Int) | none=> -1
def prvC (C:Ch) (i:Nat):Int:=if i=0 then -1 else match C[i-1]? with | some c=>(c.1:Int) | none=> -1
structure Lnk (n:Nat) (C:Ch) (Rw Lf Rt:List Int):Prop where
 ok:ChOK C
 lt:∀c∈C,c.1<n
 lw:Rw.length=n
 ll:Lf.length=n
 lr:Rt.length=n
 row:∀(i p:Nat) (a:Int),C[i]?=some (p,a)→Rw[p]?=some a
 left:∀(i p:Nat) (a:Int),C[i]?=some (p,a)→Lf[p]?=some (prvC C i)
 right:∀(i p:Nat) (a:Int),C[i]?=some (p,a)→Rt[p]?=some (nxtC C i)
def agI (M:List Mg) (C:Ch) (x:Int):Option (Int×Int):=if 0≤x then agF M C x.toNat else none
theorem agI_nat (M:List Mg) (C:Ch) (p:Nat):agI M C (p:Int)=agF M C p:=by simp[agI]
def leftM (Lf:List Int) (nx:Int) (p:Nat):List Int:=if nx= -1 then Lf else Lf.set nx.toNat p
theorem ch_at_inj {C:Ch} (hc:ChOK C) {i j:Nat} {c d:Nat×Int} (h1:C[i]?=some c) (h2:C[j]?=some d) (e:c.1=d.1):i=j:=by
 have hi:=(List.getElem?_eq_some_iff.1 h1).1
 have hj:=(List.getElem?_eq_some_iff.1 h2).1
 have g1:C[i]=c:=(List.getElem?_eq_some_iff.1 h1).2
 have g2:C[j]=d:=(List.getElem?_eq_some_iff.1 h2).2
 rcases Nat.lt_trichotomy i j with h | h | h
 ·have:=List.pairwise_iff_getElem.1 hc i j hi hj h
  rw[g1,g2]at this;omega
 ·exact h
 ·have:=List.pairwise_iff_getElem.1 hc j i hj hi h
  rw[g1,g2]at this;omega
theorem mergeC_at {pre post:Ch} {p q:Nat} {a b o:Int} (i:Nat):(pre++(p,o)::post)[i]?=if i<pre.length then(pre++(p,a)::(q,b)::post)[i]? else if i=pre.length then some (p,o)else(pre++(p,a)::(q,b)::post)[i+1]? :=by
 by_cases h1:i<pre.length
 ·rw[if_pos h1,List.getElem?_append_left h1,List.getElem?_append_left h1]
 ·rw[if_neg h1,List.getElem?_append_right (by omega)]
  by_cases h2:i=pre.length
  ·rw[if_pos h2];subst h2;simp
  ·rw[if_neg h2,List.getElem?_append_right (by omega)]
   obtain⟨k,rfl⟩:∃k,i=pre.length+(k+1):=⟨i-pre.length-1,by omega⟩
   rw[show pre.length+(k+1)-pre.length=k+1 by omega,show pre.length+(k+1)+1-pre.length=k+2 by omega]
   simp
section
variable {n:Nat} {pre post:Ch} {p q:Nat} {a b:Int} {Rw Lf Rt:List Int}
theorem Lnk.at0 (h:Lnk n (pre++(p,a)::(q,b)::post) Rw Lf Rt):Rw[p]?=some a∧Rt[p]?=some (q:Int)∧p<n∧q<n∧p<q∧Rt[q]?=some (nxtC (pre++(p,a)::(q,b)::post) (pre.length+1))∧Lf[p]?=some (prvC (pre++(p,a)::(q,b)::post) pre.length):=by
 have e0:(pre++(p,a)::(q,b)::post)[pre.length]?=some (p,a):=by simp
 have e1:(pre++(p,a)::(q,b)::post)[pre.length+1]?=some (q,b):=by
  rw[List.getElem?_append_right (by omega)];simp
 refine⟨h.row _ _ _ e0,?_,h.lt _ (List.mem_of_getElem? e0),h.lt _ (List.mem_of_getElem? e1),?_,h.right _ _ _ e1,h.left _ _ _ e0⟩
 ·rw[h.right _ _ _ e0]
  simp only[nxtC,e1]
 ·have:=h.ok
  unfold ChOK at this
  rw[List.pairwise_append]at this
  exact(List.pairwise_cons.1 this.2.1).1 (q,b) (by simp)
theorem Lnk.merged (h:Lnk n (pre++(p,a)::(q,b)::post) Rw Lf Rt) (o nx:Int) (hnx:nx=nxtC (pre++(p,a)::(q,b)::post) (pre.length+1)):
  Lnk n (pre++(p,o)::post) (Rw.set p o) (leftM Lf nx p) (Rt.set p nx):=by
 obtain⟨C,hC⟩:∃C,pre++(p,a)::(q,b)::post=C:=⟨_,rfl⟩
 have hat:=fun i=>mergeC_at (pre:=pre) (post:=post) (p:=p) (q:=q) (a:=a) (b:=b) (o:=o) i
 have hok':ChOK (pre++(p,o)::post):=mergeC_ok (o:=o) h.ok
 have e0:C[pre.length]?=some (p,a):=by rw[←hC];simp
 have e1:C[pre.length+1]?=some (q,b):=by rw[←hC,List.getElem?_append_right (by omega)];simp
 rw[hC]at h hnx
 have hpn:p<n:=h.lt _ (List.mem_of_getElem? e0)
 simp only[hC]at hat
 have old:∀(i x:Nat) (c:Int),(pre++(p,o)::post)[i]?=some (x,c)→i≠pre.length→∃j,C[j]?=some (x,c)∧x≠p∧x≠q∧(i<pre.length→j=i)∧(pre.length<i→j=i+1):=fun i x c hi hne=>by
  rw[hat i]at hi
  by_cases h1:i<pre.length
  ·rw[if_pos h1]at hi
   refine⟨i,hi,fun e=> ?_,fun e=> ?_,fun _=>rfl,fun h2=>by omega⟩
   ·have:=ch_at_inj h.ok hi e0 e;omega
   ·have:=ch_at_inj h.ok hi e1 e;omega
  ·rw[if_neg h1,if_neg hne]at hi
   refine⟨i+1,hi,fun e=> ?_,fun e=> ?_,fun h2=>by omega,fun _=>rfl⟩
   ·have:=ch_at_inj h.ok hi e0 e;omega
   ·have:=ch_at_inj h.ok hi e1 e;omega
 have self:∀(x:Nat) (c:Int),(pre++(p,o)::post)[pre.length]?=some (x,c)→x=p∧c=o:=fun x c hi=>by
  rw[hat,if_neg (by omega),if_pos rfl]at hi
  simp only[Option.some.injEq,Prod.mk.injEq]at hi
  exact⟨hi.1.symm,hi.2.symm⟩
 refine⟨hok',fun c hc=> ?_,by rw[List.length_set];exact h.lw,?_,by rw[List.length_set];exact h.lr,fun i x c hi=> ?_,fun i x c hi=> ?_,fun i x c hi=> ?_⟩
 ·obtain⟨i,hi,rfl⟩:=List.getElem_of_mem hc
  have hi':=List.getElem?_eq_getElem hi
  by_cases hne:i=pre.length
  ·subst hne
   obtain⟨h1,_⟩:=self _ _ hi'
   exact Nat.lt_of_le_of_lt (Nat.le_of_eq h1) hpn
  ·obtain⟨j,h1,_⟩:=old i _ _ hi' hne
   exact h.lt _ (List.mem_of_getElem? h1)
 ·unfold leftM;split
  ·exact h.ll
  ·rw[List.length_set];exact h.ll
 ·by_cases hne:i=pre.length
  ·subst hne
   obtain⟨rfl,rfl⟩:=self _ _ hi
   rw[List.getElem?_set_self (by rw[h.lw];exact hpn)]
  ·obtain⟨j,h1,h2,_⟩:=old i _ _ hi hne
   rw[List.getElem?_set_ne (by omega)]
   exact h.row _ _ _ h1
 ·
  have hprv:∀(j:Nat),0<j→∀(y:Nat) (d:Int),C[j-1]?=some (y,d)→prvC C j=(y:Int):=fun j h0 y d hj=>by
   unfold prvC;rw[if_neg (by omega),hj]
  by_cases hne:i=pre.length
  ·subst hne
   obtain⟨rfl,rfl⟩:=self _ _ hi
   have hp':prvC (pre++(x,c)::post) pre.length=prvC C pre.length:=by
    unfold prvC
    by_cases h0:pre.length=0
    ·rw[if_pos h0,if_pos h0]
    ·rw[if_neg h0,if_neg h0,hat,if_pos (by omega)]
   rw[hp']
   have h1:=h.left _ _ _ e0
   unfold leftM
   by_cases h2:nx= -1
   ·rw[if_pos h2];exact h1
   ·rw[if_neg h2]
    have h3:nx.toNat≠x:=fun e=>by
     rw[hnx]at h2 e
     unfold nxtC at h2 e
     cases h4:C[pre.length+1+1]? with
     | none=>rw[h4]at h2;exact h2 rfl
     | some c=>
      rw[h4]at e
      have:=ch_at_inj h.ok h4 e0 (by simpa using e)
      omega
    rw[List.getElem?_set_ne h3];exact h1
  ·obtain⟨j,h1,h2,h2q,h3,h4⟩:=old i _ _ hi hne
   have hl:=h.left _ _ _ h1
   by_cases h5:i<pre.length
   ·obtain rfl:=h3 h5
    have h6:prvC (pre++(p,o)::post) j=prvC C j:=by
     unfold prvC
     by_cases h0:j=0
     ·rw[if_pos h0,if_pos h0]
     ·rw[if_neg h0,if_neg h0,hat,if_pos (by omega)]
    rw[h6]
    unfold leftM
    by_cases h7:nx= -1
    ·rw[if_pos h7];exact hl
    ·rw[if_neg h7]
     have h8:nx.toNat≠x:=fun e=>by
      rw[hnx]at h7 e
      unfold nxtC at h7 e
      cases h9:C[pre.length+1+1]? with
      | none=>rw[h9]at h7;exact h7 rfl
      | some c=>
       rw[h9]at e
       have:=ch_at_inj h.ok h9 h1 (by simpa using e)
       omega
     rw[List.getElem?_set_ne h8];exact hl
   ·obtain rfl:=h4 (by omega)
    by_cases h6:i=pre.length+1
    ·subst h6
     have hn2:nx=(x:Int):=by rw[hnx];unfold nxtC;rw[h1]
     have hpv:prvC (pre++(p,o)::post) (pre.length+1)=(p:Int):=by
      unfold prvC
      rw[if_neg (by omega),show pre.length+1-1=pre.length by omega,hat,if_neg (by omega),if_pos rfl]
     rw[hpv,hn2]
     unfold leftM
     rw[if_neg (by omega),Int.toNat_natCast,List.getElem?_set_self (by rw[h.ll];exact h.lt _ (List.mem_of_getElem? h1))]
    ·have hpv:prvC (pre++(p,o)::post) i=prvC C (i+1):=by
      unfold prvC
      rw[if_neg (by omega),if_neg (by omega),hat,if_neg (by omega),if_neg (by omega),show i-1+1=i+1-1 by omega]
     rw[hpv]
     unfold leftM
     by_cases h7:nx= -1
     ·rw[if_pos h7];exact hl
     ·rw[if_neg h7]
      have h8:nx.toNat≠x:=fun e=>by
       rw[hnx]at h7 e
       unfold nxtC at h7 e
       cases h9:C[pre.length+1+1]? with
       | none=>rw[h9]at h7;exact h7 rfl
       | some c=>
        rw[h9]at e
        have:=ch_at_inj h.ok h9 h1 (by simpa using e)
        omega
      rw[List.getElem?_set_ne h8];exact hl
 ·
  by_cases hne:i=pre.length
  ·subst hne
   obtain⟨rfl,rfl⟩:=self _ _ hi
   rw[List.getElem?_set_self (by rw[h.lr];exact hpn)]
   have:nxtC (pre++(x,c)::post) pre.length=nx:=by
    rw[hnx];unfold nxtC
    rw[hat,if_neg (by omega),if_neg (by omega)]
   rw[this]
  ·obtain⟨j,h1,h2,h2q,h3,h4⟩:=old i _ _ hi hne
   rw[List.getElem?_set_ne (by omega),h.right _ _ _ h1]
   congr 1
   by_cases h5:i<pre.length
   ·obtain rfl:=h3 h5
    unfold nxtC
    by_cases h6:j+1<pre.length
    ·rw[hat,if_pos h6]
    ·have h7:j+1=pre.length:=by omega
     rw[hat,if_neg h6,if_pos h7,h7,e0]
   ·obtain rfl:=h4 (by omega)
    unfold nxtC
    rw[hat,if_neg (by omega),if_neg (by omega)]
end
theorem agF_merged {M:List Mg} {pre post:Ch} {p q:Nat} {a b o:Int} (hc:ChOK (pre++(p,a)::(q,b)::post)) (x:Nat) (hp:x≠p) (hr:∀c,pre.getLast?=some c→c.1≠x):
  agF M (pre++(p,o)::post) x=if x=q then none else agF M (pre++(p,a)::(q,b)::post) x:=by
 have hc':=mergeC_ok (o:=o) hc
 by_cases hq:x=q
 ·rw[if_pos hq]
  subst hq
  refine agF_no fun c hcm e=> ?_
  unfold ChOK at hc
  rw[List.pairwise_append]at hc
  obtain⟨h1,h2,h3⟩:=hc
  rw[List.pairwise_cons,List.pairwise_cons]at h2
  rcases List.mem_append.1 hcm with hm | hm
  ·have:=h3 c hm (x,b) (by simp)
   simp only at this;omega
  ·rcases List.mem_cons.1 hm with rfl | hm
   ·exact hp e.symm
   ·have:=h2.2.1 c hm
    simp only at this;omega
 ·rw[if_neg hq]
  by_cases hm:∃c∈pre,c.1=x
  ·exact(agF_pre hc hr hm).symm
  ·have hm':∀c∈pre,c.1≠x:=fun c h1 h2=>hm ⟨c,h1,h2⟩
   rw[agF_skip hm' (by simp),agF_skip hm' (by simp),agF_cons2,if_neg hp]
   cases post with
   | nil=>simp[agF]
   | cons s post=>
    obtain⟨s,c⟩:=s
    rw[agF_cons2,if_neg hp,agF_cons2,if_neg hq]
theorem lnk_start {R:List Int} (h0:0<R.length) (Lf Rt:List Int) (hl:Lf=(List.range R.length).map (fun(i:Nat)=>(i:Int)-1)) (hr:Rt=((List.range R.length).map (fun(i:Nat)=>(i:Int)+1)).set (R.length-1) (-1)):Lnk R.length (chOf R) R Lf Rt:=by
 subst hl hr
 have hat:∀(i p:Nat) (a:Int),(chOf R)[i]?=some (p,a)→p=i∧R[i]?=some a∧i<R.length:=fun i p a h=>by
  have hi:=(List.getElem?_eq_some_iff.1 h).1
  rw[chOf_len]at hi
  rw[chOf_at (List.getElem?_eq_getElem hi)]at h
  simp only[Option.some.injEq,Prod.mk.injEq]at h
  exact⟨h.1.symm,by rw[List.getElem?_eq_getElem hi,h.2],hi⟩
 refine⟨chOf_ok R,fun c hc=> ?_,rfl,by simp,by simp,fun i p a h=> ?_,fun i p a h=> ?_,fun i p a h=> ?_⟩
 ·obtain⟨i,hi,rfl⟩:=List.getElem_of_mem hc
  obtain⟨h1,_,h2⟩:=hat i _ _ (List.getElem?_eq_getElem hi)
  exact Nat.lt_of_le_of_lt (Nat.le_of_eq h1) h2
 ·obtain⟨rfl,h1,_⟩:=hat i p a h
  exact h1
 ·obtain⟨rfl,h1,h2⟩:=hat i p a h
  simp only[List.getElem?_map,List.getElem?_range h2,Option.map_some,Option.some.injEq]
  unfold prvC
  by_cases h3:p=0
  ·subst h3;simp
  ·rw[if_neg h3,chOf_at (List.getElem?_eq_getElem (show p-1<R.length by omega))]
   simp only;omega
 ·obtain⟨rfl,h1,h2⟩:=hat i p a h
  unfold nxtC
  by_cases h3:p+1<R.length
  ·rw[List.getElem?_set_ne (by omega),chOf_at (List.getElem?_eq_getElem h3)]
   simp only[List.getElem?_map,List.getElem?_range h2,Option.map_some]
   simp
  ·have h4:p=R.length-1:=by omega
   rw[←h4,List.getElem?_set_self (by simp;omega),List.getElem?_eq_none (by rw[chOf_len];omega)]
theorem ch_split {C:Ch} {i p q:Nat} {a b:Int} (h1:C[i]?=some (p,a)) (h2:C[i+1]?=some (q,b)):∃pre post,C=pre++(p,a)::(q,b)::post∧pre.length=i:=by
 have hi:=(List.getElem?_eq_some_iff.1 h2).1
 refine⟨C.take i,C.drop (i+2),?_,by simp;omega⟩
 have e1:C.drop i=(p,a)::C.drop (i+1):=by
  rw[List.drop_eq_getElem_cons (by omega)]
  rw[(List.getElem?_eq_some_iff.1 h1).2]
 have e2:C.drop (i+1)=(q,b)::C.drop (i+2):=by
  rw[List.drop_eq_getElem_cons hi]
  rw[(List.getElem?_eq_some_iff.1 h2).2]
 rw[←e2,←e1,List.take_append_drop]
structure Way (M:List Mg) (R:List Int) (C:Ch):Prop where
 run:runF M C.length (C.map (·.2))=runF M R.length R
 zero:∃a,C[0]?=some (0,a)
theorem Way.start (M:List Mg) {R:List Int} (h:0<R.length):Way M R (chOf R):=
 ⟨by rw[chOf_len,chOf_map],⟨_,chOf_at (List.getElem?_eq_getElem h)⟩⟩
theorem Way.step {M:List Mg} {R:List Int} {pre post:Ch} {p q:Nat} {a b o:Int} (h:Way M R (pre++(p,a)::(q,b)::post)) (hs:stepF M ((pre++(p,a)::(q,b)::post).map (·.2))=some ((pre++(p,o)::post).map (·.2))):Way M R (pre++(p,o)::post):=by
 refine⟨?_,?_⟩
 ·have h1:=runF_step hs
  have h2:=h.run
  simp only[List.length_map]at h1
  rw[←h1,h2]
 ·obtain⟨c,hc⟩:=h.zero
  cases pre with
  | nil=>simp at hc ⊢;exact hc.1
  | cons x pre=>simp at hc ⊢;exact⟨c,hc⟩
theorem Way.done {M:List Mg} {R:List Int} {C:Ch} (h:Way M R C) (hn:NoBest M (C.map (·.2))):C.map (·.2)=runF M R.length R:=by
 rw[←h.run,runF_end (stepF_none hn)]
theorem best_step {M:List Mg} {R:List Int} {C:Ch} (hw:Way M R C) (hc:ChOK C) {p:Int} {o d:Int} (h:agI M C p=some (o,d)) (hm:∀q o' d',agI M C q=some (o',d')→o<o'∨(o=o'∧p≤q)):
  ∃(pre post:Ch) (pn q:Nat) (a b:Int),p=(pn:Int)∧C=pre++(pn,a)::(q,b)::post∧Way M R (pre++(pn,d)::post):=by
 have hp:0≤p:=by
  unfold agI at h
  split at h
  ·assumption
  ·cases h
 obtain⟨pn,rfl⟩:∃pn:Nat,p=pn:=⟨p.toNat,by omega⟩
 rw[agI_nat]at h
 obtain⟨i,a,q,b,m,h1,h2,h3,h4,h5,h6⟩:=agF_best hc h (fun q o' d' hq=>by
  have:=hm (q:Int) o' d' (by rw[agI_nat];exact hq)
  omega)
 obtain⟨pre,post,rfl,hl⟩:=ch_split h1 h2
 refine⟨pre,post,pn,q,a,b,rfl,rfl,hw.step (o:=d) ?_⟩
 rw[stepF_some h6,←hl,←h5]
 exact congrArg some (merge_map (pre:=pre) (post:=post) (p:=pn) (q:=q) (a:=a) (b:=b) (o:=m.out)).symm
theorem agI_none {M:List Mg} {C:Ch} (hc:ChOK C) (h:∀x,agI M C x=none):NoBest M (C.map (·.2)):=agF_noBest hc fun p=>by rw[←agI_nat];exact h p
def agK (M:List Mg) (C:Ch) (k:Nat) (x:Int):Option (Int×Int):=if x<k then agI M C x else none
theorem agK_zero (M:List Mg) (C:Ch) (x:Int):agK M C 0 x=none:=by
 unfold agK agI
 by_cases h:x<(0:Nat)
 ·rw[if_pos h,if_neg (by omega)]
 ·rw[if_neg h]
theorem agK_succ (M:List Mg) (C:Ch) (k:Nat) (x:Int):agK M C (k+1) x=if x=k then agF M C k else agK M C k x:=by
 unfold agK
 by_cases h:x=k
 ·subst h
  rw[if_pos (by omega),if_pos rfl,agI_nat]
 ·rw[if_neg h]
  by_cases h2:x<k
  ·rw[if_pos (by omega),if_pos h2]
  ·rw[if_neg (by omega),if_neg h2]
theorem agK_all {M:List Mg} {C:Ch} {n:Nat} (h:∀c∈C,c.1<n) (x:Int):agK M C n x=agI M C x:=by
 unfold agK
 by_cases h2:x<n
 ·rw[if_pos h2]
 ·rw[if_neg h2]
  unfold agI
  rw[if_pos (by omega)]
  exact(agF_no fun c hc e=>by have:=h c hc;omega).symm
open Go.RowKit
def mgVal (m:Mg):Value:= .agg #[.int .i64 m.left, .int .i64 m.right, .int .i64 m.out, .int .i64 m.order]
theorem findM_none {M:List Mg} {a b:Int} (h:atM M M.length (a,b)=none):findM M a b=none:=by
 unfold findM
 rw[List.find?_eq_none]
 intro m hm
 obtain⟨i,hi,rfl⟩:=List.getElem_of_mem hm
 have h1:=atM_none h i hi
 have h2:M[i]=mg M i:=by have:=mg_eq hi;rw[List.getElem?_eq_getElem hi]at this;exact Option.some.inj this
 rw[h2]
 simp only[Bool.and_eq_true,decide_eq_true_eq]
 rintro⟨rfl,rfl⟩
 exact h1 rfl
theorem findM_some {M:List Mg} (hp:M.Pairwise Parts) {a b i:Int} (h:atM M M.length (a,b)=some i):∃k:Nat,i=k∧k<M.length∧findM M a b=some (mg M k):=by
 obtain⟨k,hk,rfl,e⟩:=atM_some h
 simp only[Prod.mk.injEq]at e
 obtain⟨rfl,rfl⟩:=e
 refine⟨k,rfl,hk,?_⟩
 have hg:∀j (hj:j<M.length),M[j]=mg M j:=fun j hj=>by
  have:=mg_eq hj;rw[List.getElem?_eq_getElem hj]at this;exact Option.some.inj this
 unfold findM
 rw[List.find?_eq_some_iff_getElem]
 refine⟨by simp,k,hk,hg k hk,fun j hj=> ?_⟩
 rw[hg j (by omega)]
 have h1:=List.pairwise_iff_getElem.1 hp j k (by omega) hk hj
 rw[hg j (by omega),hg k hk]at h1
 unfold Parts at h1
 simp only[Bool.not_eq_true',Bool.and_eq_false_iff,decide_eq_false_iff_not]
 exact Decidable.not_and_iff_or_not.1 h1
def FindP (M:List Mg) (a b:Int) (w:World) (e:Ending) (w':World):Prop:=
 (∃m,e= .returned (.tuple #[mgVal m, .bool (findM M a b).isSome])∧∀m',findM M a b=some m'→m=m')∧Below w.heap.size w w'
theorem find_calls {base pg:Nat} {M:List Mg} (a b:Int) (w:World) (h:PTab w base pg M) (hp:M.Pairwise Parts) (hl:M.length≤16384) (ha:(Lit.int .i64 a).wf=true) (hb:(Lit.int .i64 b).wf=true):
  Calls Tryz.prog 120 #[.pointer (some ⟨pg,0,none⟩), .int .i64 a, .int .i64 b] w (FindP M a b w):=by
 obtain⟨lo,mo,mc,mb,sz,hx,ho,hm,hmb⟩:=h
 obtain⟨w1,hw1⟩:∃w1,w.alloc (.cells #[.int .i64 0, .int .i64 0, .int .i64 0, .int .i64 0] 165)=w1:=⟨_,rfl⟩
 have hb1:Below w.heap.size w w1:=hw1▸below_alloc w _
 have hx1:w1.heap[w.heap.size]?=some (.cells #[.int .i64 0, .int .i64 0, .int .i64 0, .int .i64 0] 165):=by rw[←hw1];exact heap_alloc_new w _
 obtain⟨b0,b1⟩:w1.cell? ⟨pg,0,none⟩=some (.slice mo M.length mc)∧w1.cell? ⟨pg,1,none⟩=some (.map (some mb)):=by
  have:=(hb1.block pg (Array.getElem?_eq_some_iff.1 hx).1).trans hx
  simp[World.cell?,this]
 obtain⟨x0,x1,x2,x3⟩:=box4 hx1
 have hfr:∀o,w1.frozen? ⟨w.heap.size,o,none⟩=false:=fun o=>by simp[World.frozen?,hx1]
 have hlk:(Instr.lookup 167 (.map (some mb)) (.agg #[.int .i64 a, .int .i64 b]) true).run Tryz.prog w1= .ok (.tuple #[.int .i64 ((atM M M.length (a,b)).getD 0), .bool (atM M M.length (a,b)).isSome]) w1:=
  MapK.getOk (V:=twoViewP) (s:=(a,b)) Tryz.underlying167 Tryz.underlying3 zeroInt (hm.below hb1) ⟨ha,hb⟩
 have ho1:=OwnF.below ho hb1
 have HW1:=Lib.hid hw1
 have HB1:=Lib.hid hb1
 cases hat:atM M M.length (a,b)with
 | none=>
  have HF:=Lib.hid (findM_none hat)
  rw[hat]at hlk
  simp only[Option.getD_none,Option.isSome_none]at hlk
  rw[←hw1]at b0 b1 x0 x1 x2 x3 hlk
  simp only[←hw1]at hfr
  clear ho1 ho hm hx hx1 hw1 hb1 hat hp hl
  go_enter Tryz.func120,Tryz.ntmps120
  go_wp2_with (fail)
  refine bodyPost_ret (v:= .tuple #[mgVal ⟨0,0,0,0⟩, .bool false]) ?_ rfl ⟨⟨⟨0,0,0,0⟩,by rw[HF.out];rfl,fun m' hm'=>by rw[HF.out]at hm';cases hm'⟩,by rw[HW1.out];exact HB1.out⟩
  simp[results,Tryz.results120,go_sem,x0,x1,x2,x3,mgVal]
 | some i=>
  obtain⟨k,rfl,hk,hfm⟩:=findM_some hp hat
  have HF:=Lib.hid hfm
  rw[hat]at hlk
  simp only[Option.getD_some,Option.isSome_some]at hlk
  obtain⟨ro,rc,e0,hsl⟩:=ho1.sl
  obtain⟨rfl,_,rfl⟩:=Value.slice.inj e0
  obtain⟨bq,o,hao,hci⟩:=hsl.elem Mg.enc_len (by omega) (mg_eq hk)
  subst hao
  obtain⟨⟨l,r,od,d⟩,hmk⟩:∃m,mg M k=m:=⟨_,rfl⟩
  rw[hmk]at hci HF
  have d0:=hci 0 _ rfl
  have d1:=hci 1 _ rfl
  have d2:=hci 2 _ rfl
  have d3:=hci 3 _ rfl
  rw[Nat.add_zero]at d0
  simp only at d0 d1 d2 d3
  have gk:(k:Int)<(M.length:Int):=by omega
  have gk0:(0:Int)≤(k:Int):=by omega
  obtain⟨n,hn⟩:∃n,M.length=n:=⟨_,rfl⟩
  rw[hn]at gk b0
  rw[←hw1]at b0 b1 x0 x1 x2 x3 hlk d0 d1 d2 d3
  simp only[←hw1]at hfr
  clear ho1 ho hm hx hx1 hw1 hb1 hat hp hl hsl hci hk hmk hn hfm e0
  go_enter Tryz.func120,Tryz.ntmps120
  go_wp2_with (fail)
  refine bodyPost_ret (v:= .tuple #[mgVal ⟨l,r,od,d⟩, .bool true]) ?_ rfl ⟨⟨⟨l,r,od,d⟩,by rw[HF.out];rfl,fun m' hm'=>by rw[HF.out]at hm';exact Option.some.inj hm'⟩,below_alloc w _⟩
  obtain⟨y0,y1,y2,y3⟩:=box4 (heap_alloc_new w (.cells #[.int .i64 l, .int .i64 r, .int .i64 od, .int .i64 d] 165))
  simp[results,Tryz.results120,go_sem,y0,y1,y2,y3,mgVal]
abbrev RowI (w:World) (base b n c:Nat) (A:List Int):Prop:=w.ownsRow base 3 1 (.slice (some ⟨b,0,none⟩) n c) n (A.map (.int .i64))
theorem RowI.len {w:World} {base b n c:Nat} {A:List Int} (h:RowI w base b n c A):A.length=n:=by have:=h.1;simpa using this
theorem RowI.cell {w:World} {base b n c:Nat} {A:List Int} (h:RowI w base b n c A) {i:Nat} {x:Int} (hi:A[i]?=some x):w.cell? ⟨b,i,none⟩=some (.int .i64 x):=by
 have hl:=h.len
 have:=(List.getElem?_eq_some_iff.1 hi).1
 rw[World.ownsRow.cellAt h i (by omega),List.getElem?_map,hi];rfl
theorem RowI.frozen {w:World} {base b n c:Nat} {A:List Int} (h:RowI w base b n c A) (o:Nat):w.frozen? ⟨b,o,none⟩=false:=World.ownsRow.frozenAt h o
theorem RowI.set {w:World} {base b n c:Nat} {A:List Int} (h:RowI w base b n c A) (i:Nat) (x:Int):RowI (w.setCell ⟨b,i,none⟩ (.int .i64 x)) base b n c (A.set i x):=by
 have:=(World.ownsRow.stored h i (.int .i64 x)).1
 unfold RowI
 rw[List.map_set];exact this
theorem RowI.stay {w w':World} {base b n c:Nat} {A:List Int} (h:RowI w base b n c A) (hk:w'.heap[b]?=w.heap[b]?):RowI w' base b n c A:=own_stay h (fun q hq=>by
 obtain rfl:b=q:=by simpa[Value.ownBlock]using hq
 exact hk)
theorem RowI.lt {w:World} {base b n c:Nat} {A:List Int} (h:RowI w base b n c A):base≤b∧b<w.heap.size:=World.ownsRow.lt h b rfl
structure Cx where
 base:Nat
 n:Nat
 kb:Nat
 g:Nat
 mb:Nat
 rb:Nat
 lb:Nat
 tb:Nat
 rc:Nat
 lc:Nat
 tc:Nat
 pg:Nat
structure Apart (c:Cx):Prop where
 kg:c.kb≠c.g
 km:c.kb≠c.mb
 kr:c.kb≠c.rb
 kl:c.kb≠c.lb
 kt:c.kb≠c.tb
 rg:c.rb≠c.g
 rm:c.rb≠c.mb
 lg:c.lb≠c.g
 lm:c.lb≠c.mb
 tg:c.tb≠c.g
 tm:c.tb≠c.mb
 rl:c.rb≠c.lb
 rt:c.rb≠c.tb
 lt:c.lb≠c.tb
structure ChV (w:World) (c:Cx) (va:Value) (Rw Lf Rt:List Int) (L:List Ent):Prop where
 box:w.heap[c.kb]?=some (.cells #[.slice (some ⟨c.rb,0,none⟩) c.n c.rc, .slice (some ⟨c.lb,0,none⟩) c.n c.lc, .slice (some ⟨c.tb,0,none⟩) c.n c.tc, .func (.func 120) #[.pointer (some ⟨c.pg,0,none⟩)] #[], .pointer (some ⟨c.g,0,none⟩)] 183)
 row:RowI w c.base c.rb c.n c.rc Rw
 left:RowI w c.base c.lb c.n c.lc Lf
 right:RowI w c.base c.tb c.n c.tc Rt
 ag:AgV w c.base c.g c.mb va L
 lo:c.base≤c.kb
 ne:Apart c
 far:∀q,va.ownBlock=some q→q≠c.kb∧q≠c.rb∧q≠c.lb∧q≠c.tb
section
variable {w w':World} {c:Cx} {va va':Value} {Rw Lf Rt:List Int} {L L':List Ent}
theorem ChV.stay (h:ChV w c va Rw Lf Rt L) (hk:∀q,q<w.heap.size→w'.heap[q]?=w.heap[q]?):ChV w' c va Rw Lf Rt L:=
 ⟨(hk _ (Array.getElem?_eq_some_iff.1 h.box).1).trans h.box,h.row.stay (hk _ h.row.lt.2),h.left.stay (hk _ h.left.lt.2),h.right.stay (hk _ h.right.lt.2),h.ag.stay hk,h.lo,h.ne,h.far⟩
theorem ChV.below (h:ChV w c va Rw Lf Rt L) (hb:Below w.heap.size w w'):ChV w' c va Rw Lf Rt L:=h.stay (fun q hq=>hb.block q hq)
theorem ChV.cells (h:ChV w c va Rw Lf Rt L):w.cell? ⟨c.kb,0,none⟩=some (.slice (some ⟨c.rb,0,none⟩) c.n c.rc)∧w.cell? ⟨c.kb,1,none⟩=some (.slice (some ⟨c.lb,0,none⟩) c.n c.lc)∧w.cell? ⟨c.kb,2,none⟩=some (.slice (some ⟨c.tb,0,none⟩) c.n c.tc)∧
  w.cell? ⟨c.kb,3,none⟩=some (.func (.func 120) #[.pointer (some ⟨c.pg,0,none⟩)] #[])∧w.cell? ⟨c.kb,4,none⟩=some (.pointer (some ⟨c.g,0,none⟩)):=by
 simp[World.cell?,h.box]
theorem ChV.turn (h:ChV w c va Rw Lf Rt L) (hA:AgV w' c.base c.g c.mb va' L') (hT:Trod w w' c.g c.mb va va'):ChV w' c va' Rw Lf Rt L':=by
 have hne:=h.ne
 have hfar:=h.far
 have hkb:=(Array.getElem?_eq_some_iff.1 h.box).1
 refine⟨(hT.block _ hkb hne.kg hne.km (fun e=>(hfar _ e).1 rfl)).trans h.box,h.row.stay (hT.block _ h.row.lt.2 hne.rg hne.rm (fun e=>(hfar _ e).2.1 rfl)),h.left.stay (hT.block _ h.left.lt.2 hne.lg hne.lm (fun e=>(hfar _ e).2.2.1 rfl)),
  h.right.stay (hT.block _ h.right.lt.2 hne.tg hne.tm (fun e=>(hfar _ e).2.2.2 rfl)),hA,h.lo,hne,fun q hq=> ?_⟩
 rcases hT.new q hq with h1 | h1
 ·exact hfar q h1
 ·have:=h.row.lt.2
  have:=h.left.lt.2
  have:=h.right.lt.2
  exact⟨by omega,by omega,by omega,by omega⟩
theorem ChV.setOther (h:ChV w c va Rw Lf Rt L) {b:Nat} (hk:c.kb≠b) (hg:c.g≠b) (hm:c.mb≠b) (hf:∀q,va.ownBlock=some q→q≠b) (i:Nat) (u:Value):AgV (w.setCell ⟨b,i,none⟩ u) c.base c.g c.mb va L∧(w.setCell ⟨b,i,none⟩ u).heap[c.kb]?=w.heap[c.kb]? :=by
 have hs:∀q,q≠b→(w.setCell ⟨b,i,none⟩ u).heap[q]?=w.heap[q]? :=fun q hq=>heap_setCell_other w ⟨b,i,none⟩ q u hq
 refine⟨h.ag.other (fun q hq=> ?_),hs _ hk⟩
 rcases hq with rfl | rfl | hq
 ·exact hs _ hg
 ·exact hs _ hm
 ·exact hs _ (hf q hq)
theorem ChV.setRow (h:ChV w c va Rw Lf Rt L) (i:Nat) (x:Int):ChV (w.setCell ⟨c.rb,i,none⟩ (.int .i64 x)) c va (Rw.set i x) Lf Rt L:=by
 have hne:=h.ne
 obtain⟨h1,h2⟩:=h.setOther hne.kr hne.rg.symm hne.rm.symm (fun q hq=>(h.far q hq).2.1) i (.int .i64 x)
 have hk:∀q,q≠c.rb→(w.setCell ⟨c.rb,i,none⟩ (.int .i64 x)).heap[q]?=w.heap[q]? :=fun q hq=>heap_setCell_other w ⟨c.rb,i,none⟩ q _ hq
 exact⟨h2.trans h.box,h.row.set i x,h.left.stay (hk _ hne.rl.symm),h.right.stay (hk _ hne.rt.symm),h1,h.lo,h.ne,h.far⟩
theorem ChV.setLeft (h:ChV w c va Rw Lf Rt L) (i:Nat) (x:Int):ChV (w.setCell ⟨c.lb,i,none⟩ (.int .i64 x)) c va Rw (Lf.set i x) Rt L:=by
 have hne:=h.ne
 obtain⟨h1,h2⟩:=h.setOther hne.kl hne.lg.symm hne.lm.symm (fun q hq=>(h.far q hq).2.2.1) i (.int .i64 x)
 have hk:∀q,q≠c.lb→(w.setCell ⟨c.lb,i,none⟩ (.int .i64 x)).heap[q]?=w.heap[q]? :=fun q hq=>heap_setCell_other w ⟨c.lb,i,none⟩ q _ hq
 exact⟨h2.trans h.box,h.row.stay (hk _ hne.rl),h.left.set i x,h.right.stay (hk _ hne.lt.symm),h1,h.lo,h.ne,h.far⟩
theorem ChV.setRight (h:ChV w c va Rw Lf Rt L) (i:Nat) (x:Int):ChV (w.setCell ⟨c.tb,i,none⟩ (.int .i64 x)) c va Rw Lf (Rt.set i x) L:=by
 have hne:=h.ne
 obtain⟨h1,h2⟩:=h.setOther hne.kt hne.tg.symm hne.tm.symm (fun q hq=>(h.far q hq).2.2.2) i (.int .i64 x)
 have hk:∀q,q≠c.tb→(w.setCell ⟨c.tb,i,none⟩ (.int .i64 x)).heap[q]?=w.heap[q]? :=fun q hq=>heap_setCell_other w ⟨c.tb,i,none⟩ q _ hq
 exact⟨h2.trans h.box,h.row.stay (hk _ hne.rt),h.left.stay (hk _ hne.lt),h.right.set i x,h1,h.lo,h.ne,h.far⟩
theorem trod_below (hA:AgV w c.base c.g c.mb va L) (hT:Trod w w' c.g c.mb va va') (hb:c.base≤w.heap.size):Below c.base w w':=
 ⟨hT.os,hT.tape,hT.output,hT.size,fun q hq=>hT.block q (by omega) (by have:=hA.pile.lo;omega) (by have:=hA.pile.lo;omega) (fun e=>by have:=(World.ownsRow.lt hA.pile.row q e).1;omega)⟩
theorem ChV.base (h:ChV w c va Rw Lf Rt L):c.base≤w.heap.size:=by
 have:=h.row.lt;omega
end
structure Tb (W:World) (c:Cx) (M:List Mg):Prop where
 tab:∃pb,PTab W pb c.pg M
 parts:M.Pairwise Parts
 len:M.length≤16384
 base:c.base=W.heap.size
theorem PTab.below {w w':World} {base g:Nat} {M:List Mg} (h:PTab w base g M) (hb:Below w.heap.size w w'):PTab w' base g M:=h.keep (fun q _ hq=>hb.block q hq) hb.size
theorem look_no (kb:Nat) (w:World):
  Calls Tryz.prog 122 #[.pointer (some ⟨kb,0,none⟩), .int .i64 (-1)] w fun e w'=>e= .returned (.tuple #[])∧w=w':=by
 go_enter Tryz.func122,Tryz.ntmps122
 go_wp2_with (fail)
 refine bodyPost_ret (results_none rfl _ _ _) rfl ⟨rfl,rfl⟩
def LookP (w:World) (c:Cx) (va:Value) (Rw Lf Rt:List Int) (L:List Ent) (p:Nat) (o:Option (Int×Int)) (e:Ending) (w':World):Prop:=
 e= .returned (.tuple #[])∧∃va' L',ChV w' c va' Rw Lf Rt L'∧(∀x,agL L' x=if x=(p:Int)then o else agL L x)∧L'.length≤L.length+1∧Trod w w' c.g c.mb va va'
theorem look_last {W0:World} {c:Cx} {va:Value} {Rw Lf Rt:List Int} {L:List Ent} (p:Nat) (w:World) (h:ChV w c va Rw Lf Rt L) (hp:p<c.n) (hn:c.n≤1048576) (hr:Rt[p]?=some (-1)):
  Calls Tryz.prog 122 #[.pointer (some ⟨c.kb,0,none⟩), .int .i64 p] w (LookP w c va Rw Lf Rt L p none):=by
 have HD:=Lib.hid (aDrop_calls (p:Int) w h.ag (by omega))
 obtain⟨b0,b1,b2,b3,b4⟩:=h.cells
 have t0:=h.right.cell hr
 have gp:(p:Int)<(c.n:Int):=by omega
 have gp0:(0:Int)≤(p:Int):=by omega
 have gn:¬(p:Int)= -1:=by omega
 have H:=Lib.hid h
 clear h hp hr
 obtain⟨base,n,kb,g,mb,rb,lb,tb,rc,lc,tc,pg⟩:=c
 simp only at *
 go_enter Tryz.func122,Tryz.ntmps122
 go_wp2_with (fail)
 go_at_call 151
 refine HD.out.mono ?_
 rintro e w2 ⟨⟨t,rfl⟩,v2,L2,hA2,hg2,hl2,hT2⟩
 have HA2:=Lib.hid hA2
 have HG2:=Lib.hid hg2
 have HL2:=Lib.hid hl2
 have HT2:=Lib.hid hT2
 clear hA2 hg2 hl2 hT2
 go_wp2_with (fail)
 go_end0
 exact⟨rfl,v2,L2,H.out.turn HA2.out HT2.out,HG2.out,Nat.le_succ_of_le HL2.out,HT2.out⟩
structure FrC (w w':World) (c:Cx) (va va':Value):Prop where
 os:w'.os=w.os
 tape:w'.tape=w.tape
 output:w'.output=w.output
 size:w.heap.size≤w'.heap.size
 block:∀q,q<w.heap.size→q≠c.g→q≠c.mb→q≠c.rb→q≠c.lb→q≠c.tb→va.ownBlock≠some q→w'.heap[q]?=w.heap[q]?
 new:∀q,va'.ownBlock=some q→va.ownBlock=some q∨w.heap.size≤q
theorem FrC.trans {w w1 w2:World} {c:Cx} {v v1 v2:Value} (h:FrC w w1 c v v1) (h2:FrC w1 w2 c v1 v2):FrC w w2 c v v2:=
 ⟨h2.os.trans h.os,h2.tape.trans h.tape,h2.output.trans h.output,Nat.le_trans h.size h2.size,fun q hq a b d e f g=>(h2.block q (Nat.lt_of_lt_of_le hq h.size) a b d e f (fun e=>by
  rcases h.new q e with h3 | h3
  ·exact g h3
  ·omega)).trans (h.block q hq a b d e f g),fun q hq=>by
  rcases h2.new q hq with h3 | h3
  ·exact h.new q h3
  ·exact .inr (Nat.le_trans h.size h3)⟩
theorem FrC.trod {w w':World} {c:Cx} {v v':Value} (h:Trod w w' c.g c.mb v v'):FrC w w' c v v':=⟨h.os,h.tape,h.output,h.size,fun q hq a b _ _ _ f=>h.block q hq a b f,h.new⟩
theorem FrC.below {w w':World} {c:Cx} {v:Value} (h:Below w.heap.size w w'):FrC w w' c v v:=FrC.trod (Trod.of h)
theorem FrC.set {w:World} {c:Cx} {v:Value} {b:Nat} (hb:b=c.rb∨b=c.lb∨b=c.tb) (i:Nat) (u:Value):FrC w (w.setCell ⟨b,i,none⟩ u) c v v:=
 ⟨rfl,rfl,rfl,by simp,fun q _ _ _ h1 h2 h3 _=>heap_setCell_other w ⟨b,i,none⟩ q u (by
  show q≠b
  rcases hb with rfl | rfl | rfl
  ·exact h1
  ·exact h2
  ·exact h3),fun q hq=> .inl hq⟩
theorem FrC.base {w w':World} {c:Cx} {va va':Value} {Rw Lf Rt:List Int} {L:List Ent} (h:FrC w w' c va va') (hC:ChV w c va Rw Lf Rt L):Below c.base w w':=
 ⟨h.os,h.tape,h.output,h.size,fun q hq=>h.block q (by have:=hC.base;omega) (by have:=hC.ag.pile.lo.1;omega) (by have:=hC.ag.pile.lo.2.1;omega) (by have:=hC.row.lt;omega) (by have:=hC.left.lt;omega) (by have:=hC.right.lt;omega) (fun e=>by have:=(World.ownsRow.lt hC.ag.pile.row q e).1;omega)⟩
end Go.Proofs.YtimkkkdabmhedaaGreatDoor
