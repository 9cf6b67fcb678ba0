/- Walk: heap.Push over the pile. -/
import Derived.Test.YtimkkkdabmhedaaGreatDoorD22
import Derived.Test.YtimkkkdabmhedaaGreatDoorD19
set_option linter.unusedVariables false
set_option maxHeartbeats 1000000
set_option maxRecDepth 100000
namespace Go.Proofs.YtimkkkdabmhedaaGreatDoor
open Go.RowKit Go.ChangeMaps
theorem m_len (n:Nat) (a:Addr) (w:World):(method (n+1) 217 (.pointer (some a)) "Len").run Tryz.prog w= .ok (174, .pointer (some a)) w:=by kernel_rfl
theorem m_push (n:Nat) (a:Addr) (w:World):(method (n+1) 217 (.pointer (some a)) "Push").run Tryz.prog w= .ok (214, .pointer (some a)) w:=by kernel_rfl
theorem hpush_calls {base g mb:Nat} {v:Value} {L:List Ent} (x:Ent) (w:World) (h:PileV w base g mb v L) (hH:Heap L L.length) (hx:∀i,i<L.length→(en L i).place≠x.place) (hp: -9223372036854775808≤x.place∧x.place≤9223372036854775807) (hn:L.length+1≤1048576) (hb:base≤w.heap.size):
  Calls Tryz.prog 171 #[.iface 217 (.pointer (some ⟨g,0,none⟩)), .iface 186 (.agg #[.int .i64 x.place, .int .i64 x.order, .int .i64 x.out])] w fun e w'=>e= .returned (.tuple #[])∧∃v' L',PileV w' base g mb v' L'∧Heap L' (L.length+1)∧Rest (L++ [x]) L' (L.length+1)∧Trod w w' g mb v v':=by
 have HC:=Lib.hid (pilePush_calls x w h hx hp hn hb)
 have HU:=Lib.hid (heap_push (x:=x) hH)
 have ml:=m_len
 have ms:=m_push
 have hl:(L++ [x]).length=L.length+1:=by simp
 have HLN:=Lib.hid hl
 obtain⟨n,hn'⟩:∃n,L.length=n:=⟨_,rfl⟩
 rw[hn']at HU HLN
 have q1:IntKind.i64.wrap (n:Int)=(n:Int):=by rw[IntKind.wrap_i64];omega
 rw[hn']
 clear h hH hx hp hn hb hl
 go_enter Tryz.func171,Tryz.ntmps171
 go_wp2_with (first
  | (go_at_call 214;refine HC.out.mono ?_;rintro e w1 ⟨rfl,v1,hP1,hT1⟩;have HP1:=Lib.hid hP1;have HT1:=Lib.hid hT1;clear hP1 hT1)
  | (go_at_call 174;refine(pileLen_calls _ HP1.out).mono ?_;rintro e w2 ⟨rfl,rfl⟩;rw[HLN.out])
  | (go_at_call 183;refine(up_calls (n+1) n _ HP1.out (by omega) (by rw[HLN.out];omega) HU.out).mono ?_;rintro e w3 ⟨rfl,L',hP3,hH3,hR3,hT3⟩))
 go_end0
 exact⟨rfl,v1,L',hP3,hH3,hR3,HT1.out.trans hT3⟩
theorem m_pop (n:Nat) (a:Addr) (w:World):(method (n+1) 217 (.pointer (some a)) "Pop").run Tryz.prog w= .ok (213, .pointer (some a)) w:=by kernel_rfl
theorem last_split {L:List Ent} {n:Nat} (h:L.length=n+1):∃M,L=M++ [en L n]∧M.length=n:=by
 refine⟨L.take n,?_,by simp;omega⟩
 apply List.ext_getElem?
 intro k
 rw[List.getElem?_append]
 simp only[List.length_take]
 by_cases hk:k<n
 ·rw[if_pos (by omega)]
  simp[hk]
 ·rw[if_neg (by omega)]
  by_cases e:k=n
  ·subst e
   rw[en_eq (by omega)]
   simp[show min k L.length=k by omega]
  ·rw[List.getElem?_eq_none (by omega),List.getElem?_eq_none (by simp;omega)]
theorem hpop_calls {base g mb:Nat} {v:Value} {L:List Ent} (n:Nat) (w:World) (h:PileV w base g mb v L) (hH:Heap L L.length) (hn:L.length=n+1):
  Calls Tryz.prog 153 #[.iface 217 (.pointer (some ⟨g,0,none⟩))] w fun e w'=>e= .returned (.iface 186 (.agg #[.int .i64 (en L 0).place, .int .i64 (en L 0).order, .int .i64 (en L 0).out]))∧∃v' M,PileV w' base g mb v' M∧Heap M n∧M.length=n∧(∀e,e∈L↔e∈M++ [en L 0])∧Trod w w' g mb v v':=by
 have hH':Heap L (n+1):=by rw[←hn];exact hH
 have hD:HeapD (swp L 0 n) n 0 False:=by
  by_cases h0:n=0
  ·subst h0;exact⟨fun k k0 hk=>by omega,fun c c0 hc=>by omega⟩
  ·exact heap_last hH' (by omega) (by omega)
 have HL:=Lib.hid (pileLen_calls w h)
 have HS:=Lib.hid (pileSwap_calls 0 n w h (by omega) (by omega))
 have HR:=Lib.hid (Rest.swp (L:=L) (n:=n+1) (i:=0) (j:=n) (by omega) (by omega) (by omega))
 have HD:=Lib.hid hD
 have HN:=Lib.hid hn
 have hlast:en (swp L 0 n) n=en L 0:=by rw[en_swp n (by omega) (by omega),if_pos rfl]
 have HLA:=Lib.hid hlast
 have hsm:=h.small
 have q1:IntKind.i64.wrap (n:Int)=(n:Int):=by rw[IntKind.wrap_i64];omega
 have ml:=m_len
 have mp:=m_pop
 have ms:=m_swap
 rw[hn]at HL hsm
 clear h hH hH' hD hn hlast
 go_enter Tryz.func153,Tryz.ntmps153
 go_wp2_with (first
  | (go_at_call 174;refine HL.out.mono ?_;rintro e w1 ⟨rfl,rfl⟩)
  | (go_at_call 215;refine HS.out.mono ?_;rintro e w2 ⟨rfl,hP2,hT2⟩;have HP2:=Lib.hid hP2;have HT2:=Lib.hid hT2;clear hP2 hT2)
  | (go_at_call 175;refine(down_calls n 0 _ HP2.out (by omega) (by have:=HN.out;rw[swp_len];omega) HD.out).mono ?_;rintro e w3 ⟨t,L3,rfl,hE⟩;have HE:=Lib.hid hE;clear hE;obtain⟨M,hM,hMl⟩:=last_split (L:=L3) (n:=n) (by have:=HE.out.rest.len;have:=HN.out;rw[swp_len]at *;omega);have HM:=Lib.hid hM;have HML:=Lib.hid hMl;have HP3:=Lib.hid (by have:=HE.out.pile;rw[hM]at this;exact this);have HX:Hid (en L3 n=en L 0):=Lib.hid ((HE.out.rest.tail n (Nat.le_refl _)).trans HLA.out);clear hM hMl)
  | (go_at_call 213;refine(pilePop_calls _ _ HP3.out).mono ?_;rintro e w4 ⟨rfl,v4,hP4,hT4⟩))
 go_ret
 have hHL:Heap L3 n:=by
  cases t with
  | true=>exact HE.out.yes rfl
  | false=>
   obtain⟨e1,e2⟩:=HE.out.no rfl
   rw[e1]
   exact up_stop e2 (.inl rfl)
 have hM:=HM.out
 rw[HX.out]at hM
 refine⟨by rw[←HX.out];rfl,v4,M,hP4,?_,HML.out,fun e=> ?_,(HT2.out.trans HE.out.trod).trans hT4⟩
 ·intro k k0 hk
  have:=hHL k k0 hk
  rw[hM,en_app (by have:=HML.out;omega),en_app (by have:=HML.out;have:=par_lt k0;omega)]at this
  exact this
 ·rw[←hM]
  exact((HR.out.mem e).symm).trans (HE.out.rest.mem e).symm
theorem hfix_calls {base g mb:Nat} {v:Value} {L:List Ent} (i:Nat) (w:World) (h:PileV w base g mb v L) (hi:i<L.length) (hD:HeapD L L.length i False):
  Calls Tryz.prog 172 #[.iface 217 (.pointer (some ⟨g,0,none⟩)), .int .i64 i] w fun e w'=>e= .returned (.tuple #[])∧∃L',PileV w' base g mb v L'∧Heap L' L.length∧Rest L L' L.length∧Trod w w' g mb v v:=by
 have HL:=Lib.hid (pileLen_calls w h)
 have HDn:=Lib.hid (down_calls L.length i w h (by omega) (Nat.le_refl _) hD)
 have ml:=m_len
 have hsm:=h.small
 obtain⟨n,hn⟩:∃n,L.length=n:=⟨_,rfl⟩
 rw[hn]at HL HDn hi hsm ⊢
 have HN:=Lib.hid hn
 have HI:=Lib.hid hi
 clear h hD hn hi
 go_enter Tryz.func172,Tryz.ntmps172
 go_wp2_with (go_at_call 174;refine HL.out.mono ?_;rintro e w1 ⟨rfl,rfl⟩)
 go_at_call 175
 refine HDn.out.mono ?_
 rintro e w2 ⟨t,L2,rfl,hE⟩
 have HE:=Lib.hid hE
 clear hE
 cases t with
 | true=>
  go_wp2_with (fail)
  go_end0
  exact⟨rfl,L2,HE.out.pile,HE.out.yes rfl,HE.out.rest,HE.out.trod⟩
 | false=>
  go_wp2_with (go_at_call 183;refine(up_calls n i _ HE.out.pile HI.out (by have:=HE.out.rest.len;have:=HN.out;omega) (by have:=HE.out.no rfl;rw[this.1];exact this.2)).mono ?_;rintro e w3 ⟨rfl,L3,hP3,hH3,hR3,hT3⟩)
  go_end0
  exact⟨rfl,L3,hP3,hH3,HE.out.rest.trans hR3,HE.out.trod.trans hT3⟩
theorem heap_pre {M:List Ent} {x:Ent} {n:Nat} (h:Heap (M++ [x]) n) (hn:n≤M.length):Heap M n:=fun k k0 hk=>by
 have:=h k k0 hk
 rw[en_app (by omega),en_app (by have:=par_lt k0;omega)]at this
 exact this
def RemP (w:World) (base g mb:Nat) (v:Value) (L:List Ent) (n i:Nat) (e:Ending) (w':World):Prop:=
 (∃x,e= .returned x)∧∃v' M,PileV w' base g mb v' M∧Heap M n∧M.length=n∧(∀e,e∈L↔e∈M++ [en L i])∧Trod w w' g mb v v'
theorem hremove_calls {base g mb:Nat} {v:Value} {L:List Ent} (n i:Nat) (w:World) (h:PileV w base g mb v L) (hH:Heap L L.length) (hn:L.length=n+1) (hi:i≤n):
  Calls Tryz.prog 173 #[.iface 217 (.pointer (some ⟨g,0,none⟩)), .int .i64 i] w (RemP w base g mb v L n i):=by
 have HL:=Lib.hid (pileLen_calls w h)
 have hsm:=h.small
 have q1:IntKind.i64.wrap (n:Int)=(n:Int):=by rw[IntKind.wrap_i64];omega
 have ml:=m_len
 have mp:=m_pop
 have ms:=m_swap
 rw[hn]at HL hsm hH
 by_cases hin:i=n
 ·subst hin
  obtain⟨M,hM,hMl⟩:=last_split hn
  have hP:=h
  rw[hM]at hP
  have HP:=Lib.hid (pilePop_calls _ _ hP)
  have HM:=Lib.hid hM
  have HML:=Lib.hid hMl
  have HH:=Lib.hid hH
  clear h hH hn hP hM hMl
  go_enter Tryz.func173,Tryz.ntmps173
  go_wp2_with (first
   | (go_at_call 174;refine HL.out.mono ?_;rintro e w1 ⟨rfl,rfl⟩)
   | (go_at_call 213;refine HP.out.mono ?_;rintro e w4 ⟨rfl,v4,hP4,hT4⟩))
  go_ret
  refine⟨⟨_,rfl⟩,v4,M,hP4,heap_pre (n:=i) (by have:=HH.out;rw[HM.out]at this;exact this.less (by omega)) (by have:=HML.out;omega),HML.out,fun e=> ?_,hT4⟩
  rw[←HM.out]
 ·have hD:=heap_last (i:=i) hH (by omega) (by omega)
  have HS:=Lib.hid (pileSwap_calls i n w h (by omega) (by omega))
  have HR:=Lib.hid (Rest.swp (L:=L) (n:=n+1) (i:=i) (j:=n) (by omega) (by omega) (by omega))
  have HD:=Lib.hid hD
  have HN:=Lib.hid hn
  have hlast:en (swp L i n) n=en L i:=by rw[en_swp n (by omega) (by omega),if_pos rfl]
  have HLA:=Lib.hid hlast
  have q2:¬(n:Int)=(i:Int):=by omega
  have HI:Hid (i<n):=Lib.hid (by omega)
  clear h hH hD hn hlast hin hi
  go_enter Tryz.func173,Tryz.ntmps173
  go_wp2_with (first
   | (go_at_call 174;refine HL.out.mono ?_;rintro e w1 ⟨rfl,rfl⟩)
   | (go_at_call 215;refine HS.out.mono ?_;rintro e w2 ⟨rfl,hP2,hT2⟩;have HP2:=Lib.hid hP2;have HT2:=Lib.hid hT2;clear hP2 hT2))
  go_at_call 175
  refine(down_calls n i _ HP2.out (by have:=HI.out;omega) (by have:=HN.out;rw[swp_len];omega) HD.out).mono ?_
  rintro e w3 ⟨t,L3,rfl,hE⟩
  have HE:=Lib.hid hE
  clear hE
  have key:∀(w5:World) (L5:List Ent),PileV w5 base g mb v L5→Heap L5 n→Rest (swp L i n) L5 n→Trod _ w5 g mb v v→Hid (∃M,PileV w5 base g mb v (M++ [en L i])∧Heap M n∧M.length=n∧(∀e,e∈L↔e∈M++ [en L i])∧Trod w w5 g mb v v):=fun w5 L5 h1 h2 h3 h4=>by
   obtain⟨M,hM,hMl⟩:=last_split (L:=L5) (n:=n) (by have:=h3.len;have:=HN.out;rw[swp_len]at *;omega)
   have e1:en L5 n=en L i:=(h3.tail n (Nat.le_refl _)).trans HLA.out
   rw[e1]at hM
   refine Lib.hid ⟨M,by rw[←hM];exact h1,heap_pre (by rw[←hM];exact h2) (by omega),hMl,fun e=> ?_,HT2.out.trans h4⟩
   rw[←hM]
   exact((HR.out.mem e).symm).trans (h3.mem e).symm
  have HK:=Lib.hid key
  clear key
  cases t with
  | true=>
   have HF:=HK.out _ _ HE.out.pile (HE.out.yes rfl) HE.out.rest HE.out.trod
   obtain⟨M,hP5,hH5,hl5,hm5,hT5⟩:=HF.out
   have HP5:=Lib.hid hP5
   have HH5:=Lib.hid hH5
   have Hl5:=Lib.hid hl5
   have HM5:=Lib.hid hm5
   have HT5:=Lib.hid hT5
   clear hP5 hH5 hl5 hm5 hT5
   go_wp2_with (go_at_call 213;refine(pilePop_calls _ _ HP5.out).mono ?_;rintro e w4 ⟨rfl,v4,hP4,hT4⟩)
   go_ret
   exact⟨⟨_,rfl⟩,v4,M,hP4,HH5.out,Hl5.out,HM5.out,HT5.out.trans hT4⟩
  | false=>
   go_wp2_with (go_at_call 183;refine(up_calls n i _ HE.out.pile HI.out (by have:=HE.out.rest.len;have:=HN.out;rw[swp_len]at *;omega) (by have:=HE.out.no rfl;rw[this.1];exact this.2)).mono ?_;rintro e w5 ⟨rfl,L5,hP3,hH3,hR3,hT3⟩;have HF:=HK.out _ _ hP3 hH3 (HE.out.rest.trans hR3) (HE.out.trod.trans hT3);clear hP3 hH3 hR3 hT3;obtain⟨M,hP5,hH5,hl5,hm5,hT5⟩:=HF.out;have HP5:=Lib.hid hP5;have HH5:=Lib.hid hH5;have Hl5:=Lib.hid hl5;have HM5:=Lib.hid hm5;have HT5:=Lib.hid hT5;clear hP5 hH5 hl5 hm5 hT5)
   go_wp2_with (go_at_call 213;refine(pilePop_calls _ _ HP5.out).mono ?_;rintro e w4 ⟨rfl,v4,hP4,hT4⟩)
   go_ret
   exact⟨⟨_,rfl⟩,v4,M,hP4,HH5.out,Hl5.out,HM5.out,HT5.out.trans hT4⟩
open Go
theorem agL_mem {L:List Ent} (h:Once L) {p o d:Int}:agL L p=some (o,d)↔(⟨p,o,d⟩:Ent)∈L:=by
 rw[agL_some h]
 constructor
 ·rintro⟨i,hi,e⟩
  exact e▸List.mem_of_getElem? (en_eq hi)
 ·intro hm
  obtain⟨i,hi,e⟩:=List.getElem_of_mem hm
  exact⟨i,hi,by rw[←en_get hi,e]⟩
theorem once_mem {L:List Ent} (h:Once L) {a b:Ent} (ha:a∈L) (hb:b∈L) (hp:a.place=b.place):a=b:=by
 obtain⟨i,hi,rfl⟩:=List.getElem_of_mem ha
 obtain⟨j,hj,rfl⟩:=List.getElem_of_mem hb
 rw[en_get hi,en_get hj]at hp ⊢
 rw[h i j hi hj hp]
theorem agL_ext {L L':List Ent} {f:Int→Option (Int×Int)} (hL':Once L') (hf:∀p o d,f p=some (o,d)↔(⟨p,o,d⟩:Ent)∈L') (p:Int):agL L' p=f p:=by
 cases h1:agL L' p with
 | some x=>
  obtain⟨o,d⟩:=x
  exact((hf p o d).2 ((agL_mem hL').1 h1)).symm
 | none=>
  cases h2:f p with
  | none=>rfl
  | some x=>
   obtain⟨o,d⟩:=x
   rw[(agL_mem hL').2 ((hf p o d).1 h2)]at h1
   cases h1
theorem agL_put {L L':List Ent} {x:Ent} (h:Once L) (h':Once L') (hx:∀i,i<L.length→(en L i).place≠x.place) (hm:∀e,e∈L'↔e∈L++ [x]) (p:Int):agL L' p=if p=x.place then some (x.order,x.out)else agL L p:=by
 have hx':∀e∈L,e.place≠x.place:=fun e he=>by
  obtain⟨i,hi,rfl⟩:=List.getElem_of_mem he
  rw[en_get hi];exact hx i hi
 refine agL_ext (L:=L) (f:=fun p=>if p=x.place then some (x.order,x.out)else agL L p) h' (fun p o d=> ?_) p
 rw[hm,List.mem_append,List.mem_singleton]
 by_cases e:p=x.place
 ·subst e
  simp only[if_true,Option.some.injEq,Prod.mk.injEq]
  constructor
  ·rintro⟨rfl,rfl⟩;exact .inr rfl
  ·rintro(h1 | h1)
   ·exact(hx' _ h1 rfl).elim
   ·rw[←h1];exact⟨rfl,rfl⟩
 ·simp only[if_neg e]
  rw[agL_mem h]
  constructor
  ·exact .inl
  ·rintro(h1 | h1)
   ·exact h1
   ·exact absurd (by rw[←h1]) e
theorem mem_set {L:List Ent} {i:Nat} {x:Ent} (h:Once L) (hi:i<L.length) (hx:(en L i).place=x.place) (e:Ent):e∈L.set i x↔e=x∨(e∈L∧e.place≠x.place):=by
 constructor
 ·intro hm
  obtain⟨k,hk,rfl⟩:=List.getElem_of_mem hm
  simp only[List.length_set]at hk
  rw[List.getElem_set]
  by_cases e1:i=k
  ·rw[if_pos e1];exact .inl rfl
  ·rw[if_neg e1]
   refine .inr ⟨List.getElem_mem _,fun e2=> ?_⟩
   rw[en_get hk,←hx]at e2
   exact e1 (h k i hk hi e2).symm
 ·rintro(rfl | ⟨h1,h2⟩)
  ·exact List.mem_of_getElem? (i:=i) (by simp[hi])
  ·obtain⟨k,hk,rfl⟩:=List.getElem_of_mem h1
   rw[en_get hk]at h2 ⊢
   have e1:i≠k:=fun e=>h2 (by rw[←e,hx])
   refine List.mem_of_getElem? (i:=k) ?_
   rw[List.getElem?_set_ne e1,en_eq hk]
theorem once_set {L:List Ent} {i:Nat} {x:Ent} (h:Once L) (hi:i<L.length) (hx:(en L i).place=x.place):Once (L.set i x):=by
 have key:∀k,(en (L.set i x) k).place=(en L k).place:=fun k=>by
  rw[en_set k hi]
  by_cases e:k=i
  ·rw[if_pos e,e,hx]
  ·rw[if_neg e]
 intro a b ha hb hp
 rw[key,key]at hp
 simp only[List.length_set]at ha hb
 exact h a b ha hb hp
theorem atL_set {L:List Ent} {i:Nat} {x:Ent} (h:Once L) (hi:i<L.length) (hx:(en L i).place=x.place) (p:Int):atL (L.set i x) p=atL L p:=by
 have key:∀k,(en (L.set i x) k).place=(en L k).place:=fun k=>by
  rw[en_set k hi]
  by_cases e:k=i
  ·rw[if_pos e,e,hx]
  ·rw[if_neg e]
 have h':=once_set h hi hx
 cases h1:atL L p with
 | none=>
  rw[atL_none]at h1 ⊢
  intro k hk
  rw[key]
  exact h1 k (by simpa using hk)
 | some c=>
  have:∃k:Nat,c=(k:Int):=by
   unfold atL at h1
   rw[Option.map_eq_some_iff]at h1
   obtain⟨k,_,rfl⟩:=h1
   exact⟨k,rfl⟩
  obtain⟨k,rfl⟩:=this
  rw[atL_some h]at h1
  rw[atL_some h',key]
  exact⟨by simpa using h1.1,h1.2⟩
theorem atL_at {L:List Ent} (h:Once L) {p c:Int} (hc:atL L p=some c):∃i:Nat,c=(i:Int)∧i<L.length∧(en L i).place=p:=by
 have:∃k:Nat,c=(k:Int):=by
  unfold atL at hc
  rw[Option.map_eq_some_iff]at hc
  obtain⟨k,_,rfl⟩:=hc
  exact⟨k,rfl⟩
 obtain⟨k,rfl⟩:=this
 rw[atL_some h]at hc
 exact⟨k,rfl,hc⟩
theorem agL_set {L L':List Ent} {i:Nat} {x:Ent} (h:Once L) (h':Once L') (hi:i<L.length) (hx:(en L i).place=x.place) (hm:∀e,e∈L'↔e∈L.set i x) (p:Int):agL L' p=if p=x.place then some (x.order,x.out)else agL L p:=by
 refine agL_ext (L:=L) (f:=fun p=>if p=x.place then some (x.order,x.out)else agL L p) h' (fun p o d=> ?_) p
 rw[hm,mem_set h hi hx]
 by_cases e:p=x.place
 ·subst e
  simp only[if_true,Option.some.injEq,Prod.mk.injEq]
  constructor
  ·rintro⟨rfl,rfl⟩;exact .inl rfl
  ·rintro(h1 | ⟨_,h1⟩)
   ·rw[←h1];exact⟨rfl,rfl⟩
   ·exact(h1 rfl).elim
 ·simp only[if_neg e]
  rw[agL_mem h]
  constructor
  ·exact fun h1=> .inr ⟨h1,e⟩
  ·rintro(h1 | ⟨h1,_⟩)
   ·exact absurd (by rw[←h1]) e
   ·exact h1
theorem agL_drop {L M:List Ent} {x:Ent} (h:Once L) (h':Once M) (hl:M.length+1=L.length) (hm:∀e,e∈L↔e∈M++ [x]) (hn:∀e∈M,e.place≠x.place) (p:Int):agL M p=if p=x.place then none else agL L p:=by
 refine agL_ext (L:=L) (f:=fun p=>if p=x.place then none else agL L p) h' (fun p o d=> ?_) p
 by_cases e:p=x.place
 ·subst e
  simp only[if_true]
  exact⟨fun h=>(by cases h),fun h1=>(hn _ h1 rfl).elim⟩
 ·simp only[if_neg e]
  rw[agL_mem h,hm,List.mem_append,List.mem_singleton]
  constructor
  ·rintro(h1 | h1)
   ·exact h1
   ·exact absurd (by rw[←h1]) e
  ·exact .inl
theorem len_sub:∀{L M:List Ent},L.Nodup→(∀a∈L,a∈M)→L.length≤M.length
 | [],M,_,_=>by simp
 | a::L,M,hnd,hs=>by
  have ha:=hs a (by simp)
  obtain⟨h1,h2⟩:=List.nodup_cons.1 hnd
  have h3:=len_sub (L:=L) (M:=M.erase a) h2 (fun b hb=>(List.mem_erase_of_ne (fun(e:b=a)=>h1 (e▸hb))).2 (hs b (by simp[hb])))
  rw[List.length_erase_of_mem ha]at h3
  have:=List.length_pos_of_mem ha
  simp only[List.length_cons]
  omega
theorem once_apart:∀{L M:List Ent} {x:Ent},Once L→Once M→M.length+1=L.length→(∀e,e∈L↔e∈M++ [x])→∀e∈M,e.place≠x.place:=by
 intro L M x hL hM hl hm e he hp
 have hxL:x∈L:=(hm x).2 (by simp)
 have heL:e∈L:=(hm e).2 (by simp[he])
 have e1:=once_mem hL heL hxL hp
 subst e1
 have hsub:∀a∈L,a∈M:=fun a ha=>by
  rcases List.mem_append.1 ((hm a).1 ha)with h1 | h1
  ·exact h1
  ·rw[List.mem_singleton.1 h1];exact he
 have hnd:L.Nodup:=by
  unfold List.Nodup
  rw[List.pairwise_iff_getElem]
  intro i j hi hj hij h1
  rw[en_get hi,en_get hj]at h1
  have:=hL i j hi hj (by rw[h1])
  omega
 have:=len_sub hnd hsub
 omega
end Go.Proofs.YtimkkkdabmhedaaGreatDoor
