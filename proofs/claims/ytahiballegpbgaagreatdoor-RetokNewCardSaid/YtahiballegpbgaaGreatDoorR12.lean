/- Walk: heap.Push over the pile. -/
import Derived.Test.YtahiballegpbgaaGreatDoorR11
import Derived.Test.YtahiballegpbgaaGreatDoorR6
set_option linter.unusedVariables false
set_option maxHeartbeats 2000000
set_option maxRecDepth 100000
namespace Go.Proofs.YtahiballegpbgaaGreatDoor
open Go.RowKit Go.ChangeMaps
theorem aCo (n:Nat) (a:Addr) (w:World):(method (n+1) 291 (.pointer (some a)) "Len").run Tryz.prog w= .ok (244, .pointer (some a)) w:=by kernel_rfl
theorem m_push (n:Nat) (a:Addr) (w:World):(method (n+1) 291 (.pointer (some a)) "Push").run Tryz.prog w= .ok (279, .pointer (some a)) w:=by kernel_rfl
theorem fZ {base g mb:Nat} {v:Value} {L:List Ent} (x:Ent) (w:World) (h:aB w base g mb v L) (hH:pE L L.length) (hx:∀i,i<L.length->(en L i).place≠x.place) (hp: -9223372036854775808<=x.place/\x.place<=9223372036854775807) (hn:L.length+1<=1048576) (hb:base<=w.heap.size):
  Calls Tryz.prog 241 #[.iface 291 (.pointer (some ⟨g,0,none⟩)), .iface 256 (.agg #[.int .i64 x.place, .int .i64 x.order, .int .i64 x.out])] w fun e w'=>e= .returned (.tuple #[])/\∃v' L',aB w' base g mb v' L'/\pE L' (L.length+1)/\pI (L++ [x]) L' (L.length+1)/\Trod w w' g mb v v':=by
 have HC:=hW_ (R2 x w h hx hp hn hb);have HU:=hW_ (aDQ (x:=x) hH);have ml:=aCo;have ms:=m_push;have hl:(L++ [x]).length=L.length+1:=by simp
 have HLN:=hW_ hl;obtain⟨n,hn'⟩:∃n,L.length=n:=⟨_,rfl⟩;rw[hn']at HU HLN;have q1:IntKind.i64.wrap (n:Int)=(n:Int):=by rw[IntKind.wrap_i64];omega
 rw[hn'];clear h hH hx hp hn hb hl;go_enter Tryz.func241,Tryz.ntmps241;go_wp2_with (first
  | (go_at_call 279;refine HC.out.mono ?_;rintro e w1 ⟨rfl,v1,hP1,hT1⟩;have HP1:=hW_ hP1;have HT1:=hW_ hT1;clear hP1 hT1)
  | (go_at_call 244;refine(D8 _ HP1.out).mono ?_;rintro e w2 ⟨rfl,rfl⟩;rw[HLN.out])
  | (go_at_call 250;refine(eR (n+1) n _ HP1.out (by omega) (by rw[HLN.out];omega) HU.out).mono ?_;rintro e w3 ⟨rfl,L',hP3,hH3,hR3,hT3⟩))
 go_end0
 exact⟨rfl,v1,L',hP3,hH3,hR3,HT1.out.trans hT3⟩
theorem m_pop (n:Nat) (a:Addr) (w:World):(method (n+1) 291 (.pointer (some a)) "Pop").run Tryz.prog w= .ok (278, .pointer (some a)) w:=by kernel_rfl
theorem tM {L:List Ent} {n:Nat} (h:L.length=n+1):∃M,L=M++ [en L n]/\M.length=n:=by
 refine⟨L.take n,?_,by simp;omega⟩;apply List.ext_getElem?;intro k;rw[List.getElem?_append];simp only[List.length_take]
 by_cases hk:k<n
 ·rw[if_pos (by omega)];simp[hk]
 ·rw[if_neg (by omega)]
  by_cases e:k=n
  ·subst e;rw[dE (by omega)];simp[show min k L.length=k by omega]
  ·rw[List.getElem?_eq_none (by omega),List.getElem?_eq_none (by simp;omega)]
theorem aBn {base g mb:Nat} {v:Value} {L:List Ent} (n:Nat) (w:World) (h:aB w base g mb v L) (hH:pE L L.length) (hn:L.length=n+1):
  Calls Tryz.prog 220 #[.iface 291 (.pointer (some ⟨g,0,none⟩))] w fun e w'=>e= .returned (.iface 256 (.agg #[.int .i64 (en L 0).place, .int .i64 (en L 0).order, .int .i64 (en L 0).out]))/\∃v' M,aB w' base g mb v' M/\pE M n/\M.length=n/\(∀e,e∈L↔e∈M++ [en L 0])/\Trod w w' g mb v v':=by
 have hH':pE L (n+1):=by rw[<-hn];exact hH
 have hD:nO (swp L 0 n) n 0 False:=by
  by_cases h0:n=0
  ·subst h0;exact⟨fun k k0 hk=>by omega,fun c c0 hc=>by omega⟩
  ·exact aV hH' (by omega) (by omega)
 have HL:=hW_ (D8 w h);have HS:=hW_ (sC 0 n w h (by omega) (by omega));have HR:=hW_ (pI.swp (L:=L) (n:=n+1) (i:=0) (j:=n) (by omega) (by omega) (by omega));have HD:=hW_ hD;have HN:=hW_ hn;have hlast:en (swp L 0 n) n=en L 0:=by rw[F7 n (by omega) (by omega),if_pos rfl]
 have HLA:=hW_ hlast;have hsm:=h.small;have q1:IntKind.i64.wrap (n:Int)=(n:Int):=by rw[IntKind.wrap_i64];omega
 have ml:=aCo;have mp:=m_pop;have ms:=mW;rw[hn]at HL hsm;clear h hH hH' hD hn hlast;go_enter Tryz.func220,Tryz.ntmps220;go_wp2_with (first
  | (go_at_call 244;refine HL.out.mono ?_;rintro e w1 ⟨rfl,rfl⟩)
  | (go_at_call 280;refine HS.out.mono ?_;rintro e w2 ⟨rfl,hP2,hT2⟩;have HP2:=hW_ hP2;have HT2:=hW_ hT2;clear hP2 hT2)
  | (go_at_call 245;refine(xM n 0 _ HP2.out (by omega) (by have:=HN.out;rw[jC];omega) HD.out).mono ?_;rintro e w3 ⟨t,L3,rfl,hE⟩;have HE:=hW_ hE;clear hE;obtain⟨M,hM,hMl⟩:=tM (L:=L3) (n:=n) (by have:=HE.out.rest.len;have:=HN.out;rw[jC]at *;omega);have HM:=hW_ hM;have HML:=hW_ hMl;have HP3:=hW_ (by have:=HE.out.pile;rw[hM]at this;exact this);have HX:Hid (en L3 n=en L 0):=hW_ ((HE.out.rest.tail n (Nat.le_refl _)).trans HLA.out);clear hM hMl)
  | (go_at_call 278;refine(vF _ _ HP3.out).mono ?_;rintro e w4 ⟨rfl,v4,hP4,hT4⟩))
 go_ret;have hHL:pE L3 n:=by
  cases t with
  | true=>exact HE.out.yes rfl
  | false=>
   obtain⟨e1,e2⟩:=HE.out.no rfl;rw[e1];exact tV e2 (.inl rfl)
 have hM:=HM.out;rw[HX.out]at hM;refine⟨by rw[<-HX.out];rfl,v4,M,hP4,?_,HML.out,fun e=> ?_,(HT2.out.trans HE.out.trod).trans hT4⟩
 ·intro k k0 hk;have:=hHL k k0 hk;rw[hM,nE (by have:=HML.out;omega),nE (by have:=HML.out;have:=nD k0;omega)]at this;exact this
 ·rw[<-hM];exact((HR.out.mem e).symm).trans (HE.out.rest.mem e).symm
theorem aBo {base g mb:Nat} {v:Value} {L:List Ent} (i:Nat) (w:World) (h:aB w base g mb v L) (hi:i<L.length) (hD:nO L L.length i False):
  Calls Tryz.prog 242 #[.iface 291 (.pointer (some ⟨g,0,none⟩)), .int .i64 i] w fun e w'=>e= .returned (.tuple #[])/\∃L',aB w' base g mb v L'/\pE L' L.length/\pI L L' L.length/\Trod w w' g mb v v:=by
 have HL:=hW_ (D8 w h);have HDn:=hW_ (xM L.length i w h (by omega) (Nat.le_refl _) hD);have ml:=aCo;have hsm:=h.small;obtain⟨n,hn⟩:∃n,L.length=n:=⟨_,rfl⟩;rw[hn]at HL HDn hi hsm |-;have HN:=hW_ hn;have HI:=hW_ hi;clear h hD hn hi;go_enter Tryz.func242,Tryz.ntmps242;go_wp2_with (go_at_call 244;refine HL.out.mono ?_;rintro e w1 ⟨rfl,rfl⟩);go_at_call 245;refine HDn.out.mono ?_
 rintro e w2 ⟨t,L2,rfl,hE⟩;have HE:=hW_ hE;clear hE
 cases t with
 | true=>
  go_wp2_with (fail)
  go_end0
  exact⟨rfl,L2,HE.out.pile,HE.out.yes rfl,HE.out.rest,HE.out.trod⟩
 | false=>
  go_wp2_with (go_at_call 250;refine(eR n i _ HE.out.pile HI.out (by have:=HE.out.rest.len;have:=HN.out;omega) (by have:=HE.out.no rfl;rw[this.1];exact this.2)).mono ?_;rintro e w3 ⟨rfl,L3,hP3,hH3,hR3,hT3⟩)
  go_end0
  exact⟨rfl,L3,hP3,hH3,HE.out.rest.trans hR3,HE.out.trod.trans hT3⟩
theorem jZ {M:List Ent} {x:Ent} {n:Nat} (h:pE (M++ [x]) n) (hn:n<=M.length):pE M n:=fun k k0 hk=>by
 have:=h k k0 hk;rw[nE (by omega),nE (by have:=nD k0;omega)]at this;exact this
def RemP (w:World) (base g mb:Nat) (v:Value) (L:List Ent) (n i:Nat) (e:Ending) (w':World):Prop:=
 (∃x,e= .returned x)/\∃v' M,aB w' base g mb v' M/\pE M n/\M.length=n/\(∀e,e∈L↔e∈M++ [en L i])/\Trod w w' g mb v v'
theorem T1 {base g mb:Nat} {v:Value} {L:List Ent} (n i:Nat) (w:World) (h:aB w base g mb v L) (hH:pE L L.length) (hn:L.length=n+1) (hi:i<=n):
  Calls Tryz.prog 243 #[.iface 291 (.pointer (some ⟨g,0,none⟩)), .int .i64 i] w (RemP w base g mb v L n i):=by
 have HL:=hW_ (D8 w h);have hsm:=h.small;have q1:IntKind.i64.wrap (n:Int)=(n:Int):=by rw[IntKind.wrap_i64];omega
 have ml:=aCo;have mp:=m_pop;have ms:=mW;rw[hn]at HL hsm hH
 by_cases hin:i=n
 ·subst hin;obtain⟨M,hM,hMl⟩:=tM hn;have hP:=h;rw[hM]at hP;have HP:=hW_ (vF _ _ hP);have HM:=hW_ hM;have HML:=hW_ hMl;have HH:=hW_ hH;clear h hH hn hP hM hMl;go_enter Tryz.func243,Tryz.ntmps243;go_wp2_with (first
   | (go_at_call 244;refine HL.out.mono ?_;rintro e w1 ⟨rfl,rfl⟩)
   | (go_at_call 278;refine HP.out.mono ?_;rintro e w4 ⟨rfl,v4,hP4,hT4⟩))
  go_ret;refine⟨⟨_,rfl⟩,v4,M,hP4,jZ (n:=i) (by have:=HH.out;rw[HM.out]at this;exact this.less (by omega)) (by have:=HML.out;omega),HML.out,fun e=> ?_,hT4⟩;rw[<-HM.out]
 ·have hD:=aV (i:=i) hH (by omega) (by omega);have HS:=hW_ (sC i n w h (by omega) (by omega));have HR:=hW_ (pI.swp (L:=L) (n:=n+1) (i:=i) (j:=n) (by omega) (by omega) (by omega));have HD:=hW_ hD;have HN:=hW_ hn;have hlast:en (swp L i n) n=en L i:=by rw[F7 n (by omega) (by omega),if_pos rfl]
  have HLA:=hW_ hlast;have q2:¬(n:Int)=(i:Int):=by omega
  have HI:Hid (i<n):=hW_ (by omega);clear h hH hD hn hlast hin hi;go_enter Tryz.func243,Tryz.ntmps243;go_wp2_with (first
   | (go_at_call 244;refine HL.out.mono ?_;rintro e w1 ⟨rfl,rfl⟩)
   | (go_at_call 280;refine HS.out.mono ?_;rintro e w2 ⟨rfl,hP2,hT2⟩;have HP2:=hW_ hP2;have HT2:=hW_ hT2;clear hP2 hT2))
  go_at_call 245;refine(xM n i _ HP2.out (by have:=HI.out;omega) (by have:=HN.out;rw[jC];omega) HD.out).mono ?_
  rintro e w3 ⟨t,L3,rfl,hE⟩;have HE:=hW_ hE;clear hE;have key:∀(w5:World) (L5:List Ent),aB w5 base g mb v L5->pE L5 n->pI (swp L i n) L5 n->Trod _ w5 g mb v v->Hid (∃M,aB w5 base g mb v (M++ [en L i])/\pE M n/\M.length=n/\(∀e,e∈L↔e∈M++ [en L i])/\Trod w w5 g mb v v):=fun w5 L5 h1 h2 h3 h4=>by
   obtain⟨M,hM,hMl⟩:=tM (L:=L5) (n:=n) (by have:=h3.len;have:=HN.out;rw[jC]at *;omega);have e1:en L5 n=en L i:=(h3.tail n (Nat.le_refl _)).trans HLA.out;rw[e1]at hM;refine hW_ ⟨M,by rw[<-hM];exact h1,jZ (by rw[<-hM];exact h2) (by omega),hMl,fun e=> ?_,HT2.out.trans h4⟩;rw[<-hM];exact((HR.out.mem e).symm).trans (h3.mem e).symm
  have HK:=hW_ key;clear key
  cases t with
  | true=>
   have HF:=HK.out _ _ HE.out.pile (HE.out.yes rfl) HE.out.rest HE.out.trod;obtain⟨M,hP5,hH5,hl5,hm5,hT5⟩:=HF.out;have HP5:=hW_ hP5;have HH5:=hW_ hH5;have Hl5:=hW_ hl5;have HM5:=hW_ hm5;have HT5:=hW_ hT5;clear hP5 hH5 hl5 hm5 hT5;go_wp2_with (go_at_call 278;refine(vF _ _ HP5.out).mono ?_;rintro e w4 ⟨rfl,v4,hP4,hT4⟩);go_ret;exact⟨⟨_,rfl⟩,v4,M,hP4,HH5.out,Hl5.out,HM5.out,HT5.out.trans hT4⟩
  | false=>
   go_wp2_with (go_at_call 250;refine(eR n i _ HE.out.pile HI.out (by have:=HE.out.rest.len;have:=HN.out;rw[jC]at *;omega) (by have:=HE.out.no rfl;rw[this.1];exact this.2)).mono ?_;rintro e w5 ⟨rfl,L5,hP3,hH3,hR3,hT3⟩;have HF:=HK.out _ _ hP3 hH3 (HE.out.rest.trans hR3) (HE.out.trod.trans hT3);clear hP3 hH3 hR3 hT3;obtain⟨M,hP5,hH5,hl5,hm5,hT5⟩:=HF.out;have HP5:=hW_ hP5;have HH5:=hW_ hH5;have Hl5:=hW_ hl5;have HM5:=hW_ hm5;have HT5:=hW_ hT5;clear hP5 hH5 hl5 hm5 hT5);go_wp2_with (go_at_call 278;refine(vF _ _ HP5.out).mono ?_;rintro e w4 ⟨rfl,v4,hP4,hT4⟩);go_ret;exact⟨⟨_,rfl⟩,v4,M,hP4,HH5.out,Hl5.out,HM5.out,HT5.out.trans hT4⟩
open Go
theorem iO {L:List Ent} (h:fF L) {p o d:Int}:agL L p=some (o,d)↔(⟨p,o,d⟩:Ent)∈L:=by
 rw[S1 h];constructor
 ·rintro⟨i,hi,e⟩;exact e▸List.mem_of_getElem? (dE hi)
 ·intro hm;obtain⟨i,hi,e⟩:=List.getElem_of_mem hm;exact⟨i,hi,by rw[<-gD hi,e]⟩
theorem once_mem {L:List Ent} (h:fF L) {a b:Ent} (ha:a∈L) (hb:b∈L) (hp:a.place=b.place):a=b:=by
 obtain⟨i,hi,rfl⟩:=List.getElem_of_mem ha;obtain⟨j,hj,rfl⟩:=List.getElem_of_mem hb;rw[gD hi,gD hj]at hp |-;rw[h i j hi hj hp]
theorem eX {L L':List Ent} {f:Int->Option (Int×Int)} (hL':fF L') (hf:∀p o d,f p=some (o,d)↔(⟨p,o,d⟩:Ent)∈L') (p:Int):agL L' p=f p:=by
 cases h1:agL L' p with
 | some x=>
  obtain⟨o,d⟩:=x;exact((hf p o d).2 ((iO hL').1 h1)).symm
 | none=>
  cases h2:f p with
  | none=>rfl
  | some x=>
   obtain⟨o,d⟩:=x;rw[(iO hL').2 ((hf p o d).1 h2)]at h1
   cases h1
theorem agL_put {L L':List Ent} {x:Ent} (h:fF L) (h':fF L') (hx:∀i,i<L.length->(en L i).place≠x.place) (hm:∀e,e∈L'↔e∈L++ [x]) (p:Int):agL L' p=if p=x.place then some (x.order,x.out)else agL L p:=by
 have hx':∀e∈L,e.place≠x.place:=fun e he=>by
  obtain⟨i,hi,rfl⟩:=List.getElem_of_mem he;rw[gD hi];exact hx i hi
 refine eX (L:=L) (f:=fun p=>if p=x.place then some (x.order,x.out)else agL L p) h' (fun p o d=> ?_) p;rw[hm,List.mem_append,List.mem_singleton]
 by_cases e:p=x.place
 ·subst e;simp only[if_true,Option.some.injEq,Prod.mk.injEq];constructor
  ·rintro⟨rfl,rfl⟩;exact .inr rfl
  ·rintro(h1 | h1)
   ·exact(hx' _ h1 rfl).elim
   ·rw[<-h1];exact⟨rfl,rfl⟩
 ·simp only[if_neg e];rw[iO h];constructor
  ·exact .inl
  ·rintro(h1 | h1)
   ·exact h1
   ·exact absurd (by rw[<-h1]) e
theorem aCn {L:List Ent} {i:Nat} {x:Ent} (h:fF L) (hi:i<L.length) (hx:(en L i).place=x.place) (e:Ent):e∈L.set i x↔e=x\/(e∈L/\e.place≠x.place):=by
 constructor
 ·intro hm;obtain⟨k,hk,rfl⟩:=List.getElem_of_mem hm;simp only[List.length_set]at hk;rw[List.getElem_set]
  by_cases e1:i=k
  ·rw[if_pos e1];exact .inl rfl
  ·rw[if_neg e1];refine .inr ⟨List.getElem_mem _,fun e2=> ?_⟩;rw[gD hk,<-hx]at e2;exact e1 (h k i hk hi e2).symm
 ·rintro(rfl | ⟨h1,h2⟩)
  ·exact List.mem_of_getElem? (i:=i) (by simp[hi])
  ·obtain⟨k,hk,rfl⟩:=List.getElem_of_mem h1;rw[gD hk]at h2 |-;have e1:i≠k:=fun e=>h2 (by rw[<-e,hx])
   refine List.mem_of_getElem? (i:=k) ?_
   rw[List.getElem?_set_ne e1,dE hk]
theorem nY {L:List Ent} {i:Nat} {x:Ent} (h:fF L) (hi:i<L.length) (hx:(en L i).place=x.place):fF (L.set i x):=by
 have key:∀k,(en (L.set i x) k).place=(en L k).place:=fun k=>by
  rw[cP k hi]
  by_cases e:k=i
  ·rw[if_pos e,e,hx]
  ·rw[if_neg e]
 intro a b ha hb hp;rw[key,key]at hp;simp only[List.length_set]at ha hb;exact h a b ha hb hp
theorem atL_set {L:List Ent} {i:Nat} {x:Ent} (h:fF L) (hi:i<L.length) (hx:(en L i).place=x.place) (p:Int):atL (L.set i x) p=atL L p:=by
 have key:∀k,(en (L.set i x) k).place=(en L k).place:=fun k=>by
  rw[cP k hi]
  by_cases e:k=i
  ·rw[if_pos e,e,hx]
  ·rw[if_neg e]
 have h':=nY h hi hx
 cases h1:atL L p with
 | none=>
  rw[iH]at h1 |-;intro k hk;rw[key];exact h1 k (by simpa using hk)
 | some c=>
  have:∃k:Nat,c=(k:Int):=by
   unfold atL at h1;rw[Option.map_eq_some_iff]at h1;obtain⟨k,_,rfl⟩:=h1;exact⟨k,rfl⟩
  obtain⟨k,rfl⟩:=this;rw[vC h]at h1;rw[vC h',key];exact⟨by simpa using h1.1,h1.2⟩
theorem atL_at {L:List Ent} (h:fF L) {p c:Int} (hc:atL L p=some c):∃i:Nat,c=(i:Int)/\i<L.length/\(en L i).place=p:=by
 have:∃k:Nat,c=(k:Int):=by
  unfold atL at hc;rw[Option.map_eq_some_iff]at hc;obtain⟨k,_,rfl⟩:=hc;exact⟨k,rfl⟩
 obtain⟨k,rfl⟩:=this;rw[vC h]at hc;exact⟨k,rfl,hc⟩
theorem agL_set {L L':List Ent} {i:Nat} {x:Ent} (h:fF L) (h':fF L') (hi:i<L.length) (hx:(en L i).place=x.place) (hm:∀e,e∈L'↔e∈L.set i x) (p:Int):agL L' p=if p=x.place then some (x.order,x.out)else agL L p:=by
 refine eX (L:=L) (f:=fun p=>if p=x.place then some (x.order,x.out)else agL L p) h' (fun p o d=> ?_) p;rw[hm,aCn h hi hx]
 by_cases e:p=x.place
 ·subst e;simp only[if_true,Option.some.injEq,Prod.mk.injEq];constructor
  ·rintro⟨rfl,rfl⟩;exact .inl rfl
  ·rintro(h1 | ⟨_,h1⟩)
   ·rw[<-h1];exact⟨rfl,rfl⟩
   ·exact(h1 rfl).elim
 ·simp only[if_neg e];rw[iO h];constructor
  ·exact fun h1=> .inr ⟨h1,e⟩
  ·rintro(h1 | ⟨h1,_⟩)
   ·exact absurd (by rw[<-h1]) e
   ·exact h1
theorem aAh {L M:List Ent} {x:Ent} (h:fF L) (h':fF M) (hl:M.length+1=L.length) (hm:∀e,e∈L↔e∈M++ [x]) (hn:∀e∈M,e.place≠x.place) (p:Int):agL M p=if p=x.place then none else agL L p:=by
 refine eX (L:=L) (f:=fun p=>if p=x.place then none else agL L p) h' (fun p o d=> ?_) p
 by_cases e:p=x.place
 ·subst e;simp only[if_true];exact⟨fun h=>(by cases h),fun h1=>(hn _ h1 rfl).elim⟩
 ·simp only[if_neg e];rw[iO h,hm,List.mem_append,List.mem_singleton];constructor
  ·rintro(h1 | h1)
   ·exact h1
   ·exact absurd (by rw[<-h1]) e
  ·exact .inl
theorem aCr:∀{L M:List Ent},L.Nodup->(∀a∈L,a∈M)->L.length<=M.length
 | [],M,_,_=>by simp
 | a::L,M,hnd,hs=>by
  have ha:=hs a (by simp);obtain⟨h1,h2⟩:=List.nodup_cons.1 hnd;have h3:=aCr (L:=L) (M:=M.erase a) h2 (fun b hb=>(List.mem_erase_of_ne (fun(e:b=a)=>h1 (e▸hb))).2 (hs b (by simp[hb])));rw[List.length_erase_of_mem ha]at h3;have:=List.length_pos_of_mem ha;simp only[List.length_cons];omega
theorem R8:∀{L M:List Ent} {x:Ent},fF L->fF M->M.length+1=L.length->(∀e,e∈L↔e∈M++ [x])->∀e∈M,e.place≠x.place:=by
 intro L M x hL hM hl hm e he hp;have hxL:x∈L:=(hm x).2 (by simp);have heL:e∈L:=(hm e).2 (by simp[he]);have e1:=once_mem hL heL hxL hp;subst e1;have hsub:∀a∈L,a∈M:=fun a ha=>by
  rcases List.mem_append.1 ((hm a).1 ha)with h1 | h1
  ·exact h1
  ·rw[List.mem_singleton.1 h1];exact he
 have hnd:L.Nodup:=by
  unfold List.Nodup;rw[List.pairwise_iff_getElem];intro i j hi hj hij h1;rw[gD hi,gD hj]at h1;have:=hL i j hi hj (by rw[h1]);omega
 have:=aCr hnd hsub;omega
structure AgV (w:World) (base g mb:Nat) (v:Value) (L:List Ent):Prop where
 pile:aB w base g mb v L
 heap:pE L L.length
theorem AgV.below {w w':World} {base g mb:Nat} {v:Value} {L:List Ent} (h:AgV w base g mb v L) (hb:Below w.heap.size w w'):AgV w' base g mb v L:=⟨h.pile.below hb,h.heap⟩
theorem AgV.stay {w w':World} {base g mb:Nat} {v:Value} {L:List Ent} (h:AgV w base g mb v L) (hk:∀q,q<w.heap.size->w'.heap[q]?=w.heap[q]?):AgV w' base g mb v L:=⟨h.pile.stay hk,h.heap⟩
theorem S3 {base g mb:Nat} {v:Value} {L:List Ent} (w:World) (h:AgV w base g mb v L):
  Calls Tryz.prog 219 #[.pointer (some ⟨g,0,none⟩)] w fun e w'=>e= .returned (.int .i64 L.length)/\w=w':=by
 have HL:=hW_ (D8 w h.pile);clear h;go_enter Tryz.func219,Tryz.ntmps219;go_wp2_with (go_at_call 244;refine HL.out.mono ?_;rintro e w1 ⟨rfl,rfl⟩);go_ret;exact⟨rfl,rfl⟩
theorem atL_nil:atL []=fun _=>none:=by funext p;rfl
theorem pile_new (w:World) (base:Nat) (hb:base<=w.heap.size):AgV ((w.alloc (.map #[] 0)).alloc (.cells #[.slice none 0 0, .map (some w.heap.size)] 288)) base (w.heap.size+1) w.heap.size (.slice none 0 0) []:=by
 refine⟨⟨?_,iA.nil _ _,?_,fun i j hi=>by simp at hi,fun e he=>by simp at he,fun q hq=>by simp[Value.ownBlock]at hq,⟨by omega,hb,by omega⟩,by simp⟩,pE.zero []⟩
 ·have:=heap_alloc_new (w.alloc (.map #[] 0)) (.cells #[.slice none 0 0, .map (some w.heap.size)] 288);simpa using this
 ·refine A0.below ?_ (aA _ _)
  rw[atL_nil];exact A0.new iV 3 w
theorem aBH (w:World):
  Calls Tryz.prog 188 #[] w fun e w'=>∃g mb,e= .returned (.pointer (some ⟨g,0,none⟩))/\AgV w' w.heap.size g mb (.slice none 0 0) []/\Below w.heap.size w w'/\w'.heap.size<=w.heap.size+2:=by
 have hmk:=@run_makeMap Tryz.prog;have HP:=hW_ (pile_new w w.heap.size (Nat.le_refl _));have HB:Hid (Below w.heap.size w ((w.alloc (.map #[] 0)).alloc (.cells #[.slice none 0 0, .map (some w.heap.size)] 288))):=hW_ ((aA w _).trans (Below.mono (aA _ _) (aA w _).size));go_enter Tryz.func188,Tryz.ntmps188;go_wp2_with (fail);go_ret;exact⟨_,_,rfl,HP.out,HB.out,by simp⟩
theorem aBt {w:World} {base g mb:Nat} {v:Value} {L:List Ent} (h:aB w base g mb v L) {x:Ent} {i:Nat} (hi:i<L.length) (hx:(en L i).place=x.place):∀e∈L.set i x,-9223372036854775808<=e.place/\e.place<=9223372036854775807:=fun e he=>by
 rcases(aCn h.once hi hx e).1 he with rfl | ⟨h1,_⟩
 ·rw[<-hx];exact h.ok _ (List.mem_of_getElem? (dE hi))
 ·exact h.ok e h1
theorem pile_put {w:World} {base g mb b rc:Nat} {L:List Ent} (h:aB w base g mb (.slice (some ⟨b,0,none⟩) L.length rc) L) {i:Nat} (hi:i<L.length) {x:Ent} (hx:(en L i).place=x.place):
  aB (w.setCells b (i*3) x.enc) base g mb (.slice (some ⟨b,0,none⟩) L.length rc) (L.set i x)/\Trod w (w.setCells b (i*3) x.enc) g mb (.slice (some ⟨b,0,none⟩) L.length rc) (.slice (some ⟨b,0,none⟩) L.length rc):=by
 obtain⟨hA,hAg,hAs⟩:=Ent.put h.row hi x;have hf:=h.far b rfl;have hgl:=(Array.getElem?_eq_some_iff.1 h.box).1;have hml:=h.at_.lt;generalize w.setCells b (i*3) x.enc=W0 at hA hAg hAs |-;have h1:W0.heap[g]?=w.heap[g]? :=hAg.block g hgl (fun e=>hf.1 (Option.some.inj e).symm)
 have h2:W0.heap[mb]?=w.heap[mb]? :=hAg.block mb hml (fun e=>hf.2 (Option.some.inj e).symm)
 refine⟨⟨h1.trans h.box,hA,?_,nY h.once hi hx,aBt h hi hx,h.far,h.lo,by rw[List.length_set];exact h.small⟩,Trod.row hAg⟩;rw[List.length_set];exact(h.at_.stay (w':=W0) h2).congr rfl (fun s _=>(atL_set h.once hi hx s).symm)
def PutP (w:World) (base g mb:Nat) (v:Value) (L:List Ent) (x:Ent) (e:Ending) (w':World):Prop:=
 e= .returned (.tuple #[])/\∃v' L',AgV w' base g mb v' L'/\(∀p,agL L' p=if p=x.place then some (x.order,x.out)else agL L p)/\L'.length<=L.length+1/\Trod w w' g mb v v'
theorem aBG {base g mb:Nat} {v:Value} {L:List Ent} (x:Ent) (w:World) (h:AgV w base g mb v L) (hp: -9223372036854775808<=x.place/\x.place<=9223372036854775807) (hn:L.length+1<=1048576) (hb:base<=w.heap.size):
  Calls Tryz.prog 217 #[.pointer (some ⟨g,0,none⟩), .agg #[.int .i64 x.place, .int .i64 x.order, .int .i64 x.out]] w (PutP w base g mb v L x):=by
 obtain⟨w0,hw0⟩:∃w0,w.alloc (.cells #[.int .i64 x.place, .int .i64 x.order, .int .i64 x.out] 256)=w0:=⟨_,rfl⟩;have hb0:Below w.heap.size w w0:=hw0▸aA w _;have hx0:w0.heap[w.heap.size]?=some (.cells #[.int .i64 x.place, .int .i64 x.order, .int .i64 x.out] 256):=by rw[<-hw0];exact heap_alloc_new w _
 have h0:=h.below hb0;have hbb:base<=w0.heap.size:=Nat.le_trans hb hb0.size;obtain⟨b0,b1,bf⟩:=yH h0.pile.box;obtain⟨x0,x1,x2⟩:=bC hx0;have hok:iV.ok x.place:=gC.2 hp;have hlk:∀m,(Instr.lookup 281 (.map (some mb)) (.int .i64 x.place) true).run Tryz.prog (w0.drewN m)= .ok (.tuple #[.int .i64 ((atL L x.place).getD 0), .bool (atL L x.place).isSome]) (w0.drewN m):=fun m=>
  A0.getOk (V:=iV) Tryz.underlying281 Tryz.underlying3 gU (h0.pile.at_.drewN m) hok
 have HW0:=hW_ hw0;have HB0:=hW_ hb0;have HP:=hW_ hp
 cases hat:atL L x.place with
 | none=>
  have hx:=iH.1 hat;have HC:=fun(W:World) (hW:Below w0.heap.size w0 W)=>fZ x W (h0.below hW).pile h0.heap hx hp hn (Nat.le_trans hbb hW.size)
  have HCC:=hW_ HC;have HX:=hW_ hx;have HO:=hW_ h.pile.once;rw[hat]at hlk;simp only[Option.getD_none,Option.isSome_none]at hlk;clear h0 h hw0 hb0 hx0 hok hp HC hx hat;go_enter Tryz.func217,Tryz.ntmps217;go_wp2_with (fail);rw[HW0.out];go_quiet (fail);go_wp2_with (fail)
  go_region_with (go_at_call 241;refine(HCC.out _ (by exact⟨rfl,rfl,rfl,Nat.le_refl _,fun _ _=>rfl⟩)).mono ?_;rintro e w2 ⟨rfl,v2,L2,hP2,hH2,hR2,hT2⟩;have HP2:=hW_ hP2;have HH2:=hW_ hH2;have HR2:=hW_ hR2;have HT2:=hW_ hT2;clear hP2 hH2 hR2 hT2)
  all_goals(
   go_wp2_with (fail);refine bodyPost_ret (results_none rfl _ _ _) rfl ⟨rfl,v2,L2,⟨HP2.out,?_⟩,fun p=>agL_put HO.out HP2.out.once HX.out HR2.out.mem p,?_,?_⟩
   ·have h1:=HH2.out;have h2:=HR2.out.len;rw[List.length_append]at h2;rw[h2];exact h1
   ·have h2:=HR2.out.len;rw[List.length_append]at h2;rw[h2];exact Nat.le_refl _
   ·exact((Trod.of HB0.out).trans (Trod.of (w:=w0) (by exact⟨rfl,rfl,rfl,Nat.le_refl _,fun _ _=>rfl⟩))).trans HT2.out)
 | some c=>
  obtain⟨i,rfl,hi,hpl⟩:=atL_at h.pile.once hat;rw[hat]at hlk;simp only[Option.getD_some,Option.isSome_some]at hlk;obtain⟨b,rc,rfl,hbb,hbl⟩:=h0.pile.row.at0 (by omega);have hrow:=h0.pile.row;have hfr:=Ent.free hrow;obtain⟨ro,rc',e0,hsl⟩:=hrow.sl;obtain⟨e1,_,e2⟩:=Value.slice.inj e0;subst e1 e2;obtain⟨b',o',hao',hci⟩:=hsl.elem Ent.enc_len (by omega) (dE hi);simp only[Option.some.injEq,Addr.mk.injEq,and_true]at hao';obtain⟨rfl,rfl⟩:=hao';simp only[Nat.zero_add]at hci;have d0:=hci 0 _ rfl;have d1:=hci 1 _ rfl;have d2:=hci 2 _ rfl;rw[Nat.add_zero]at d0;have gi:(i:Int)<(L.length:Int):=by omega
  have gi0:(0:Int)<=(i:Int):=by omega
  have hPP:=fun(q:Nat)=>pile_put (w:=w0.drewN q) (x:=x) (h0.pile.below (bA (Below.refl _ _) q)) hi hpl
  have hFX:=fun(q:Nat)=>aBo i _ (hPP q).1 (by rw[List.length_set];exact hi) (by rw[List.length_set];exact iZ h0.heap hi (Nat.le_refl _))
  have HPP:=hW_ hPP;have HFX:=hW_ hFX;have HO:=hW_ h.pile.once;have HI:=hW_ hi;have HPL:=hW_ hpl;obtain⟨n,hn⟩:∃n,L.length=n:=⟨_,rfl⟩;have HN:=hW_ hn;have HB:=hW_ (show∃y,y=en L i from⟨_,rfl⟩);obtain⟨y,hy⟩:∃y,en L i=y:=⟨_,rfl⟩;rw[hy]at d0 d1 d2;rw[hn]at gi b0 HPP HFX;clear h0 h hw0 hb0 hx0 hok hp hPP hFX hat hrow hsl hci e0 hi hpl hn hy hbb hbl;go_enter Tryz.func217,Tryz.ntmps217;go_wp2_with (fail);rw[HW0.out];go_quiet (fail);go_wp2_with (fail);go_region
  all_goals go_wp2_with (fail)
  all_goals(
   go_at_call 242;refine(HFX.out _).mono ?_;rintro e w2 ⟨rfl,L2,hP2,hH2,hR2,hT2⟩;have HP2:=hW_ hP2;have HH2:=hW_ hH2;have HR2:=hW_ hR2;have HT2:=hW_ hT2;clear hP2 hH2 hR2 hT2
   go_wp2_with (fail)
   go_end0
   have hl:L2.length=n:=by have:=HR2.out.len;rw[List.length_set]at this;rw[this];exact HN.out
   refine⟨rfl,_,L2,⟨HP2.out,?_⟩,fun p=>agL_set HO.out HP2.out.once HI.out HPL.out HR2.out.mem p,by rw[hl,HN.out];omega,?_⟩
   ·have h1:=HH2.out;rw[List.length_set,HN.out]at h1;rw[hl];exact h1
   ·rw[HN.out];exact(((Trod.of HB0.out).trans (Trod.of (w:=w0) (by exact⟨rfl,rfl,rfl,Nat.le_refl _,fun _ _=>rfl⟩))).trans (HPP.out _).2).trans HT2.out)
def DropP (w:World) (base g mb:Nat) (v:Value) (L:List Ent) (pl:Int) (e:Ending) (w':World):Prop:=
 (∃t,e= .returned (.bool t))/\∃v' L',AgV w' base g mb v' L'/\(∀p,agL L' p=if p=pl then none else agL L p)/\L'.length<=L.length/\Trod w w' g mb v v'
theorem aI {base g mb:Nat} {v:Value} {L:List Ent} (pl:Int) (w:World) (h:AgV w base g mb v L) (hp: -9223372036854775808<=pl/\pl<=9223372036854775807):
  Calls Tryz.prog 218 #[.pointer (some ⟨g,0,none⟩), .int .i64 pl] w (DropP w base g mb v L pl):=by
 obtain⟨b0,b1,bf⟩:=yH h.pile.box;have hok:iV.ok pl:=gC.2 hp;have hlk:(Instr.lookup 281 (.map (some mb)) (.int .i64 pl) true).run Tryz.prog w= .ok (.tuple #[.int .i64 ((atL L pl).getD 0), .bool (atL L pl).isSome]) w:=
  A0.getOk (V:=iV) Tryz.underlying281 Tryz.underlying3 gU h.pile.at_ hok
 have H:=hW_ h
 cases hat:atL L pl with
 | none=>
  have hx:=agL_none.2 (iH.1 hat);have HX:=hW_ hx;rw[hat]at hlk;simp only[Option.getD_none,Option.isSome_none]at hlk;clear h hok hp hx hat;go_enter Tryz.func218,Tryz.ntmps218;go_wp2_with (fail);go_ret;refine⟨⟨_,rfl⟩,v,L,H.out,fun p=> ?_,Nat.le_refl _,Trod.of (Below.refl _ _)⟩
  by_cases e:p=pl
  ·rw[if_pos e,e];exact HX.out
  ·rw[if_neg e]
 | some c=>
  obtain⟨i,rfl,hi,hpl⟩:=atL_at h.pile.once hat;rw[hat]at hlk;simp only[Option.getD_some,Option.isSome_some]at hlk;obtain⟨n,hn⟩:∃n,L.length=n+1:=⟨L.length-1,by omega⟩;have HR:=hW_ (T1 n i w h.pile h.heap hn (by omega));have HN:=hW_ hn;have HPL:=hW_ hpl;clear h hok hp hat hi hpl hn;go_enter Tryz.func218,Tryz.ntmps218;go_wp2_with (fail);go_at_call 243;refine HR.out.mono ?_
  rintro e w2 ⟨⟨y,rfl⟩,v2,M,hP2,hH2,hl2,hm2,hT2⟩;have HP2:=hW_ hP2;have HH2:=hW_ hH2;have HL2:=hW_ hl2;have HM2:=hW_ hm2;have HT2:=hW_ hT2;clear hP2 hH2 hl2 hm2 hT2;go_wp2_with (fail);go_ret;have hl:=HL2.out;have hln:=HN.out;refine⟨⟨_,rfl⟩,v2,M,⟨HP2.out,by rw[hl];exact HH2.out⟩,fun p=> ?_,by omega,HT2.out⟩;have:=aAh H.out.pile.once HP2.out.once (by omega) HM2.out (R8 H.out.pile.once HP2.out.once (by omega) HM2.out) p;rw[HPL.out]at this;exact this
theorem AgV.other {w w':World} {base g mb:Nat} {v:Value} {L:List Ent} (h:AgV w base g mb v L) (hk:∀q,q=g\/q=mb\/v.ownBlock=some q->w'.heap[q]?=w.heap[q]?):AgV w' base g mb v L:=
 ⟨⟨(hk _ (.inl rfl)).trans h.pile.box,jA h.pile.row (fun q hq=>hk q (.inr (.inr hq))),h.pile.at_.stay (hk _ (.inr (.inl rfl))),h.pile.once,h.pile.ok,h.pile.far,h.pile.lo,h.pile.small⟩,h.heap⟩
theorem Trod.setNew {w W:World} {g mb:Nat} {v v':Value} (h:Trod w W g mb v v') {b:Nat} (hb:w.heap.size<=b) (i:Nat) (u:Value):Trod w (W.setCell ⟨b,i,none⟩ u) g mb v v':=
 ⟨h.os,h.tape,h.output,by have:=h.size;simpa using this,fun q hq h1 h2 h3=>(heap_setCell_other W ⟨b,i,none⟩ q u (fun(e:q=b)=>by omega)).trans (h.block q hq h1 h2 h3),h.new⟩
def TakeP (w:World) (base g mb:Nat) (v:Value) (L:List Ent) (e:Ending) (w':World):Prop:=
 e= .returned (.tuple #[.agg #[.int .i64 (en L 0).place, .int .i64 (en L 0).order, .int .i64 (en L 0).out], .bool true])/\∃v' L',AgV w' base g mb v' L'/\(∀p,agL L' p=if p=(en L 0).place then none else agL L p)/\L'.length+1=L.length/\Trod w w' g mb v v'
theorem aBF {base g mb:Nat} {v:Value} (w:World) (h:AgV w base g mb v []):
  Calls Tryz.prog 190 #[.pointer (some ⟨g,0,none⟩)] w fun e w'=>e= .returned (.tuple #[.agg #[.int .i64 0, .int .i64 0, .int .i64 0], .bool false])/\Below w.heap.size w w':=by
 have HL:Hid (Calls Tryz.prog 219 #[.pointer (some ⟨g,0,none⟩)] (w.alloc (.cells #[.int .i64 0, .int .i64 0, .int .i64 0] 256)) fun e w'=>e= .returned (.int .i64 0)/\(w.alloc (.cells #[.int .i64 0, .int .i64 0, .int .i64 0] 256))=w'):=hW_ (S3 _ (h.below (aA w _)));obtain⟨x0,x1,x2⟩:=bC (heap_alloc_new w (.cells #[.int .i64 0, .int .i64 0, .int .i64 0] 256));clear h;go_enter Tryz.func190,Tryz.ntmps190;go_wp2_with (go_at_call 219;refine HL.out.mono ?_;rintro e w1 ⟨rfl,rfl⟩);refine bodyPost_ret (v:= .tuple #[.agg #[.int .i64 0, .int .i64 0, .int .i64 0], .bool false]) ?_ rfl ⟨rfl,aA w _⟩
 simp[results,Tryz.results190,go_sem,x0,x1,x2]
theorem aAi {base g mb:Nat} {v:Value} {L:List Ent} (w:World) (h:AgV w base g mb v L) (h0:0<L.length):
  Calls Tryz.prog 190 #[.pointer (some ⟨g,0,none⟩)] w (TakeP w base g mb v L):=by
 obtain⟨n,hn⟩:∃n,L.length=n+1:=⟨L.length-1,by omega⟩;obtain⟨x,hx⟩:∃x,en L 0=x:=⟨_,rfl⟩;have hB1:=aA w (.cells #[.int .i64 0, .int .i64 0, .int .i64 0] 256);have hA1:=h.below hB1;have hlen:=S3 _ hA1;rw[hn]at hlen;have hB2:=aA (w.alloc (.cells #[.int .i64 0, .int .i64 0, .int .i64 0] 256)) (.cells #[.int .i64 x.place, .int .i64 x.order, .int .i64 x.out] 256);have hA2:=hA1.below hB2;have hpop:=aBn n _ hA2.pile hA2.heap hn;obtain⟨w2,hw2⟩:∃w2,(w.alloc (.cells #[.int .i64 0, .int .i64 0, .int .i64 0] 256)).alloc (.cells #[.int .i64 x.place, .int .i64 x.order, .int .i64 x.out] 256)=w2:=⟨_,rfl⟩;obtain⟨b0,b1,bf⟩:=yH hA1.pile.box;obtain⟨b,rc,rfl,hbb,hbl⟩:=hA1.pile.row.at0 (by omega);obtain⟨ro,rc',e0,hsl⟩:=hA1.pile.row.sl;obtain⟨e1,_,e2⟩:=Value.slice.inj e0;subst e1 e2;obtain⟨b',o',hao',hci⟩:=hsl.elem Ent.enc_len (by omega) (dE (L:=L) (i:=0) (by omega));simp only[Option.some.injEq,Addr.mk.injEq,and_true]at hao';obtain⟨rfl,rfl⟩:=hao';rw[hx]at hci;simp only[Nat.zero_add,Nat.zero_mul]at hci;have d0:=hci 0 _ rfl;have d1:=hci 1 _ rfl;have d2:=hci 2 _ rfl;have gn:(0:Int)<((n+1:Nat):Int):=by omega
 rw[hn]at b0;have HLN:=hW_ hlen;have HX:=hW_ hx;have HN:=hW_ hn;have H:=hW_ h;have HB12:Hid (Below w.heap.size w w2):=hW_ (hw2▸hB1.trans (Below.mono hB2 hB1.size));have hz1:=heap_alloc_new w (.cells #[.int .i64 0, .int .i64 0, .int .i64 0] 256);have hz2:=heap_alloc_new (w.alloc (.cells #[.int .i64 0, .int .i64 0, .int .i64 0] 256)) (.cells #[.int .i64 x.place, .int .i64 x.order, .int .i64 x.out] 256);have hz1':=(hB2.block w.heap.size (by simp)).trans hz1;have hs1:(w.alloc (.cells #[.int .i64 0, .int .i64 0, .int .i64 0] 256)).heap.size=w.heap.size+1:=by simp
 have hs2:w2.heap.size=w.heap.size+2:=by rw[<-hw2];simp
 rw[hw2]at hpop hz1' hz2;rw[hs1]at hz2;have HPOP:=hW_ hpop;have HZ1:=hW_ hz1';have HZ2:=hW_ hz2;have HS2:=hW_ hs2;have HW2:=hW_ hw2;have hgl:g<w.heap.size:=(Array.getElem?_eq_some_iff.1 h.pile.box).1;have hml:mb<w.heap.size:=h.pile.at_.lt;have hbw:b<w.heap.size:=(World.ownsRow.lt h.pile.row b rfl).2;have HGL:=hW_ (show g<w.heap.size/\mb<w.heap.size/\b<w.heap.size from⟨hgl,hml,hbw⟩);clear h h0 hB1 hB2 hA1 hA2 hlen hpop hsl hci hx hn hz1 hz1' hz2 hs1 hs2 hw2 hgl hml hbw e0 hbb hbl;go_enter Tryz.func190,Tryz.ntmps190;go_wp2_with (go_at_call 219;refine HLN.out.mono ?_;rintro e w1 ⟨rfl,rfl⟩);rw[HW2.out];go_at_call 220;refine HPOP.out.mono ?_
 rintro e w3 ⟨rfl,v3,M,hP3,hH3,hl3,hm3,hT3⟩;have k0:w3.heap[w.heap.size]?=_:=(hT3.block w.heap.size (by have:=HS2.out;omega) (by have:=HGL.out;omega) (by have:=HGL.out;omega) (by have:=HGL.out;simp only[Value.ownBlock,ne_eq,Option.some.injEq];omega)).trans HZ1.out
 have k1:w3.heap[w.heap.size+1]?=_:=(hT3.block (w.heap.size+1) (by have:=HS2.out;omega) (by have:=HGL.out;omega) (by have:=HGL.out;omega) (by have:=HGL.out;simp only[Value.ownBlock,ne_eq,Option.some.injEq];omega)).trans HZ2.out
 obtain⟨y0,y1,y2⟩:=bC k0;obtain⟨z0,z1,z2⟩:=bC k1;have yf:∀o,w3.frozen? ⟨w.heap.size,o,none⟩=false:=fun o=>by simp[World.frozen?,k0]
 have HP3:=hW_ hP3;have HH3:=hW_ hH3;have HL3:=hW_ hl3;have HM3:=hW_ hm3;have HT3:=hW_ hT3;have K0:=hW_ k0;clear hP3 hH3 hl3 hm3 hT3 k0 k1;go_wp2_with (fail);have hn:=HN.out;have hl3:=HL3.out;have hT0:Trod w w3 g mb (.slice (some ⟨b,0,none⟩) L.length rc) v3:=(Trod.of HB12.out).trans HT3.out;have hnb:∀q,v3.ownBlock=some q->q≠w.heap.size:=fun q hq e=>by
  rcases HT3.out.new q hq with h1 | h1
  ·have:=HGL.out;simp[Value.ownBlock]at h1;omega
  ·have:=HS2.out;omega
 refine bodyPost_ret (v:= .tuple #[.agg #[.int .i64 x.place, .int .i64 x.order, .int .i64 x.out], .bool true]) ?_ rfl ⟨by rw[HX.out],v3,M,AgV.other (w:=w3) ⟨HP3.out,by rw[hl3];exact HH3.out⟩ ?_,fun p=>aAh H.out.pile.once HP3.out.once (by omega) HM3.out (R8 H.out.pile.once HP3.out.once (by omega) HM3.out) p,by omega,((hT0.setNew (Nat.le_refl _) _ _).setNew (Nat.le_refl _) _ _).setNew (Nat.le_refl _) _ _⟩
 ·simp[results,Tryz.results190,go_sem,y0,y1,y2]
 ·intro q hq;have hqn:q≠w.heap.size:=by
   have:=HGL.out;rcases hq with rfl | rfl | hq
   ·omega
   ·omega
   ·exact hnb q hq
  have hk:∀(W:World) (o:Nat) (u:Value),(W.setCell ⟨w.heap.size,o,none⟩ u).heap[q]?=W.heap[q]? :=fun W o u=>heap_setCell_other W ⟨w.heap.size,o,none⟩ q u hqn
  rw[hk,hk,hk]
end Go.Proofs.YtahiballegpbgaaGreatDoor
