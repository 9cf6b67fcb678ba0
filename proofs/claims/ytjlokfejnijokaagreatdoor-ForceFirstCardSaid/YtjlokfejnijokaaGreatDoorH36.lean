/- The cache as a row of keys and rows, and the blocks at which it looks. -/
import Derived.Test.YtjlokfejnijokaaGreatDoorH35
import Derived.Test.YtjlokfejnijokaaGreatDoorH23
import Derived.Test.YtjlokfejnijokaaGreatDoorH7
import Derived.Test.YtjlokfejnijokaaGreatDoorH34
import Derived.LoopN
import Derived.Test.YtjlokfejnijokaaGreatDoorH10
set_option linter.unusedVariables false
set_option maxHeartbeats 4000000
set_option maxRecDepth 100000
namespace Go.Proofs.YtjlokfejnijokaaGreatDoor
open Go.RowKit
theorem sM {a b:Nd} (h:a.held=b.held):a.ro=b.ro/\a.key=b.key:=by
 simp only[Nd.held,Prod.mk.injEq]at h;exact⟨h.2.1,h.1⟩
def fE (w:World) (base top cb mb:Nat) (no:Option Addr) (l:List Row) (room hits misses:Int) (P:Nat->Prop):Prop:=
 ∃m cap N e y ord sz f R,(CSt w base top cb mb no m cap N e y room hits misses ord sz f R/\(∀k,Ft cb mb no k->P k)/\(∀i,i<m->∀ad,(N i).ro=some ad->P ad.block))/\aCA ord N R sz m f/\l=ord.map fun i=>((N i).key,R i)
section
variable {w:World} {base top cb mb:Nat} {no:Option Addr} {l:List Row} {room hits misses:Int} {P:Nat->Prop}
theorem fE.rep (h:fE w base top cb mb no l room hits misses P):oG w base top cb mb no l room hits misses:=
 let ⟨m,cap,N,e,y,ord,sz,f,R,hc,hg,hl⟩:=h
 ⟨m,cap,N,e,y,ord,sz,f,R,hc.1,hg,hl⟩
theorem oG.req (h:oG w base top cb mb no l room hits misses):fE w base top cb mb no l room hits misses (fun q=>base<=q/\q<top):=by
 have hft:=h.ft;obtain⟨m,cap,N,e,y,ord,sz,f,R,hc,hg,hl⟩:=h;exact⟨m,cap,N,e,y,ord,sz,f,R,⟨hc,hft,fun i hi ad e=>⟨((hc.rows i hi).2 ad e).1,((hc.rows i hi).2 ad e).2.1⟩⟩,hg,hl⟩
theorem fE.more {Q:Nat->Prop} (h:fE w base top cb mb no l room hits misses P) (hq:∀k,P k->Q k):fE w base top cb mb no l room hits misses Q:=
 let ⟨m,cap,N,e,y,ord,sz,f,R,hc,hg,hl⟩:=h
 ⟨m,cap,N,e,y,ord,sz,f,R,⟨hc.1,fun k hk=>hq k (hc.2.1 k hk),fun i hi ad e=>hq _ (hc.2.2 i hi ad e)⟩,hg,hl⟩
theorem fE.up {top':Nat} (h:fE w base top cb mb no l room hits misses P) (ht:top<=top'):fE w base top' cb mb no l room hits misses P:=
 let ⟨m,cap,N,e,y,ord,sz,f,R,hc,hg,hl⟩:=h
 ⟨m,cap,N,e,y,ord,sz,f,R,⟨hc.1.up ht,hc.2⟩,hg,hl⟩
theorem fE.stay {w':World} (h:fE w base top cb mb no l room hits misses P) (hk:∀k,P k->w'.heap[k]?=w.heap[k]?):fE w' base top cb mb no l room hits misses P:=
 let ⟨m,cap,N,e,y,ord,sz,f,R,hc,hg,hl⟩:=h
 ⟨m,cap,N,e,y,ord,sz,f,R,⟨hc.1.among (fun k hf=>hk k (hc.2.1 k hf)) (fun i hi ad e=>hk _ (hc.2.2 i hi ad e)),hc.2⟩,hg,hl⟩
theorem fE.ft (h:fE w base top cb mb no l room hits misses P):∀q,Ft cb mb no q->P q:=
 let ⟨m,cap,N,e,y,ord,sz,f,R,hc,hg,hl⟩:=h
 hc.2.1
theorem aCk (h:fE w base top cb mb no l room hits misses P) (htop:top<=w.heap.size) (key:ByteArray) (hkl:key.size<=maxLen) (hno:∀p∈l,p.1≠key) (hm0:0<=misses) (hm1:misses<4611686018427387904):
  Calls Tryz.prog 167 #[.pointer (some ⟨cb,0,none⟩), .string key] w fun en w'=>en= .returned (.tuple #[.slice none 0 0, .bool false])/\
   fE w' base top cb mb no l room hits (misses+1) P/\kA (Ft cb mb no) w w':=by
 obtain⟨m,cap,N,e,y,ord,sz,f,R,hc,hg,rfl⟩:=h;have hf:f key=none:=hg.miss.2 fun i hi=>hno _ (List.mem_map.2 ⟨i,hi,rfl⟩)
 refine(get_miss hc.1 htop key hkl hf hm0 hm1).mono ?_
 rintro en w' ⟨rfl,h1,h2⟩;exact⟨rfl,⟨m,cap,N,e,y,ord,sz,f,R,⟨h1,hc.2⟩,hg,rfl⟩,h2⟩
theorem creq_hit (h:fE w base top cb mb no l room hits misses P) (htop:top<=w.heap.size) (key:ByteArray) (A:List Int) (hkl:key.size<=maxLen) (hmem:(key,A)∈l) (hm0:0<=hits) (hm1:hits<4611686018427387904):
  Calls Tryz.prog 167 #[.pointer (some ⟨cb,0,none⟩), .string key] w fun en w'=>∃vo vn vc,en= .returned (.tuple #[.slice vo vn vc, .bool true])/\Own w' w.heap.size (.slice vo vn vc) A/\
   fE w' base top cb mb no (iE l key A) room (hits+1) misses P/\kA (Ft cb mb no) w w':=by
 obtain⟨m,cap,N,e,y,ord,sz,f,R,⟨hc,hp1,hp2⟩,hg,rfl⟩:=h;obtain⟨i,hi,he⟩:=List.mem_map.1 hmem;simp only[Prod.mk.injEq]at he;obtain⟨hki,hRi⟩:=he;obtain⟨pre,post,hs⟩:=List.append_of_mem hi;subst hs;have hnd:=hc.ch.nd;have hni:i∉pre++post:=by
  have h2:(i::(pre++post)).Nodup:=(List.perm_middle.nodup_iff).1 hnd;exact(List.nodup_cons.1 h2).1
 have hne:∀j∈pre++post,(N j).key≠key:=fun j hj e=>by
  have:j=i:=hg.inj (bI.2 (.inr hj)) hi (by rw[e,hki]);exact hni (this▸hj)
 have hf:f key=some (i:Int):=(hg.at_ _ _).2 ⟨i,hi,rfl,hki⟩;refine(get_hit hc htop key hkl hf hm0 hm1 (hg.lim i hi)).mono ?_
 rintro en w' ⟨vo,vn,vc,N',e',y',rfl,hown,h1,h2,h3⟩;rw[hRi]at hown;have hk:∀j,(N' j).key=(N j).key:=fun j=>by have:=h2 j;simp only[Nd.held,Prod.mk.injEq]at this;exact this.1
 refine⟨vo,vn,vc,rfl,hown,⟨m,cap,N',e',y',_,sz,f,R,⟨h1,hp1,fun j hj ad e=>hp2 j hj ad (by rw[<-(sM (h2 j)).1];exact e)⟩,⟨by have:=hg.len;simp at this |-;omega,hg.m_,fun s c=> ?_,fun j hj=>hg.lim j (bI.2 (kM.1 hj))⟩,?_⟩,h3⟩
 ·rw[hg.at_ s c];constructor
  ·rintro⟨j,hj,rfl,hk'⟩;exact⟨j,kM.2 (bI.1 hj),rfl,by rw[hk];exact hk'⟩
  ·rintro⟨j,hj,rfl,hk'⟩;exact⟨j,bI.2 (kM.1 hj),rfl,by rw[<-hk];exact hk'⟩
 ·exact fS (N':=N') (R:=R) (R':=R) (A:=A) hki hne (fun j hj=>⟨hk j,rfl⟩) (by rw[hk,hki]) hRi
theorem creq_put (h:fE w base w.heap.size cb mb no l room hits misses P) (key:ByteArray) (hkl:key.size<=maxLen) (hroom:0<room) (hroom2:room<=1048576) (hl:(l.length:Int)<=room) (hl2:l.length<1048576)
  {ao:Option Addr} {n c:Nat} {A:List Int} (hA:SlI w ao n c A) (hAo:∀ad,ao=some ad->0<n->ad.block<w.heap.size/\¬Ft cb mb no ad.block) (hlim:n<=1048576):
  Calls Tryz.prog 168 #[.pointer (some ⟨cb,0,none⟩), .string key, .slice ao n c] w fun en w'=>en= .returned (.tuple #[])/\∃g,
   fE w' base w'.heap.size cb mb (some ⟨g,0,none⟩) (bU l room key A) room hits misses (fun q=>P q\/w.heap.size<=q)/\kA (Ft cb mb no) w w'/\At no g w.heap.size:=by
 obtain⟨m,cap,N,e,y,ord,sz,f,R,⟨hc,hp1,hp2⟩,hg,rfl⟩:=h;rw[List.length_map]at hl hl2;have hlen:=hg.len;have hm:=hg.m_;have hAl:=hA.len;have hP1:∀g,At no g w.heap.size->∀k,Ft cb mb (some ⟨g,0,none⟩) k->P k\/w.heap.size<=k:=fun g ha k hk=>by
  rcases hk with h1 | h1 | h1
  ·exact .inl (hp1 k (.inl h1))
  ·exact .inl (hp1 k (.inr (.inl h1)))
  ·obtain rfl:g=k:=by simpa using h1
   rcases ha with h2 | h2
   ·exact .inl (hp1 g (.inr (.inr h2)))
   ·exact .inr h2
 have hP2:∀(N':Nat->Nd) (i m':Nat),(∀j,j<m'->j≠i->j<m)->(∀j,j≠i->(N' j).held=(N j).held)->(∀ad,(N' i).ro=some ad->w.heap.size<=ad.block)->∀j,j<m'->∀ad,(N' j).ro=some ad->P ad.block\/w.heap.size<=ad.block:=fun N' i m' h0 h1 h2 j hj ad e=>by
  by_cases ej:j=i
  ·subst ej;exact .inr (h2 ad e)
  ·exact .inl (hp2 j (h0 j hj ej) ad (by rw[<-(sM (h1 j ej)).1];exact e))
 cases hf:f key with
 | some ci=>
  obtain⟨i,hi,rfl,hki⟩:=(hg.at_ key ci).1 hf;obtain⟨pre,post,hs⟩:=List.append_of_mem hi;subst hs;have hnd:=hc.ch.nd;have hni:i∉pre++post:=by
   have h2:(i::(pre++post)).Nodup:=(List.perm_middle.nodup_iff).1 hnd;exact(List.nodup_cons.1 h2).1
  have hne:∀j∈pre++post,(N j).key≠key:=fun j hj e=>by
   have:j=i:=hg.inj (by simp at hj |-;rcases hj with h | h<;>simp[h]) hi (by rw[e,hki]);exact hni (this▸hj)
  refine(put_oldB hc key hkl hroom hA hAo hlim (by omega) hf rfl).mono ?_
  rintro en w' ⟨rfl,g,cap',N',e',y',h1,h2',h3,h6,h4,h5⟩;have h2:∀j,j≠i->(N' j).key=(N j).key:=fun j hj=>(sM (h2' j hj)).2
  refine⟨rfl,g,⟨m,cap',N',e',y',_,sz,_,_,⟨h1,hP1 g h5,hP2 N' i m (fun j hj _=>hj) h2' h6⟩,⟨by simp at hlen |-;omega,hm,fun s c=> ?_,fun j hj=> ?_⟩,?_⟩,h4,h5⟩
  ·refine aAe (N:=N) (fun s c hs=> ?_) hne hni h2 h3 s c;rw[hg.at_ s c];constructor
   ·rintro⟨j,hj,rfl,hk⟩;have:j≠i:=fun e=>hs (by rw[<-hk,e,hki])
    exact⟨j,(bI.1 hj).resolve_left this,rfl,hk⟩
   ·rintro⟨j,hj,rfl,hk⟩;exact⟨j,bI.2 (.inr hj),rfl,hk⟩
  ·by_cases e:j=i
   ·subst e;rw[tC];omega
   ·rw[mB _ _ _ _ e];exact hg.lim j (bI.2 (kM.1 hj))
  ·have hy:=fS (N':=N') (R:=R) (R':=upd R i A) (A:=A) hki hne (fun j hj=>⟨h2 j (fun e=>hni (e▸hj)),mB _ _ _ _ (fun e=>hni (e▸hj))⟩) h3 (tC _ _ _);unfold bU;rw[hy,if_neg (by simp at hl |-;omega)]
 | none=>
  have hne:=hg.miss.1 hf
  by_cases hsr:(sz:Int)<room
  ·have hni:m∉ord:=fun hi=>by have:=hc.lt m hi;omega
   refine(put_newB hc key hkl hroom hA hAo hlim (by omega) hf hsr (by omega) rfl).mono ?_
   rintro en w' ⟨rfl,g,cap',N',e',y',h1,h2',h3,h6,h4,h5⟩;have h2:∀j,j≠m->(N' j).key=(N j).key:=fun j hj=>(sM (h2' j hj)).2
   have hRR:∀j∈ord,upd (upd R m []) m A j=R j:=fun j hj=>by
    have:j≠m:=fun e=>hni (e▸hj)
    rw[mB _ _ _ _ this,mB _ _ _ _ this]
   refine⟨rfl,g,⟨m+1,cap',N',e',y',_,sz+1,_,_,⟨h1,hP1 g h5,hP2 N' m (m+1) (fun j hj _=>by omega) h2' h6⟩,⟨by simp;omega,by omega,fun s c=> ?_,fun j hj=> ?_⟩,?_⟩,h4,h5⟩
   ·exact aAe (N:=N) (fun s c hs=>hg.at_ s c) hne hni h2 h3 s c
   ·rcases List.mem_append.1 hj with h | h
    ·rw[hRR j h];exact hg.lim j h
    ·simp at h;subst h;rw[tC];omega
   ·have hy:=gS (N':=N') (R:=R) (R':=upd (upd R m []) m A) (A:=A) hne (fun j hj=>⟨h2 j (fun e=>hni (e▸hj)),hRR j hj⟩) h3 (tC _ _ _);unfold bU;rw[hy,if_neg (by simp;omega)]
  ·cases ord with
   | nil=>simp at hlen;omega
   | cons i post=>
    have hnd:=hc.ch.nd;have hni:i∉post:=(List.nodup_cons.1 hnd).1;have hfi:f (N i).key=some (i:Int):=(hg.at_ _ _).2 ⟨i,by simp,rfl,rfl⟩;refine(aZ hc key hkl hroom hA hAo hlim (by omega) hf (by omega) (by rw[hfi];rfl) rfl rfl).mono ?_
    rintro en w' ⟨rfl,g,cap',N',e',y',h1,h2',h3,h6,h4,h5⟩;have h2:∀j,j≠i->(N' j).key=(N j).key:=fun j hj=>(sM (h2' j hj)).2
    have hnep:∀j∈post,(N j).key≠key:=fun j hj=>hne j (by simp[hj])
    refine⟨rfl,g,⟨m,cap',N',e',y',_,sz-1+1,_,_,⟨h1,hP1 g h5,hP2 N' i m (fun j hj _=>hj) h2' h6⟩,⟨by simp at hlen |-;omega,by simp at hlen;omega,fun s c=> ?_,fun j hj=> ?_⟩,?_⟩,h4,h5⟩
    ·refine aAe (N:=N) (fA:=fun s=>if s=(N i).key then none else f s) (fun s c hs=> ?_) hnep hni h2 h3 s c;show(if s=(N i).key then none else f s)=some c↔_
     by_cases es:s=(N i).key
     ·rw[if_pos es];constructor
      ·intro h;cases h
      ·rintro⟨j,hj,rfl,hk⟩;have:j=i:=hg.inj (by simp[hj]) (by simp) (by rw[hk,es]);exact absurd (this▸hj) hni
     ·rw[if_neg es,hg.at_ s c];constructor
      ·rintro⟨j,hj,rfl,hk⟩;have:j≠i:=fun e=>es (by rw[<-hk,e])
       exact⟨j,(List.mem_cons.1 hj).resolve_left this,rfl,hk⟩
      ·rintro⟨j,hj,rfl,hk⟩;exact⟨j,by simp[hj],rfl,hk⟩
    ·by_cases e:j=i
     ·subst e;rw[tC];omega
     ·rw[mB _ _ _ _ e];exact hg.lim j (List.mem_cons.2 (kM.1 hj))
    ·have hy:=gS (i:=i) (N':=N') (R:=R) (R':=upd R i A) (A:=A) hnep (fun j hj=>⟨h2 j (fun e=>hni (e▸hj)),mB _ _ _ _ (fun e=>hni (e▸hj))⟩) h3 (tC _ _ _);unfold bU iE;unfold iE at hy;have hki:decide (((N i).key,R i).1≠key)=true:=by simpa using hne i (by simp)
     have hcons:(((i::post).map fun i=>((N i).key,R i)).filter (fun p=>p.1≠key))++ [(key,A)]=((N i).key,R i)::((post++ [i]).map fun j=>((N' j).key,upd R i A j)):=by
      rw[List.map_cons,List.filter_cons,if_pos hki,List.cons_append,hy]
     rw[hcons,if_pos (by simp at hlen |-;omega)];rfl
end
theorem fE.below {w w':World} {base top cb mb B:Nat} {no:Option Addr} {l:List Row} {room hits misses:Int} {P:Nat->Prop} (h:fE w base top cb mb no l room hits misses P) (hp:∀q,P q->q<B) (hb:Below B w w'):fE w' base top cb mb no l room hits misses P:=
 h.stay (fun q hq=>hb.block q (hp q hq))
theorem fE.cut {w:World} {base top cb mb:Nat} {no:Option Addr} {l:List Row} {room hits misses:Int} {P:Nat->Prop} (h:fE w base top cb mb no l room hits misses P):fE w base top cb mb no l room hits misses (fun q=>P q/\base<=q/\q<top):=by
 have hft:=h.rep.ft;obtain⟨m,cap,N,e,y,ord,sz,f,R,hc,hg,hl⟩:=h;exact⟨m,cap,N,e,y,ord,sz,f,R,⟨hc.1,fun k hk=>⟨hc.2.1 k hk,hft k hk⟩,fun i hi ad e=>⟨hc.2.2 i hi ad e,((hc.1.rows i hi).2 ad e).1,((hc.1.rows i hi).2 ad e).2.1⟩⟩,hg,hl⟩
structure dS (w:World) (base g:Nat) (V:Vc) (N:List ByteArray) (kind:Int) (T:List Rg) (room:Int) (cb mb:Nat) (no:Option Addr) (l:List Row) (hits misses:Int) (P:Nat->Prop):Prop where
 sta:∃S,Sta S (fun w=>mG w base g V N kind T cb) w/\(∀q,S q->P q/\¬Ft cb mb no q)
 rep:fE w base w.heap.size cb mb no l room hits misses P
 lt:∀q,P q->base<=q/\q<w.heap.size
def Cdr (w:World) (base g:Nat) (V:Vc) (N:List ByteArray) (kind:Int) (T:List Rg) (room cnt:Int) (P:Nat->Prop):Prop:=
 ∃cb mb no l hits misses,dS w base g V N kind T room cb mb no l hits misses P/\D2 V l room hits misses/\hits+misses=cnt
section
variable {w:World} {base g:Nat} {V:Vc} {N:List ByteArray} {kind:Int} {T:List Rg} {room:Int} {cb mb:Nat} {no:Option Addr} {l:List Row} {hits misses cnt:Int} {P:Nat->Prop}
theorem dS.codR (h:dS w base g V N kind T room cb mb no l hits misses P):qI w base g V N kind T room cb mb no l hits misses:=by
 obtain⟨⟨S,h1,h2⟩,h3,h4⟩:=h;exact⟨⟨S,h1,fun q hq=>⟨h4 q (h2 q hq).1,(h2 q hq).2⟩⟩,h3.rep⟩
theorem qI.codQ (h:qI w base g V N kind T room cb mb no l hits misses):dS w base g V N kind T room cb mb no l hits misses (fun q=>base<=q/\q<w.heap.size):=by
 have hr:=h.rep;obtain⟨⟨S,h1,h2⟩,_⟩:=h;exact⟨⟨S,h1,fun q hq=>⟨(h2 q hq).1,(h2 q hq).2⟩⟩,hr.req,fun q hq=>hq⟩
theorem dS.stay {w':World} (h:dS w base g V N kind T room cb mb no l hits misses P) (hk:∀q,P q->w'.heap[q]?=w.heap[q]?) (hs:w.heap.size<=w'.heap.size):dS w' base g V N kind T room cb mb no l hits misses P:=by
 obtain⟨⟨S,h1,h2⟩,h3,h4⟩:=h;exact⟨⟨S,h1.next (fun q hq=>hk q (h2 q hq).1) hs,h2⟩,(h3.stay hk).up hs,fun q hq=>⟨(h4 q hq).1,Nat.lt_of_lt_of_le (h4 q hq).2 hs⟩⟩
theorem Cdr.new (h:qI w base g V N kind T room cb mb none [] 0 0) (h0:0<=room):Cdr w base g V N kind T room 0 (fun q=>base<=q/\q<w.heap.size):=
 ⟨cb,mb,none,[],0,0,h.codQ,⟨fun p hp=>(by cases hp),by simpa using h0,by simp,by omega,by omega,fun _=>⟨rfl,rfl⟩⟩,rfl⟩
theorem Cdr.stay {w':World} (h:Cdr w base g V N kind T room cnt P) (hk:∀q,P q->w'.heap[q]?=w.heap[q]?) (hs:w.heap.size<=w'.heap.size):Cdr w' base g V N kind T room cnt P:=by
 obtain⟨cb,mb,no,l,hits,misses,h1,h2⟩:=h;exact⟨cb,mb,no,l,hits,misses,h1.stay hk hs,h2⟩
theorem Cdr.lt (h:Cdr w base g V N kind T room cnt P):∀q,P q->base<=q/\q<w.heap.size:=by
 obtain⟨cb,mb,no,l,hits,misses,h1,h2⟩:=h;exact h1.lt
theorem Cdr.below {w':World} (h:Cdr w base g V N kind T room cnt P) (hb:Below w.heap.size w w'):Cdr w' base g V N kind T room cnt P:=
 h.stay (fun q hq=>hb.block q (h.lt q hq).2) hb.size
theorem Cdr.cod (h:Cdr w base g V N kind T room cnt P):∃cb,mG w base g V N kind T cb:=by
 obtain⟨cb,mb,no,l,hits,misses,h1,h2⟩:=h;exact⟨cb,h1.codR.cod⟩
theorem dS.turn {w':World} {no':Option Addr} {l':List Row} {hits' misses':Int} (h:dS w base g V N kind T room cb mb no l hits misses P)
  (hc:Cch cb mb no no' w w') (hr:fE w' base w'.heap.size cb mb no' l' room hits' misses' (fun q=>P q\/w.heap.size<=q)):dS w' base g V N kind T room cb mb no' l' hits' misses' (fun q=>(P q\/w.heap.size<=q)/\base<=q/\q<w'.heap.size):=by
 obtain⟨⟨S,h1,h2⟩,h3,h4⟩:=h;exact⟨⟨S,h1.next (fun q hq=>hc.block q (h4 q (h2 q hq).1).2 (h2 q hq).2) hc.size,fun q hq=>⟨⟨.inl (h2 q hq).1,(h4 q (h2 q hq).1).1,Nat.lt_of_lt_of_le (h4 q (h2 q hq).1).2 hc.size⟩,hc.new q (h4 q (h2 q hq).1).2 (h2 q hq).2⟩⟩,hr.cut,fun q hq=>hq.2⟩
end
def LkQ (V:Vc) (w:World) (base cb mb:Nat) (no:Option Addr) (room cnt:Int) (R:List Int) (P:Nat->Prop) (e:Ending) (w':World):Prop:=
 ∃v no' l' hits' misses',e= .returned v/\Own w' w.heap.size v R/\fE w' base w'.heap.size cb mb no' l' room hits' misses' (fun q=>P q\/w.heap.size<=q)/\D2 V l' room hits' misses'/\hits'+misses'=cnt+1/\Cch cb mb no no' w w'
theorem uR {P:Nat->Prop} {V:Vc} {base cb mb b2 b5:Nat} {no:Option Addr} {l:List Row} {room hits misses:Int} (key:ByteArray) (w:World) (hr:fE w base w.heap.size cb mb no l room hits misses P) (hP:∀q,P q->q<w.heap.size) (hok:D2 V l room hits misses) (hroom:room<=1048576) (hcnt:hits+misses<1000000) (hks:key.size<=100000)
  (hF:∀W,kA (Ft cb mb no) w W->Calls Tryz.prog 111 #[.pointer (some ⟨b2,0,none⟩), .pointer (some ⟨b5,0,none⟩)] W fun e w'=>∃v,e= .returned v/\Own w' W.heap.size v (vH V (qA key))/\Below W.heap.size W w'):
  Calls Tryz.prog 110 #[.pointer (some ⟨cb,0,none⟩), .string key, .func (.func 111) #[] #[.pointer (some ⟨b2,0,none⟩), .pointer (some ⟨b5,0,none⟩)]] w (LkQ V w base cb mb no room (hits+misses) (vH V (qA key)) P):=by
 have h0:=hok.hz;have m0:=hok.mz;have hmx:key.size<=maxLen:=by unfold maxLen;omega
 have hRl:(vH V (qA key)).length<=1048576:=by have:=aAV V (qA key);rw[C8]at this;omega
 by_cases hin:∃R,(key,R)∈l
 ·obtain⟨R,hR⟩:=hin;have hRR:R=vH V (qA key):=hok.rows _ hR;have HG:=hW_ (creq_hit hr (Nat.le_refl _) key R hmx hR h0 (by omega));have HOK:=hW_ (hok.hit hR);have HRR:=hW_ hRR;clear hr hP hok hF hR hRR h0 m0;go_enter Tryz.func110,Tryz.ntmps110;go_wp2_with (go_at_call 167;refine HG.out.mono ?_;rintro e w1 ⟨vo,vn,vc,rfl,ho,hr1,hk1⟩;have HO:=hW_ ho;have HR1:=hW_ hr1;have HK1:=hW_ hk1;clear ho hr1 hk1);refine bodyPost_ret (results_tmp rfl _ _ _) rfl ⟨.slice vo vn vc,no,iE l key R,hits+1,misses,rfl,by rw[<-HRR.out];exact HO.out,(HR1.out.up HK1.out.size).more (fun q h=> .inl h),HOK.out,by omega,Cch.keeps HK1.out⟩
 ·have hno:∀p∈l,p.1≠key:=fun p hp e=>hin ⟨p.2,by rw[<-e];exact hp⟩
  have HG:=hW_ (aCk hr (Nat.le_refl _) key hmx hno m0 (by omega));have HF:=hW_ hF;have HPL:=hW_ hP;have HFT:Hid (∀q,Ft cb mb no q->q<w.heap.size):=hW_ fun q hq=>hP q (hr.ft q hq)
  by_cases hz:room=0
  ·subst hz;have HOK:=hW_ hok.missed;clear hr hP hok hF hin hno h0 m0;go_enter Tryz.func110,Tryz.ntmps110;go_wp2_with (first
    | (go_at_call 167;refine HG.out.mono ?_;rintro e w1 ⟨rfl,hr1,hk1⟩;have HR1:=hW_ hr1;have HK1:=hW_ hk1;clear hr1 hk1)
    | (go_at_call 111;refine(HF.out _ HK1.out).mono ?_;rintro e w2 ⟨v,rfl,ho,hb2⟩;obtain⟨vo,vc,rfl,_⟩:=ho.sl;have HO:=hW_ ho;have HB2:=hW_ hb2;clear ho hb2)
    | (go_at_call 168;refine(aCl ((HR1.out.up HK1.out.size).below (fun q h=>Nat.lt_of_lt_of_le (HPL.out q h) HK1.out.size) HB2.out).rep key _ _ _).mono ?_;rintro e w3 ⟨rfl,hb3⟩;have HB3:=hW_ hb3;clear hb3))
   go_ret;exact⟨_,no,l,hits,misses+1,rfl,(HO.out.below HB3.out).mono HK1.out.size,((((HR1.out.up HK1.out.size).below (fun q h=>Nat.lt_of_lt_of_le (HPL.out q h) HK1.out.size) HB2.out).up HB2.out.size |>.below (fun q h=>Nat.lt_of_lt_of_le (HPL.out q h) (Nat.le_trans HK1.out.size HB2.out.size)) HB3.out).up HB3.out.size).more (fun q h=> .inl h),HOK.out,by omega,((Cch.keeps HK1.out).trans (Cch.below HB2.out)).trans (Cch.below HB3.out)⟩
  ·have hrp:0<room:=by have:=hok.rm;omega
   have HOK:=hW_ (hok.put (k:=key) hrp);have HLL:Hid ((l.length:Int)<=room/\l.length<1048576):=hW_ ⟨hok.rm,by have:=hok.ms;omega⟩;clear hr hP hok hF hin hno h0 m0;go_enter Tryz.func110,Tryz.ntmps110;go_wp2_with (first
    | (go_at_call 167;refine HG.out.mono ?_;rintro e w1 ⟨rfl,hr1,hk1⟩;have HR1:=hW_ hr1;have HK1:=hW_ hk1;clear hr1 hk1)
    | (go_at_call 111;refine(HF.out _ HK1.out).mono ?_;rintro e w2 ⟨v,rfl,ho,hb2⟩;obtain⟨vo,vc,rfl,hsl⟩:=ho.sl;have HO:=hW_ ho;have HB2:=hW_ hb2;have HSL:=hW_ hsl;clear ho hb2 hsl)
    | (go_at_call 168;refine(creq_put (((HR1.out.up HK1.out.size).below (fun q h=>Nat.lt_of_lt_of_le (HPL.out q h) HK1.out.size) HB2.out).up HB2.out.size) key hmx hrp hroom HLL.out.1 HLL.out.2 HSL.out (fun ad e h0=>by
      subst e;obtain⟨k1,k2⟩:=World.ownsRow.lt HO.out ad.block (by obtain⟨vb,e⟩:=bK HO.out h0;obtain⟨c',e⟩:=e;rw[e];cases e;rfl);exact⟨k2,fun hf=>by have:=HFT.out _ hf;have:=HK1.out.size;omega⟩) hRl).mono ?_;rintro e w3 ⟨rfl,gg,hr3,hk3,hat3⟩;have HR3:=hW_ hr3;have HK3:=hW_ hk3;have HAT3:=hW_ hat3;clear hr3 hk3 hat3))
   go_ret;refine⟨_,some ⟨gg,0,none⟩,_,hits,misses+1,rfl,?_,HR3.out.more (fun q h=>h.imp id (fun h=>Nat.le_trans (Nat.le_trans HK1.out.size HB2.out.size) h)),HOK.out,by omega,((Cch.keeps HK1.out).trans (Cch.below HB2.out)).trans (Cch.put HK3.out HAT3.out)⟩;refine Own.mono (oA HO.out (fun q hq=> ?_)) HK1.out.size;obtain⟨k1,k2⟩:=World.ownsRow.lt HO.out q hq;exact HK3.out.block q k2 (fun hf=>by have:=HFT.out _ hf;have:=HK1.out.size;omega)
def PcQ (w:World) (base g:Nat) (V:Vc) (N:List ByteArray) (kind:Int) (T:List Rg) (room cnt:Int) (P:Nat->Prop) (R:List Int) (d:Int) (e:Ending) (w':World):Prop:=
 ∃v P',e= .returned v/\Own w' w.heap.size v R/\Cdr w' base g V N kind T room (cnt+d) P'/\(∀q,P' q->P q\/w.heap.size<=q)/\kA P w w'
theorem bW {P:Nat->Prop} {V:Vc} {N:List ByteArray} {kind:Int} {T:List Rg} {base g:Nat} {room:Int} {cnt x:Int} {ao:Option Addr} {c:Nat} (w:World) (h:Cdr w base g V N kind T room cnt P) (hN:N.length<=16) (hA:SlI w ao 1 c [x]) (hx:256<=x) (hc:vA V N [x]=0):
  Calls Tryz.prog 63 #[.pointer (some ⟨g,0,none⟩), .slice ao 1 c] w (PcQ w base g V N kind T room cnt P (oD V N [x]) (nN [x])):=by
 obtain⟨w0,hw0⟩:∃w0,w.alloc (.cells #[.pointer (some ⟨g,0,none⟩)] 30)=w0:=⟨_,rfl⟩;have hb0:Below w.heap.size w w0:=hw0▸aA w _;have hx0:w0.heap[w.heap.size]?=some (.cells #[.pointer (some ⟨g,0,none⟩)] 30):=by rw[<-hw0];exact heap_alloc_new w _
 have z0:w0.cell? ⟨w.heap.size,0,none⟩=some (.pointer (some ⟨g,0,none⟩)):=by simp[World.cell?,hx0]
 have hV:=h.below hb0;obtain⟨cb,hcod⟩:=hV.cod;have hCk:=zG w0 hcod hN (hA.below hb0) (by omega);rw[hc]at hCk;obtain⟨lo,ta,tc,sa,sc,na,nc,ma,mc,oa,oc,eg,hbx,_,_,_,hom,_⟩:=hcod;obtain⟨c0,c1,c2,c3,c4,c5,c6,c7,c8,cf⟩:=zM hbx;obtain⟨mo,mcap,e0,hsm⟩:=hom.sl;have hml:=kJ V.specials N;rw[hml]at e0 hsm;obtain⟨rfl,_,rfl⟩:=Value.slice.inj e0;have hfx:sB V N x=0:=by
  have:=C7.1 hc x (by simp);exact this
 have hxl:x<256+(N.length:Int):=by
  rcases Int.lt_or_le x (256+(N.length:Int))with h1 | h1
  ·exact h1
  ·unfold sB at hfx;rw[if_pos (.inr h1)]at hfx;cases hfx
 obtain⟨k,hk⟩:∃k:Nat,x-256=k:=⟨(x-256).toNat,by omega⟩;have q2:IntKind.i64.wrap (x-256)=(k:Int):=by rw[IntKind.wrap_i64];omega
 have gk:(k:Int)<(N.length:Int):=by omega
 have gk0:(0:Int)<=(k:Int):=by omega
 obtain⟨bm,om,hmo,hcm⟩:=hsm.at_ (i:=k) (by omega);subst hmo;obtain⟨v,hv⟩:∃v,ix (aC V.specials N) k=v:=⟨_,rfl⟩;rw[hv]at hcm;have hmk:jH V N x=v:=by unfold jH;rw[hk,Int.toNat_natCast,hv]
 have HP:Hid (oD V N [x]= [v]):=hW_ (by rw[jO hc hx,hmk]);obtain⟨b,o,hao,hca⟩:=(hA.below hb0).at_ (i:=0) (by omega);subst hao;have ha0:w0.cell? ⟨b,o,none⟩=some (.int .i64 x):=by simpa[ix]using hca
 have gx:decide ((256:Int)<=x)=true:=by simpa using hx
 have HCK:=hW_ hCk;have HB0:=hW_ hb0;have HW0:=hW_ hw0;have HV:=hW_ hV;have HX:=hW_ hx;clear h hA hc hbx hom hsm e0 hml hfx hv hmk hca hw0 hb0 hx0 hCk hV hx;go_enter Tryz.func63,Tryz.ntmps63;go_wp2_with (fail);rw[HW0.out];go_wp2_with (go_at_call 39;refine HCK.out.mono ?_;rintro e w1 ⟨rfl,rfl⟩);go_region
 all_goals(
  go_wp2_with (fail);refine bodyPost_ret (results_tmp rfl _ _ _) rfl ⟨_,P,rfl,by rw[HP.out];exact Own.mono (iM _ v) HB0.out.size,by rw[aBW HX.out,Int.add_zero];exact HV.out.below (by exact kI rfl rfl rfl rfl),fun q hq=> .inl hq,kA.of_below (HB0.out.trans (Below.mono (by exact kI rfl rfl rfl rfl) HB0.out.size))⟩)
theorem eU {P:Nat->Prop} {V:Vc} {N:List ByteArray} {kind:Int} {T:List Rg} {base g:Nat} {room:Int} {cnt:Int} {A:List Int} {ao:Option Addr} {n c:Nat} (w:World) (hh:Cdr w base g V N kind T room cnt P) (hM:May V) (hN:N.length<=16) (hr:room<=1048576)
  (hA:SlI w ao n c A) (hn0:0<n) (hn:n<=100000) (hb:∀y∈A,0<=y/\y<256) (hc:vA V N A=0) (hcnt:cnt<1000000):
  Calls Tryz.prog 63 #[.pointer (some ⟨g,0,none⟩), .slice ao n c] w (PcQ w base g V N kind T room cnt P (oD V N A) (nN A)):=by
 obtain⟨cb,mb,no,l,hits,misses,h,hok,hsum⟩:=hh;obtain⟨w0,hw0⟩:∃w0,w.alloc (.cells #[.pointer (some ⟨g,0,none⟩)] 30)=w0:=⟨_,rfl⟩;have hb0:Below w.heap.size w w0:=hw0▸aA w _;have hx0:w0.heap[w.heap.size]?=some (.cells #[.pointer (some ⟨g,0,none⟩)] 30):=by rw[<-hw0];exact heap_alloc_new w _
 have hz0:w.heap.size<w0.heap.size:=by rw[<-hw0];simp
 have z0:w0.cell? ⟨w.heap.size,0,none⟩=some (.pointer (some ⟨g,0,none⟩)):=by simp[World.cell?,hx0]
 have hV:=h.stay (fun q hq=>hb0.block q (h.lt q hq).2) hb0.size;have hA0:=hA.below hb0;have hAl:=hA.len;have hCk:=zG w0 hV.codR.cod hN hA0 (by omega);rw[hc]at hCk;have hne:A≠[]:=fun e=>by rw[e]at hAl;simp at hAl;omega
 have HP:Hid (oD V N A=vH V A):=hW_ (eM hc hne hb);have HBY:Hid (nN A=1):=hW_ (vZ hb);obtain⟨b,o,hao,hca⟩:=hA0.at_ (i:=0) hn0;subst hao;obtain⟨x,hx⟩:∃x,ix A 0=x:=⟨_,rfl⟩;rw[hx]at hca;have hxb:=hb x (by rw[<-hx];exact List.mem_of_getElem? (xE (by omega)));have ha0:w0.cell? ⟨b,o,none⟩=some (.int .i64 x):=by simpa using hca
 have gx:decide ((256:Int)<=x)=false:=by simp;omega
 have gn0:((n:Int)==0)=false:=by simp;omega
 have HBT:=hW_ (R7 w0 hA0 (fun y hy=>eD.2 (hb y hy)) (by omega));have HCK:=hW_ hCk;have HB0:=hW_ hb0;have HW0:=hW_ hw0;have HX0:=hW_ hx0;have HV:=hW_ hV;have HY:=hW_ hb;have HFT:Hid (∀q,Ft cb mb no q->base<=q/\q<w.heap.size):=hW_ fun q hq=>h.lt q (h.rep.ft q hq)
 have HPL:=hW_ h.lt;have HOK:=hW_ hok;have HSUM:=hW_ hsum;have HPF:=hW_ h.rep.ft;have HAL:=hW_ hAl;have HM:=hW_ hM;clear h hok hsum hA hA0 hc hca hw0 hb0 hx0 hCk hV hx hAl hne hxb hb hM;go_enter Tryz.func63,Tryz.ntmps63;go_wp2_with (fail);rw[HW0.out];go_wp2_with (go_at_call 39;refine HCK.out.mono ?_;rintro e w1 ⟨rfl,rfl⟩)
 all_goals(
  go_at_call 109;refine HBT.out.mono ?_
  rintro e w2 ⟨⟨v,rfl,ho⟩,hb2⟩;obtain⟨gb,bc,rfl,hgb,hgl,hsl⟩:=ownB_at0 ho (by have:=HAL.out;omega);obtain⟨W3,hW3⟩:∃W3,w2.alloc (.cells #[.slice (some ⟨gb,0,none⟩) A.length bc] 129)=W3:=⟨_,rfl⟩;have hb3:Below w2.heap.size w2 W3:=hW3▸aA w2 _;have hx3:W3.heap[w2.heap.size]?=some (.cells #[.slice (some ⟨gb,0,none⟩) A.length bc] 129):=by rw[<-hW3];exact heap_alloc_new w2 _
  have hx2:W3.heap[w.heap.size]?=some (.cells #[.pointer (some ⟨g,0,none⟩)] 30):=(hb3.block _ (Nat.lt_of_lt_of_le hz0 hb2.size)).trans ((hb2.block _ hz0).trans HX0.out)
  have HB3:Hid (Below w0.heap.size w0 W3):=hW_ (hb2.trans (hb3.mono hb2.size));have hft3:∀q,w.heap.size<=q->¬Ft cb mb no q:=fun q hq hf=>by have:=(HFT.out q hf).2;omega
  have hs02:w.heap.size<=w2.heap.size:=Nat.le_trans (Nat.le_of_lt hz0) hb2.size;have hcv:∀W,kA (Ft cb mb no) W3 W->(convert 129 9 (.slice (some ⟨gb,0,none⟩) A.length bc)).run Tryz.prog W= .ok (.string (aBU A)) W:=fun W hW=>Z6 (cN (Sl.below hsl hb3) (fun ad e=>by
   obtain rfl:ad=⟨gb,0,none⟩:=(Option.some.inj e).symm;exact hW.block gb (Nat.lt_of_lt_of_le hgl hb3.size) (hft3 gb (Nat.le_trans (Nat.le_of_lt hz0) hgb)))) (by have:=HAL.out;omega)
  have HLK:Hid (∀W,Ge W3 W->Calls Tryz.prog 110 #[.pointer (some ⟨cb,0,none⟩), .string (aBU A), .func (.func 111) #[] #[.pointer (some ⟨w.heap.size,0,none⟩), .pointer (some ⟨w2.heap.size,0,none⟩)]] W (fun e w'=>PcQ w base g V N kind T room cnt P (vH V A) 1 e w'/\kA (Ft cb mb no) W3 w')):=hW_ (fun W hW=>by
   have hcr:=(HV.out.stay (fun q hq=>HB3.out.block q (HV.out.lt q hq).2) HB3.out.size).stay (fun q hq=>hW.block q (Nat.lt_of_lt_of_le (HV.out.lt q hq).2 HB3.out.size)) hW.size;have hsum:=HSUM.out;have hft:∀q,Ft cb mb no q->q<w.heap.size:=fun q hq=>(HFT.out q hq).2
   have hs2:=hb2.size;have hsW:=hW.size;have hs3:=hb3.size;have hsz3:w2.heap.size<W3.heap.size:=(Array.getElem?_eq_some_iff.1 hx3).1;refine(uR (aBU A) W hcr.rep (fun q hq=>(hcr.lt q hq).2) HOK.out hr (by omega) (by rw[aBT HY.out];have:=HAL.out;omega) (fun W' hk=> ?_)).mono ?_
   ·rw[qL HY.out];have k2:W'.heap[w.heap.size]?=some (.cells #[.pointer (some ⟨g,0,none⟩)] 30):=(hk.block _ (by omega) (fun hf=>by have:=hft _ hf;omega)).trans ((hW.block _ (by omega)).trans hx2)
    have k5:W'.heap[w2.heap.size]?=some (.cells #[.slice (some ⟨gb,0,none⟩) A.length bc] 129):=(hk.block _ (by omega) (fun hf=>by have:=hft _ hf;omega)).trans ((hW.block _ (by omega)).trans hx3)
    refine fU W' (hcr.codR.codK hk) HM.out (cN (Sl.below (Sl.below hsl hb3) hW) (fun ad e=> ?_)) HY.out (by have:=HAL.out;omega) (by have:=HAL.out;omega) (by simp[World.cell?,k2]) (by simp[World.cell?,k5]);obtain rfl:ad=⟨gb,0,none⟩:=(Option.some.inj e).symm;exact hk.block gb (by omega) (fun hf=>by have:=hft _ hf;omega)
   ·rintro e w' ⟨v,no',l',hits',misses',rfl,hown,hrep,hok',hsum',hcch⟩;rw[qL HY.out]at hown;have hsz:w.heap.size<=W.heap.size:=by omega
    have hkk:kA (Ft cb mb no) W3 w':=(kA.of_below hW).trans ⟨hcch.os,hcch.tape,hcch.output,hcch.size,hcch.block⟩;exact⟨⟨v,_,rfl,hown.mono hsz,⟨cb,mb,no',l',hits',misses',hcr.turn hcch hrep,hok',by omega⟩,fun q hq=>hq.1.imp id (fun h=>Nat.le_trans hsz h),(((kA.of_below HB0.out).trans (kA.of_below HB3.out)).trans hkk).mono (fun k _ hf=>HPF.out k hf)⟩,hkk⟩)
  have z2:W3.cell? ⟨w.heap.size,0,none⟩=some (.pointer (some ⟨g,0,none⟩)):=by simp[World.cell?,hx2]
  have z5:W3.cell? ⟨w2.heap.size,0,none⟩=some (.slice (some ⟨gb,0,none⟩) A.length bc):=by simp[World.cell?,hx3]
  have HW3:=hW_ hW3;have G2:=fun w' (hg:kA (Ft cb mb no) W3 w')=>hg.cell z2 (hft3 _ (Nat.le_refl _))
  have G5:=fun w' (hg:kA (Ft cb mb no) W3 w')=>hg.cell z5 (hft3 _ hs02)
  have G8:∀w',kA (Ft cb mb no) W3 w'->w'.cell? ⟨g,8,none⟩=some (.pointer (some ⟨cb,0,none⟩)):=fun w' hg=>by
   have hcr:=(HV.out.stay (fun q hq=>HB3.out.block q (HV.out.lt q hq).2) HB3.out.size).codR;obtain⟨_,_,_,_,_,_,_,_,_,_,_,_,hbx',_⟩:=hcr.codK hg;exact(zM hbx').2.2.2.2.2.2.2.2.1
  have gr:=kA.refl (Ft cb mb no) W3;clear hW3 hb3 hx3 hx2 ho hb2 hgb hgl hsl z0 ha0 z2 z5 hft3 hs02;go_wp2_with (fail);rw[HW3.out]
  go_region_held3 (kA (Ft cb mb no) W3) (first | (with_reducible assumption) | (with_reducible refine kA.drew ?_;with_reducible assumption) | (with_reducible refine kA.drewN ?_ _;with_reducible assumption)) ((go_at_call 110;refine(HLK.out _ (by exact bA (Below.refl _ _) _)).mono ?_;rintro e w9 ⟨⟨v9,p9,rfl,ho9,hV9,hp9,hc9⟩,hk9⟩;have HP9:=hW_ hp9;have HO9:=hW_ ho9;have HV9:=hW_ hV9;have HC9:=hW_ hc9;clear ho9 hV9 hp9 hc9))
  all_goals(
   go_wp2_with (fail);go_ret;exact⟨v9,p9,rfl,by rw[HP.out];exact HO9.out,by rw[HBY.out];exact HV9.out,HP9.out,HC9.out⟩))
open Go
def xN (T:List ByteArray) (row b:List Int):Prop:=(∀t∈row,bC T t=true)/\row.flatMap (fun t=>qA (tk T t.toNat))=b
theorem Z8 (s t:ByteArray):qA (s++t)=qA s++qA t:=by unfold qA;simp
theorem Z9 {x:Int} (h:0<=x/\x<256):qA (one x.toNat)= [x]:=by
 unfold qA one;simp;omega
theorem isTk_one {T:List ByteArray} (hT:C0 T) {x:Int} (h:0<=x/\x<256):bC T (ofT T (one x.toNat))=true/\tk T (ofT T (one x.toNat)).toNat=one x.toNat:=by
 have hm:=hT.2.2.2 x.toNat (by omega);have hs:(one x.toNat).size≠0:=by simp[one,ByteArray.size]
 rcases mN T (one x.toNat)with⟨h1,_⟩ | ⟨_,i,h1,h2,_,h4⟩ | ⟨_,h1,_⟩
 ·exact absurd h1 hs
 ·rw[h4];have e:((i:Int)).toNat=i:=by omega
  refine⟨A8.2 ⟨by omega,by omega,?_⟩,?_⟩
  ·rw[e,h2];exact hs
  ·rw[e,h2]
 ·obtain⟨i,hi,he⟩:=iH hm;exact absurd he (h1 i hi)
theorem mS {V:Vc} (hT:C0 V.tokens):∀{b:List Int},(∀x∈b,0<=x/\x<256)->xN V.tokens (pB V b) b
 | [],_=>⟨by simp[pB],rfl⟩
 | x::b,h=>by
  obtain⟨h1,h2⟩:=mS hT (b:=b) (fun y hy=>h y (by simp[hy]));obtain⟨h3,h4⟩:=isTk_one hT (h x (by simp));have e:pB V (x::b)=ofT V.tokens (one x.toNat)::pB V b:=rfl;refine⟨fun t ht=> ?_,?_⟩
  ·rw[e]at ht;rcases List.mem_cons.1 ht with rfl | ht
   ·exact h3
   ·exact h1 t ht
  ·rw[e,List.flatMap_cons,h2,h4,Z9 (h x (by simp))];rfl
theorem uY {M:List Mg} {row r:List Int} (h:wE M row=some r):∃i m,pH M row i m/\r=wG row i m.out:=by
 unfold wE at h;split at h
 ·next he=>exact⟨_,_,he.choose_spec,(Option.some.inj h).symm⟩
 ·cases h
theorem nY {V:Vc} (hM:mD V.tokens V.merges) {row r b:List Int} (h:xN V.tokens row b) (hs:wE V.merges row=some r):xN V.tokens r b:=by
 obtain⟨i,m,hb,rfl⟩:=uY hs;obtain⟨x,y,h1,h2,h3⟩:=hb.at_;have hm:m∈V.merges:=List.mem_of_find?_eq_some h3;have hp:=List.find?_some (p:=fun m:Mg=>decide (m.left=x) && decide (m.right=y)) h3;simp only[Bool.and_eq_true,decide_eq_true_eq]at hp;obtain⟨o1,o2,o3,o4,_⟩:=hM.2.1 m hm;have hi:=(List.getElem?_eq_some_iff.1 h2).1;have e:row=row.take i++x::y::row.drop (i+2):=by
  have e1:=List.take_append_drop i row;have g1:row[i]'(by omega)=x:=(List.getElem?_eq_some_iff.1 h1).2;have g2:row[i+1]'hi=y:=(List.getElem?_eq_some_iff.1 h2).2;rw[List.drop_eq_getElem_cons (by omega),List.drop_eq_getElem_cons hi,g1,g2]at e1;exact e1.symm
 obtain⟨t1,t2⟩:=h;refine⟨fun t ht=> ?_,?_⟩
 ·unfold wG at ht;rcases List.mem_append.1 ht with ht | ht
  ·exact t1 t (List.mem_of_mem_take ht)
  ·rcases List.mem_cons.1 ht with rfl | ht
   ·exact o3
   ·exact t1 t (List.mem_of_mem_drop ht)
 ·rw[e]at t2;unfold wG;rw[<-t2];simp only[List.flatMap_append,List.flatMap_cons];rw[o4,Z8,hp.1,hp.2];simp
theorem lS {V:Vc} (hM:mD V.tokens V.merges) {b:List Int}:∀{k:Nat} {row:List Int},xN V.tokens row b->xN V.tokens (kK V.merges k row) b
 | 0,row,h=>h
 | k+1,row,h=>by
  simp only[kK]
  cases hs:wE V.merges row with
  | none=>exact h
  | some r=>exact lS hM (nY hM h hs)
theorem nS {V:Vc} {N:List ByteArray}:∀{row b:List Int},xN V.tokens row b->xA V N row=(b,0)
 | [],b,h=>by
  obtain⟨_,rfl⟩:=h;rfl
 | t::row,b,⟨h1,h2⟩=>by
  have h3:=h1 t (by simp);have hr:=nS (V:=V) (N:=N) (row:=row) ⟨fun u hu=>h1 u (by simp[hu]),rfl⟩;have hs:iA V N t=(qA (tk V.tokens t.toNat),0):=by unfold iA;rw[if_pos h3]
  rw[qC,hr,hs,<-h2];rfl
theorem aCi {V:Vc} {N:List ByteArray} (hV:May V) (hN:A6 N) {A:List Int} (hc:vA V N A=0) (hp:aBf A):xA V N (oD V N A)=(A,0):=by
 have h0:A≠[]:=by
  rcases hp with⟨s,rfl,_⟩ | ⟨h,_⟩
  ·simp
  ·exact h
 unfold oD;rw[if_neg (by rintro(h | h);exact h hc;exact h0 h)];rcases hp with⟨s,rfl,h6⟩ | ⟨_,hb⟩
 ·have e:ix [s] 0=s:=rfl;rw[if_pos (by rw[e];exact⟨rfl,h6⟩),e];have hf:=C7.1 hc s (by simp);obtain⟨_,hs2⟩:=pQ hf;obtain⟨k,hk⟩:∃k:Nat,s-256=k:=⟨(s-256).toNat,by omega⟩;have hkN:k<N.length:=by omega
  have hm:jH V N s=idOf (D0 V.specials (tk N k)):=by
   unfold jH aC ix;rw[hk];simp[tk,List.getD,hkN]
  have hm0:¬jH V N s<0:=by
   unfold sB at hf;rw[if_neg (by omega)]at hf;intro g;rw[if_pos ⟨h6,g⟩]at hf
   cases hf
  cases hsp:D0 V.specials (tk N k)with
  | none=>rw[hm,hsp]at hm0;exact absurd (by decide) hm0
  | some p=>
   rw[hm,hsp];show xA V N [p.id]=_;have:=mV hV.2.2.2 hN hkN hsp;rw[qC,this];simp[xA];omega
 ·have e1:¬(A.length=1/\256<=ix A 0):=by
   rintro⟨g1,g2⟩;have h9:=xE (A:=A) (i:=0) (by omega);have:=hb _ (List.mem_of_getElem? h9);omega
  rw[if_neg e1,if_pos (List.all_eq_true.2 fun y hy=>eD.2 (hb y hy))];exact nS (lS hV.2.1 (mS hV.1 hb))
theorem rQ {V:Vc} {N:List ByteArray} (hV:May V) (hN:A6 N):∀{ps:List (Int×Bool)} {A:List Int},vA V N A=0->M4 ps A->xA V N (tG V N ps A)=(A,0)
 | [],A,_,h=>by
  have:A= []:=h;subst this;rfl
 | p::ps,A,hc,⟨h1,h2,h3,h4⟩=>by
  obtain⟨c1,c2⟩:=vJ hc p.1.toNat;have e1:=aCi hV hN c1 h3;have e2:=rQ hV hN c2 h4;show xA V N (oD V N (A.take p.1.toNat)++tG V N ps (A.drop p.1.toNat))=_;rw[fK (by rw[e1]),e2,e1,if_pos rfl];simp
theorem dec_text {V:Vc} {N:List ByteArray} (hV:May V) (hN:A6 N) {kind:Int} {T:List Rg} (hT:mA T) {A:List Int} (hc:vA V N A=0):xA V N (kV V N kind T A)=(A,0):=
 rQ hV hN hc (rV hT hc)
theorem M8 {w:World} {ops:Array Oper} {rest:List Oper} {o:Oper} {a:Act} {Q:Exit->Act->World->Prop} (hgd:o.guard=none) (s x:Operand)
  (ho:o.op= .call {callee:= .builtin .append,args:=#[s,x],argTypes:=#[40,40]})
  {base b m c k:Nat} {v:Value} {A R:List Int} (hs:a.eval s=v) (hown:Own w base v A) (hk:A.length=k) (hx:a.eval x= .slice (some ⟨b,0,none⟩) m c)
  (hl:SlI w (some ⟨b,0,none⟩) m c R) (hm0:0<m) (hm:k+m<1048576) (hbase:base<=w.heap.size)
  (hK:∀g cap' w',Own w' base (.slice (some ⟨g,0,none⟩) (k+m) cap') (A++R)->w.grownBy w' v.ownBlock->(v.ownBlock=some g\/g=w.heap.size)->wpList Tryz.prog ops Q rest (a.put o.dst (.slice (some ⟨g,0,none⟩) (k+m) cap')) w'):
  wpList Tryz.prog ops Q (o::rest) a w:=by
 obtain⟨i0,hi0,hz0,hz1,hz2⟩:=info_parts vC;subst hk;have hRl:=hl.len;refine wpList_append_lies (P:=Tryz.prog) (w:=w) hgd s x 40 ho base 3 i0 _ 1 8 Tryz.underlying40 hi0 hz0 hz1 hz2 rfl (by omega) _ A.length _ hs hown ⟨b,0,none⟩ m c (R.map (.int .i64)) hx (by rw[List.length_map];omega)
  (fun j u hu=> ?_) (mU R) hm0 (by unfold maxLen;omega) (by omega) hbase w.heap.size rfl ?_
 ·obtain⟨b',o',e,hc⟩:=Sl.at_ hl j u hu;simp only[Option.some.injEq,Addr.mk.injEq,and_true]at e;obtain⟨rfl,rfl⟩:=e;rw[Addr.add_lit];exact hc
 ·intro g cap' w' ho' hgr hat hlt;refine hK g cap' w' ?_ hgr hat
  unfold Own;rw[List.length_append,List.map_append,hRl];exact ho'
theorem aBp {M:List Mg} {row r:List Int} (h:wE M row=some r):0<r.length:=by
 have hl:=aN h;unfold wE at h;split at h
 ·next he=>
  obtain⟨a,b,h1,h2,h3⟩:=he.choose_spec.at_;have:=(List.getElem?_eq_some_iff.1 h2).1;omega
 ·cases h
theorem V4 {M:List Mg}:∀(k:Nat) (r:List Int),0<r.length->0<(kK M k r).length
 | 0,r,h=>h
 | k+1,r,h=>by
  cases hs:wE M r with
  | none=>rw[wP hs];exact h
  | some r'=>
   have:=V4 k r' (aBp hs) (M:=M);simp only[kK,hs];exact this
theorem encF_pos {V:Vc} {A:List Int} (h:0<A.length):0<(vH V A).length:=
 V4 (M:=V.merges) A.length (pB V A) (by rw[zF];exact h)
theorem cZ {V:Vc} {N:List ByteArray} {A:List Int} (hc:vA V N A=0) (hm:aBf A):0<(oD V N A).length/\(oD V N A).length<=A.length:=by
 rcases hm with⟨x,rfl,hx⟩ | ⟨hne,hb⟩
 ·rw[jO hc hx];simp
 ·rw[eM hc hne hb];exact⟨encF_pos (List.length_pos_iff.2 hne),aAV V A⟩
def byN:List (Int×Bool)->List Int->Int
 | [],_=>0
 | p::ps,A=>nN (A.take p.1.toNat)+byN ps (A.drop p.1.toNat)
theorem isBy_01 (A:List Int):0<=nN A/\nN A<=1:=by
 unfold nN;split<;>omega
theorem M4.len:∀{ps:List (Int×Bool)} {A:List Int},M4 ps A->ps.length<=A.length
 | [],A,h=>Nat.zero_le _
 | p::ps,A,h=>by
  have:=M4.len h.2.2.2;have:=h.1;have:=h.2.1;simp only[List.length_drop,List.length_cons]at *;omega
theorem dU {P:Nat->Prop} {V:Vc} {N:List ByteArray} {kind:Int} {T:List Rg} {base g:Nat} {room:Int} {cnt:Int} {A:List Int} {ao:Option Addr} {n c:Nat} (w:World) (h:Cdr w base g V N kind T room cnt P) (hM:May V) (hN:N.length<=16) (hr:room<=1048576)
  (hA:SlI w ao n c A) (hn:n<=100000) (hm:aBf A) (hc:vA V N A=0) (hcnt:cnt<1000000):
  Calls Tryz.prog 63 #[.pointer (some ⟨g,0,none⟩), .slice ao n c] w (PcQ w base g V N kind T room cnt P (oD V N A) (nN A)):=by
 have hl:=hA.len;rcases hm with⟨x,rfl,hx⟩ | ⟨hne,hb⟩
 ·simp only[List.length_singleton]at hl;subst hl;exact bW w h hN hA hx hc
 ·exact eU w h hM hN hr hA (by have:=List.length_pos_iff.2 hne;omega) hn hb hc hcnt
def EncQ (w:World) (base g:Nat) (V:Vc) (N:List ByteArray) (kind:Int) (T:List Rg) (room cnt:Int) (P:Nat->Prop) (R:List Int) (d:Int) (e:Ending) (w':World):Prop:=
 ∃v P',e= .returned (.tuple #[v, .int .i64 0])/\Own w' w.heap.size v R/\Cdr w' base g V N kind T room (cnt+d) P'/\(∀q,P' q->P q\/w.heap.size<=q)/\(∀q,v.ownBlock=some q->¬P' q)/\kA P w w'
structure EnL (V:Vc) (N:List ByteArray) (ps:List (Int×Bool)) (w1 wr:World) (base g:Nat) (kind:Int) (T:List Rg) (room cnt:Int) (P:Nat->Prop) (ao:Option Addr) (n c:Nat) (A R:List Int) (D:Int) (k:Nat) (O B:List Int) (bo:Option Addr) (m c':Nat) (P':Nat->Prop) (d:Int) (o:Value):Prop where
 own:Own wr w1.heap.size o O
 cdr:Cdr wr base g V N kind T room (cnt+d) P'
 sub:∀q,P' q->P q\/w1.heap.size<=q
 fresh:∀q,o.ownBlock=some q->¬P' q
 kp:kA (fun q=>P q\/w1.heap.size<=q) w1 wr
 sl:∀W,SlI W ao n c A->SlI W bo m c' B
 ok:M4 (ps.drop k) B
 ck:vA V N B=0
 tot:O++tG V N (ps.drop k) B=R
 by_:d+byN (ps.drop k) B=D
 le:O.length+B.length<=n/\d+B.length<=n/\0<=d
theorem kR {P:Nat->Prop} {V:Vc} {N:List ByteArray} {kind:Int} {T:List Rg} {base g:Nat} {room:Int} {cnt:Int} {A:List Int} {ao:Option Addr} {n c:Nat} (w:World) (h:Cdr w base g V N kind T room cnt P) (hM:May V) (hN:N.length<=16) (hT:mA T) (hk0:0<=kind) (hk3:kind<=3) (hr:room<=1048576)
  (hA:SlI w ao n c A) (hAo:∀ad,ao=some ad->0<n->ad.block<w.heap.size/\¬P ad.block) (hn:n<=100000) (hcnt:cnt+n<1000000) (hc:vA V N A=0):
  Calls Tryz.prog 29 #[.pointer (some ⟨g,0,none⟩), .slice ao n c] w (EncQ w base g V N kind T room cnt P (kV V N kind T A) (byN (F4 kind T A true) A)):=by
 obtain⟨ps,hps⟩:∃ps,F4 kind T A true=ps:=⟨_,rfl⟩;have hok:M4 ps A:=hps▸rV hT hc;obtain⟨cb,hcod⟩:=h.cod;have hCk:=zG w hcod hN hA (by omega);rw[hc]at hCk;have hSp:=wT true w hcod hA (by omega) hT hk0 hk3;rw[hps]at hSp;obtain⟨R,hR⟩:∃R,kV V N kind T A=R:=⟨_,rfl⟩;have htot:tG V N ps A=R:=by rw[<-hR,kV,hps]
 rw[hR,hps];obtain⟨D,hD⟩:∃D,byN ps A=D:=⟨_,rfl⟩;rw[hD];have hAl:=hA.len;have hps1:ps.length<=100000:=by have:=hok.len;omega
 have HCK:=hW_ hCk;have HSP:=hW_ hSp;have HV:=hW_ h;have HA:=hW_ hA;have HAL:=hW_ hAl;have HAO:=hW_ hAo;have HMY:=hW_ hM;have HI:=hW_ (And.intro hok (And.intro hc (And.intro htot hD)));have HCN:=hW_ hcnt;clear h hA hAl hAo hc hps hCk hSp hM hok hR htot hD hcod hcnt;obtain⟨i0,hi0,hz0,hz1,hz2⟩:=info_parts vC;go_enter Tryz.func29,Tryz.ntmps29;go_wp2_with (go_at_call 39;refine HCK.out.mono ?_;rintro e w1 ⟨rfl,rfl⟩);go_at_call 62;refine HSP.out.mono ?_
 rintro e w1 ⟨⟨pv,rfl,ho⟩,hb1⟩;obtain⟨pa,pc',rfl,hps⟩:=ho.sl;have hplt:0<ps.length->∀ad,pa=some ad->ad.block<w1.heap.size/\w.heap.size<=ad.block:=fun hl ad e=>by
  obtain⟨pb,pc,hpv,hpb,hpl⟩:=dA.at0 ho hl;obtain⟨rfl,-,rfl⟩:=Value.slice.inj hpv;obtain rfl:(⟨pb,0,none⟩:Addr)=ad:=Option.some.inj e;exact⟨hpl,hpb⟩
 have HPS:=hW_ hps;have HPL:=hW_ hplt;have HB1:=hW_ hb1;have HPW:=hW_ (fun q (hq:P q)=>(HV.out.lt q hq).2);clear ho hps hplt hb1;go_wp2_with (fail);go_loopw [1,7,20] (fun tx o i wr=>∃(k:Nat) (O B:List Int) (bo:Option Addr) (m c':Nat) (P':Nat->Prop) (d:Int),k<=ps.length/\i= .int .i64 k/\tx= .slice bo m c'/\Hid (EnL V N ps w1 wr base g kind T room cnt P ao n c A R D k O B bo m c' P' d o)) (fun _ _ i _=>ps.length-(intOf i).toNat)
 case atStart=>exact⟨0,[],A,ao,n,c,P,0,Nat.zero_le _,rfl,rfl,hW_ ⟨Own.nil _ _,by rw[Int.add_zero];exact HV.out.below HB1.out,fun q hq=> .inl hq,fun q hq=>(by cases hq),kA.refl _ _,fun W hW=>hW,HI.out.1,HI.out.2.1,HI.out.2.2.1,by rw[Int.zero_add];exact HI.out.2.2.2,by have:=HAL.out;simp;omega⟩⟩
 case round=>
  obtain⟨k,O,B,bo,m,c',P',d,hk,rfl,rfl,HL⟩:=hrel;obtain⟨ov,hov⟩:∃ov,ov=u7:=⟨_,rfl⟩;subst hov
  by_cases hlt:k<ps.length
  ·obtain⟨⟨pn,pd⟩,hp⟩:∃x,ps[k]=x:=⟨_,rfl⟩;have hdr:ps.drop k=(pn,pd)::ps.drop (k+1):=by rw[List.drop_eq_getElem_cons hlt,hp]
   have hok:=HL.out.ok;rw[hdr]at hok;obtain⟨h1,h2,h3,h4⟩:=hok;simp only at h1 h2 h3 h4;obtain⟨j,rfl⟩:∃j:Nat,pn=j:=⟨pn.toNat,by omega⟩;rw[Int.toNat_natCast]at h3 h4;have hBm:B.length=m:=by
    have hs:=HL.out.sl w HA.out;exact hs.len
   have hjm:j<=m:=by omega
   have htot:=HL.out.tot;have hby:=HL.out.by_;rw[hdr]at htot hby;simp only[tG,byN,Int.toNat_natCast]at htot hby;have hPq:∀q,w.heap.size<=q->q<w1.heap.size->¬(P q\/w1.heap.size<=q):=fun q h1 h2 h3=>by
    rcases h3 with h3 | h3
    ·have:=HPW.out q h3;omega
    ·omega
   have hpw:SlF 2 wr pa ps.length pc' (flat uI ps):=HPS.out.keep0 (fun ad e hl=>by
    obtain⟨a1,a2⟩:=HPL.out hl ad e;exact HL.out.kp.block _ a1 (hPq _ a2 a1))
   obtain⟨b,of,rfl,hce⟩:=hpw.elem aBx (by omega) (k:=k) (x:=((j:Int),pd)) (by rw[<-hp];exact List.getElem?_eq_getElem hlt);have d0:=hce 0 _ rfl;have d1:=hce 1 _ rfl;rw[Nat.add_zero]at d0;simp only at d0 d1;have gk:(k:Int)<(ps.length:Int):=by omega
   have hAw:SlI wr ao n c A:=(SlI.below HA.out HB1.out).keep0 (fun ad e hl=>by
    obtain⟨a1,a2⟩:=HAO.out ad e hl;refine HL.out.kp.block _ (Nat.lt_of_lt_of_le a1 HB1.out.size) (fun hq=> ?_);rcases hq with hq | hq
    ·exact a2 hq
    ·have:=HB1.out.size;omega)
   have hBw:=HL.out.sl wr hAw;have hb2:=aA wr (.cells #[.int .i64 j, .bool pd] 108);have HSA:Hid (SlI (wr.alloc (.cells #[.int .i64 j, .bool pd] 108)) bo m c' B):=hW_ (SlI.below hBw hb2);obtain⟨W2,hW2⟩:∃W2,wr.alloc (.cells #[.int .i64 j, .bool pd] 108)=W2:=⟨_,rfl⟩;have hx2:W2.heap[wr.heap.size]?=some (.cells #[.int .i64 j, .bool pd] 108):=by rw[<-hW2];exact heap_alloc_new wr _
   have hS2:wr.heap.size<W2.heap.size:=by rw[<-hW2];simp
   rw[hW2]at hb2;have hcw:=HL.out.cdr;have hckB:vA V N (B.take j)=0:=(vJ HL.out.ck j).1;have hckD:vA V N (B.drop j)=0:=(vJ HL.out.ck j).2;have hpl:=cZ hckB h3;rw[List.length_take]at hpl;have hBW2:SlI W2 bo m c' B:=SlI.below hBw hb2;have HPC:=hW_ (dU W2 (hcw.below hb2) HMY.out hN hr (hBW2.take hjm) (by have:=HL.out.le;omega) h3 hckB (by have:=HL.out.le;have:=HCN.out;omega));obtain⟨pr,hpr⟩:∃pr,oD V N (B.take j)=pr:=⟨_,rfl⟩;rw[hpr]at HPC hpl htot;obtain⟨dd,hdd⟩:∃dd,nN (B.take j)=dd:=⟨_,rfl⟩;have hd01:=isBy_01 (B.take j);rw[hdd]at HPC hby hd01;have HF:=hW_ (And.intro h4 (And.intro hckD (And.intro htot (And.intro hby (And.intro hpl hd01)))));have HW2:=hW_ hW2;have HX2:=hW_ hx2;have HS2:=hW_ hS2;have HB2:=hW_ hb2;have HBM:=hW_ hBm;have HLE:=hW_ (Sl.le hBw);have HCL:=hW_ hcw.lt;clear hce hpw hAw hBw hb2 hW2 hx2 hS2 hcw hckB hckD hpl hBW2 h1 h2 h3 h4 htot hby hPq hp hdr hpr hdd hd01 hBm;go_wp2_with (with_reducible show wpList _ _ _ (⟨_, .slice _ _ none (some _) none,_,_,_,_⟩::_) _ _;refine rI rfl 40 _ _ rfl 3 i0 Tryz.underlying40 hi0 hz1 (k:=j) rfl HSA.out rfl rfl hjm ?_;intro hb';clear hb');rw[HW2.out];go_at_call 63;refine HPC.out.mono ?_
   rintro e w3 ⟨v3,P3,rfl,ho3,hV3,hs3,hk3'⟩;obtain⟨rb,rc,hv3⟩:=bK ho3 HF.out.2.2.2.2.1.1;subst hv3;obtain⟨ra,rc',e3,hsl3⟩:=ho3.sl;obtain⟨rfl,-,rfl⟩:=Value.slice.inj e3;have h9:w3.cell? ⟨wr.heap.size,0,none⟩=some (.int .i64 j):=by
    have hh:=hk3'.block wr.heap.size HS2.out (fun hq=>by have:=(HCL.out _ hq).2;omega);rw[World.cell?_of_block (w:=W2) hh];simp[World.cell?,HX2.out]
   have hlt7:∀q,ov.ownBlock=some q->w1.heap.size<=q/\q<wr.heap.size:=fun q hq=>World.ownsRow.lt HL.out.own q hq
   have HO3:Hid (Own w3 w1.heap.size ov O):=hW_ (oA (HL.out.own.below HB2.out) (fun q hq=>hk3'.block q (Nat.lt_trans (hlt7 q hq).2 HS2.out) (HL.out.fresh q hq)));have HS3:Hid (W2.heap.size<=w3.heap.size):=hW_ hk3'.size;have HSL3:=hW_ hsl3;have HV3:=hW_ hV3;have HK3:=hW_ hk3';have HP3:=hW_ hs3;have H7:=hW_ hlt7;have HBS:Hid (w1.heap.size<=w3.heap.size):=hW_ (by have:=HL.out.kp.size;have:=HS2.out;have:=HS3.out;omega);have hPL:0<pr.length/\O.length+pr.length<1048576:=⟨HF.out.2.2.2.2.1.1,by have:=HF.out.2.2.2.2.1.2;have:=HL.out.le;have:=HBM.out;omega⟩;clear ho3 e3 hsl3 hV3 hk3' hs3 hlt7 d0 d1;obtain⟨oa,oc,hov,-⟩:=HO3.out.sl;subst hov;go_wp2_with (first
    | (at_builtin;refine M8 rfl _ _ rfl (base:=w1.heap.size) (v:= .slice oa O.length oc) (k:=O.length) (m:=pr.length) rfl HO3.out rfl rfl HSL3.out hPL.1 hPL.2 HBS.out ?_;intro gg cap w4 ho4 hg4 hat4;have k9:w4.cell? ⟨wr.heap.size,0,none⟩=some (.int .i64 j):=(World.cell?_of_block (w:=w3) (hg4.block wr.heap.size (Nat.lt_of_lt_of_le HS2.out HS3.out) (fun e=>by have:=(H7.out _ e.symm).2;omega))).trans h9;have HO4:=hW_ ho4;have HG4:=hW_ hg4;have HAT4:=hW_ hat4;clear ho4 hg4 hat4)
    | (with_reducible show wpList _ _ _ (⟨_, .slice _ _ (some _) none none,_,_,_,_⟩::_) _ _;refine dC rfl 40 _ _ rfl 3 i0 Tryz.underlying40 hi0 hz1 bo m c' rfl HLE.out .i64 (j:Int) j rfl rfl hjm ?_;intro bo' hbo;have HBO:=hW_ hbo;clear hbo))
   have hnP:∀q,(Value.slice oa O.length oc).ownBlock=some q->¬P3 q:=fun q hq h3=>by
    rcases HP3.out q h3 with h3 | h3
    ·exact HL.out.fresh q hq h3
    ·have:=(H7.out q hq).2;have:=HS2.out;omega
   have HEN:Hid (EnL V N ps w1 w4 base g kind T room cnt P ao n c A R D (k+1) (O++pr) (B.drop j) bo' (m-j) (c'-j) P3 (d+dd) (.slice (some ⟨gg,0,none⟩) (O.length+pr.length) cap)):=hW_ (by
    obtain⟨f1,f2,f3,f4,f5,f6⟩:=HF.out;refine⟨HO4.out,?_,fun q hq=> ?_,fun q hq h3=> ?_,?_,fun W hW=> ?_,f1,f2,by rw[List.append_assoc];exact f3,by rw[Int.add_assoc];exact f4,?_⟩
    ·have h:=HV3.out;rw[Int.add_assoc]at h;exact h.stay (fun q hq=>HG4.out.block q (h.lt q hq).2 (fun e=>hnP q e.symm hq)) HG4.out.size
    ·rcases HP3.out q hq with h3 | h3
     ·exact HL.out.sub q h3
     ·exact .inr (by have:=HL.out.kp.size;have:=HS2.out;omega)
    ·obtain rfl:gg=q:=by simpa[Value.ownBlock]using hq
     rcases HAT4.out with h5 | h5
     ·exact hnP gg h5 h3
     ·have:=(HV3.out.lt gg h3).2;omega
    ·refine kA.grown (((HL.out.kp.trans (kA.of_below HB2.out)).trans (HK3.out.mono (fun q _ hq=>HL.out.sub q hq)))) HG4.out (fun q e hq=> .inr (H7.out q e).1)
    ·have:=HBO.out W _ (HL.out.sl W hW);unfold SlI;rw[List.map_drop];exact this
    ·have:=HL.out.le;have:=HBM.out;rw[List.length_append,List.length_drop];omega)
   clear hnP k9 h9;go_wp2_with (fail);go_roundw
   case rel=>exact⟨k+1,_,_,bo',m-j,c'-j,P3,d+dd,by omega,by go_num,rfl,HEN⟩
   case measure=>simp[intOf];omega
  ·obtain rfl:k=ps.length:=by omega
   have HE:Hid (O=R/\d=D):=hW_ (by
    have h1:=HL.out.tot;have h2:=HL.out.by_;rw[List.drop_length]at h1 h2;simp only[tG,byN,List.append_nil]at h1 h2;exact⟨h1,by omega⟩)
   go_wp2_with (fail);refine bodyPost_ret (v:= .tuple #[ov, .int .i64 0]) ?_ rfl ⟨ov,P',rfl,?_,?_,fun q hq=> ?_,HL.out.fresh,?_⟩
   ·simp[results,Tryz.results29,go_sem]
   ·rw[<-HE.out.1];exact HL.out.own.mono HB1.out.size
   ·rw[<-HE.out.2];exact HL.out.cdr
   ·exact(HL.out.sub q hq).imp id (fun h=>Nat.le_trans HB1.out.size h)
   ·exact((kA.of_below HB1.out).trans HL.out.kp).mono (fun q h1 h2=>h2.resolve_right (fun h3=>by have:=HB1.out.size;omega))
theorem jR {V:Vc} {N:List ByteArray} {kind:Int} {T:List Rg} {base g cb:Nat} {A:List Int} {ao:Option Addr} {n c:Nat} (w:World) (hcod:mG w base g V N kind T cb) (hN:N.length<=16)
  (hA:SlI w ao n c A) (hn:n<=100000) (hc:vA V N A≠0):
  Calls Tryz.prog 29 #[.pointer (some ⟨g,0,none⟩), .slice ao n c] w (fun e w'=>e= .returned (.tuple #[.slice none 0 0, .int .i64 (vA V N A)])/\w'=w):=by
 have hCk:=zG w hcod hN hA (by omega);obtain⟨x,hx⟩:∃x,vA V N A=x:=⟨_,rfl⟩;rw[hx]at hCk hc |-;have gx:(x==0)=false:=by simpa using hc
 have HCK:=hW_ hCk;clear hCk hx hc;go_enter Tryz.func29,Tryz.ntmps29;go_wp2_with (go_at_call 39;refine HCK.out.mono ?_;rintro e w1 ⟨rfl,rfl⟩);refine bodyPost_ret (v:= .tuple #[.slice none 0 0, .int .i64 x]) ?_ rfl ⟨rfl,rfl⟩
 simp[results,Tryz.results29,go_sem]
def F5 (n:Nat):List Rw:=(List.range n).map fun b=>⟨one b,(b:Int)⟩
theorem yP (n:Nat):F5 (n+1)=F5 n++ [⟨one n,(n:Int)⟩]:=by
 unfold F5;rw[List.range_succ,List.map_append];rfl
theorem E1 {n:Nat} {r:Rw} (h:r∈F5 n):∃b,b<n/\r=⟨one b,(b:Int)⟩:=by
 unfold F5 at h;obtain⟨b,hb,rfl⟩:=List.mem_map.1 h;exact⟨b,List.mem_range.1 hb,rfl⟩
theorem zS (n:Nat):(F5 n).length=n:=by simp[F5]
theorem aBw (n i:Nat):sI (F5 n) i=if i<n then one i else ByteArray.empty:=by
 induction n with
 | zero=>rfl
 | succ n ih=>
  rw[yP]
  by_cases e:i=n
  ·subst e;rw[H5 (fun r hr=>by obtain⟨b,hb,rfl⟩:=E1 hr;simp only;omega)];simp
  ·rw[C9 (by simp only;omega),ih]
   by_cases h:i<n
   ·rw[if_pos h,if_pos (by omega)]
   ·rw[if_neg h,if_neg (by omega)]
def abS:ByteArray:=⟨#[97,98]⟩
def R0:List Rw:=F5 256++ [⟨abS,256⟩]
def T0:List ByteArray:=(List.range 256).map one++ [abS]
theorem nH:T0.length=257:=by simp[T0]
theorem zN {i:Nat} (h:i<256):tk T0 i=one i:=by
 unfold tk T0;rw[List.getD_eq_getElem?_getD,List.getElem?_append_left (by simpa using h)];simp[h]
theorem aAm:tk T0 256=abS:=by
 unfold tk T0;rw[List.getD_eq_getElem?_getD,List.getElem?_append_right (by simp)];simp
theorem top_R0:top R0 []=257:=by decide +kernel
theorem toks_R0:nD R0 []=T0:=by
 unfold nD;rw[top_R0];refine List.ext_getElem? fun i=> ?_
 by_cases h:i<257
 ·rw[zA (T:=T0) (by rw[nH];exact h)];simp only[List.getElem?_map,List.getElem?_range (show i<(257:Int).toNat from h),Option.map_some];congr 1;unfold R0
  by_cases e:i=256
  ·subst e;rw[aAm,H5 (fun r hr=>by obtain⟨b,hb,rfl⟩:=E1 hr;simp only;omega)];rfl
  ·rw[zN (by omega),C9 (by simp only;omega),aBw,if_pos (by omega)]
 ·rw[List.getElem?_eq_none (by simp;omega),List.getElem?_eq_none (by rw[nH];omega)]
theorem one_inj {i j:Nat} (hi:i<256) (hj:j<256) (h:one i=one j):i=j:=by
 unfold one at h;simp only[ByteArray.mk.injEq,Array.mk.injEq,List.cons.injEq,and_true]at h;have:=congrArg UInt8.toNat h;simp at this;omega
theorem aAs:wN T0:=fun i j h1 h2 e=>by
 rw[nH]at h2
 by_cases hj:j=256
 ·subst hj;rw[zN (by omega),aAm]at e;have:=congrArg ByteArray.size e;simp[one,abS,ByteArray.size]at this
 ·rw[zN (by omega),zN (by omega)]at e;have:=one_inj (by omega) (by omega) e;omega
theorem S4:C0 T0:=⟨by rw[nH];omega,fun s hs=>by
 unfold T0 at hs;rcases List.mem_append.1 hs with h | h
 ·obtain⟨b,_,rfl⟩:=List.mem_map.1 h;exact Nat.le_of_lt (show 1<64 by omega) |> fun _=>show 1<=64 by omega
 ·obtain rfl:=List.mem_singleton.1 h;exact show 2<=64 by omega,aAs,fun b hb=>List.mem_append.2 (.inl (List.mem_map.2 ⟨b,List.mem_range.2 hb,rfl⟩))⟩
def m0:Mg:=⟨97,98,256,256⟩
theorem sort_nil:lF []= []:=by unfold lF;simp
theorem ok_R0:qF R0 []:=by
 refine⟨by simp,fun r hr=> ?_,?_⟩
 ·rcases List.mem_append.1 hr with h | h
  ·obtain⟨b,hb,rfl⟩:=E1 h;simp only;omega
  ·obtain rfl:=List.mem_singleton.1 h;simp only;omega
 ·unfold R0;rw[List.pairwise_append];refine⟨?_,by simp,fun a ha b hb=> ?_⟩
  ·unfold F5;rw[List.pairwise_map];exact List.pairwise_lt_range.imp (fun h=>by simp only;omega)
  ·obtain⟨q,hq,rfl⟩:=E1 ha;obtain rfl:=List.mem_singleton.1 hb;simp only;omega
theorem infoRwL:(Tryz.prog.info? 131).map (fun i=>(i.zero.map (·.cells.size),i.size,i.bytes))=some (some 2,2,24):=by kernel_rfl
theorem infoSpL:(Tryz.prog.info? 126).map (fun i=>(i.zero.map (·.cells.size),i.size,i.bytes))=some (some 2,2,24):=by kernel_rfl
theorem Rw.enc_oneL (x:Rw):∀v∈x.enc,v.oneCell'=true:=by
 intro v hv;simp[Rw.enc]at hv;rcases hv with rfl | rfl<;>rfl
theorem Sp.enc_oneL (x:Sp):∀v∈x.enc,v.oneCell'=true:=by
 intro v hv;simp[Sp.enc]at hv;rcases hv with rfl | rfl<;>rfl
def jJ (M:List ByteArray) (k:Nat):List Rw:=(List.range k).map fun i=>⟨tk M i,256+(i:Int)⟩
def gH (M N:List ByteArray) (k:Nat):List Sp:=(List.range k).map fun i=>⟨tk N i,256+(M.length:Int)+(i:Int)⟩
def oJ (M:List ByteArray):List Rw:=F5 256++jJ M M.length
def nJ (M N:List ByteArray):List Sp:=gH M N N.length
theorem lZ (M:List ByteArray) (k:Nat):jJ M (k+1)=jJ M k++ [⟨tk M k,256+(k:Int)⟩]:=by
 unfold jJ;rw[List.range_succ,List.map_append];rfl
theorem kW (M N:List ByteArray) (k:Nat):gH M N (k+1)=gH M N k++ [⟨tk N k,256+(M.length:Int)+(k:Int)⟩]:=by
 unfold gH;rw[List.range_succ,List.map_append];rfl
theorem aBD (M:List ByteArray) (k:Nat):(jJ M k).length=k:=by simp[jJ]
theorem hZ (M N:List ByteArray) (k:Nat):(gH M N k).length=k:=by simp[gH]
theorem S2 {w:World} {g b k:Nat} {u:Value} {a0 a1 a2:Option Addr} {n0 n1 n2 c0 c1 c2:Nat} {t:TypeId} (hg:w.heap[g]?=some (.cells #[.slice a0 n0 c0, .slice a1 n1 c1, .slice a2 n2 c2] t)) (hc:w.cell? ⟨b,k,none⟩=some u) (hv:∀a n c,u≠ .slice a n c):b≠g:=by
 rintro rfl;simp only[World.cell?,hg]at hc;have:=Array.mem_of_getElem? hc;simp at this;rcases this with h | h | h<;>exact hv _ _ _ h
theorem Sl.notSl {w w':World} {g:Nat} {ao:Option Addr} {n cap:Nat} {vs:List Value} (h:Sl w ao n cap vs) (hv:∀u∈vs,∀a n c,u≠ .slice a n c) {a0 a1 a2:Option Addr} {n0 n1 n2 c0 c1 c2:Nat} {t:TypeId} (hg:w.heap[g]?=some (.cells #[.slice a0 n0 c0, .slice a1 n1 c1, .slice a2 n2 c2] t)) (hk:∀q,q≠g->w'.heap[q]?=w.heap[q]?):Sl w' ao n cap vs:=
 ⟨h.len,h.le,h.max,h.nil,fun i u hu=>let ⟨b,o,e,hc⟩:=h.at_ i u hu;⟨b,o,e,(World.cell?_of_block (a:=⟨b,o+i, .none⟩) (hk b (S2 hg hc (hv u (List.mem_of_getElem? hu))))).trans hc⟩⟩
theorem SlF.notSl {s:Nat} {w w':World} {g:Nat} {ao:Option Addr} {n cap:Nat} {vs:List Value} (h:SlF s w ao n cap vs) (hv:∀u∈vs,∀a n c,u≠ .slice a n c) {a0 a1 a2:Option Addr} {n0 n1 n2 c0 c1 c2:Nat} {t:TypeId} (hg:w.heap[g]?=some (.cells #[.slice a0 n0 c0, .slice a1 n1 c1, .slice a2 n2 c2] t)) (hk:∀q,q≠g->w'.heap[q]?=w.heap[q]?):SlF s w' ao n cap vs:=
 ⟨h.len,h.le,h.max,h.nil,fun i u hu=>let ⟨b,o,e,hc⟩:=h.at_ i u hu;⟨b,o,e,(World.cell?_of_block (a:=⟨b,o+i, .none⟩) (hk b (S2 hg hc (hv u (List.mem_of_getElem? hu))))).trans hc⟩⟩
theorem eE.notSl {w w':World} {g:Nat} {d:Vd} {V:Vc} (h:eE w d V) {a0 a1 a2:Option Addr} {n0 n1 n2 c0 c1 c2:Nat} {t:TypeId} (hg:w.heap[g]?=some (.cells #[.slice a0 n0 c0, .slice a1 n1 c1, .slice a2 n2 c2] t)) (hk:∀q,q≠g->w'.heap[q]?=w.heap[q]?):eE w' d V:=by
 refine⟨Sl.notSl h.tok (fun u hu=> ?_) hg hk,SlF.notSl h.mrg (fun u hu=> ?_) hg hk,SlF.notSl h.spc (fun u hu=> ?_) hg hk⟩
 ·obtain⟨x,_,rfl⟩:=List.mem_map.1 hu;intro a n c e;cases e
 ·obtain⟨x,_,hx⟩:=List.mem_flatMap.1 hu;simp[Mg.enc]at hx;rcases hx with rfl | rfl | rfl | rfl<;>(intro a n c e;cases e)
 ·obtain⟨x,_,hx⟩:=List.mem_flatMap.1 hu;simp[Sp.enc]at hx;rcases hx with rfl | rfl<;>(intro a n c e;cases e)
theorem wR {M N:List ByteArray} {mo no:Option Addr} {mn mc nn nc:Nat} (w:World) (hM:SlS w mo mn mc M) (hN:SlS w no nn nc N) (hMs:∀s∈M,s.size<=maxLen) (hNs:∀s∈N,s.size<=maxLen) (hmn:mn<=1000) (hnn:nn<=20):
  Calls Tryz.prog 33 #[.slice mo mn mc, .slice no nn nc] w (kT (oJ M) (nJ M N) w):=by
 obtain⟨i0,z0,hi,hz0,hz1,hz2,hz3⟩:=uB infoRwL;obtain⟨j0,y0,hj,hy0,hy1,hy2,hy3⟩:=uB infoSpL;obtain⟨wa,hwa⟩:∃wa,w.alloc (.cells #[.slice none 0 0, .slice none 0 0, .slice none 0 0] 26)=wa:=⟨_,rfl⟩;obtain⟨w0,hw0⟩:∃w0,wa.alloc (.cells #[] 131)=w0:=⟨_,rfl⟩;have hba:Below w.heap.size w wa:=hwa▸aA w _;have hsa:wa.heap.size=w.heap.size+1:=by rw[<-hwa];simp
 have HXA:Hid (wa.heap[w.heap.size]?=some (.cells #[.slice none 0 0, .slice none 0 0, .slice none 0 0] 26)):=hW_ (by rw[<-hwa];exact heap_alloc_new w _);have HO0:Hid (dA Rw.enc 2 131 w0 wa.heap.size (.slice (some ⟨w.heap.size+1,0,none⟩) 0 0) []):=hW_ (by rw[<-hw0,<-hsa];exact dA.made0 wa);have HBA:Hid (Below w.heap.size w wa):=hW_ hba;have HBA0:Hid (Below wa.heap.size wa w0):=hW_ (by rw[<-hw0];exact aA wa _);have HSZ1:Hid (w.heap.size<wa.heap.size):=hW_ (by omega);have HMR:=hW_ (Sl.below hM hba);have HNR:=hW_ (Sl.below hN hba);have HML:Hid (M.length=mn):=hW_ hM.count;have HNL:Hid (N.length=nn):=hW_ hN.count;have HMS:=hW_ hMs;have HNS:=hW_ hNs;have HW0:=hW_ hw0;have HWA:=hW_ hwa;clear hba hw0 hwa hsa hM hN hMs hNs;go_enter Tryz.func33,Tryz.ntmps33;go_wp2_with (fail);rw[HWA.out,HW0.out];go_loopw [6,7] (fun v i wr=>∃k:Nat,k<=256/\i= .int .i64 k/\dA Rw.enc 2 131 wr wa.heap.size v (F5 k)/\Below wa.heap.size wa wr) (fun _ i _=>256-(intOf i).toNat)
 case atStart=>exact⟨0,by omega,rfl,HO0.out,HBA0.out⟩
 case round=>
  obtain⟨k,hk,rfl,ho,hb⟩:=hrel
  by_cases hlt:k<256
  ·have hw8:IntKind.u8.wrap (k:Int)=(k:Int):=by rw[IntKind.wrap_u8];omega
   have hcv:=uJ wr k;have hln:=zS k;obtain⟨Ls,hLs⟩:∃Ls,F5 k=Ls:=⟨_,rfl⟩;rw[hLs]at ho hln;have HLS:=hW_ hLs;obtain⟨vo,vc,rfl,_⟩:=ho.sl;have HLN:=hW_ hln;rw[hln]at ho |-;have HBS:=hW_ hb.size;have HO3:Hid (dA Rw.enc 2 131 ((wr.alloc (.cells #[.int .u8 (k:Int)] 5)).alloc (.cells #[.string (one k), .int .i64 (k:Int)] 131)) wa.heap.size (.slice vo k vc) Ls):=hW_ ((ho.alloc _).alloc _);have HS3:Hid (SlF 2 ((wr.alloc (.cells #[.int .u8 (k:Int)] 5)).alloc (.cells #[.string (one k), .int .i64 (k:Int)] 131)) (some ⟨wr.heap.size+1,0,none⟩) 1 1 (flat Rw.enc [⟨one k,k⟩])):=hW_ (by
    have:=SlF.one Rw.enc_len (wr.alloc (.cells #[.int .u8 (k:Int)] 5)) ⟨one k,k⟩ 131 (cs:=#[.string (one k), .int .i64 (k:Int)]) rfl;simpa using this)
   have HB:=hW_ hb;clear ho hb hln hLs;go_wp2_with (at_builtin;go_loud (refine gA rfl _ _ 128 rfl i0 z0 24 Tryz.underlying128 hi hz0 hz1 hz2 hz3 Rw.enc_len (by omega) Rw.enc_oneL rfl HO3.out rfl HS3.out (by have:=HLN.out;unfold maxLen;omega) (by have:=HLN.out;omega) (by have:=HBS.out;simp;omega) ?_));intro v' w' ho' hg' hb';have HO':=hW_ ho';have HB':=hW_ (((HB.out.alloc HB.out.size _).alloc (by have:=HBS.out;simp;omega) _).trans hb');clear ho' hg' hb';go_wp2_with (fail);go_roundw
   case rel=>exact⟨k+1,by omega,by go_num,by rw[yP,HLS.out];exact HO'.out,HB'.out⟩
   case measure=>simp[intOf];omega
  ·have HK:Hid (k=256):=hW_ (by omega);have hln:=zS k;obtain⟨Ls,hLs⟩:∃Ls,F5 k=Ls:=⟨_,rfl⟩;rw[hLs]at ho hln;have HLS:Hid (F5 256=Ls):=hW_ (by rw[<-hLs,HK.out]);have HLN:Hid (Ls.length=256):=hW_ (by rw[hln,HK.out]);have HO:=hW_ ho;have HB:=hW_ hb;clear hLs hln ho hb;go_wp2_with (fail);go_loopw [6,27] (fun v i wr=>∃k:Nat,k<=mn/\i= .int .i64 k/\dA Rw.enc 2 131 wr wa.heap.size v (Ls++jJ M k)/\Below wa.heap.size wa wr) (fun _ i _=>mn-(intOf i).toNat)
   case atStart=>exact⟨0,Nat.zero_le _,rfl,by simpa[jJ]using HO.out,HB.out⟩
   case round=>
    obtain⟨k',hk,rfl,ho,hb⟩:=hrel;obtain⟨X,hX⟩:∃X,Ls++jJ M k'=X:=⟨_,rfl⟩;have hxl:X.length=256+k':=by rw[<-hX,List.length_append,HLN.out,aBD]
    rw[hX]at ho;have HX:=hW_ hX;have HXL:=hW_ hxl;have HO:=hW_ ho;have HB:=hW_ hb;clear hX hxl ho hb
    by_cases hlt:k'<mn
    ·have hkM:k'<M.length:=by have:=HML.out;omega
     obtain⟨b,of,hao,hce⟩:=(HMR.out.below HB.out).at_ k' _ (by rw[List.getElem?_map,zA hkM];rfl);subst hao;obtain⟨s,hs⟩:∃s,tk M k'=s:=⟨_,rfl⟩;rw[hs]at hce;have HN:Hid (X++ [⟨s,256+(k':Int)⟩]=Ls++jJ M (k'+1)):=hW_ (by rw[lZ,<-List.append_assoc,HX.out,hs]);have hwr:IntKind.i64.wrap (256+(k':Int))=256+(k':Int):=by rw[IntKind.wrap_i64];omega
     have HBS:=hW_ HB.out.size;have HO3:Hid (dA Rw.enc 2 131 (wr.alloc (.cells #[.string s, .int .i64 (256+(k':Int))] 131)) wa.heap.size u6 X):=hW_ (HO.out.alloc _);have HS3:Hid (SlF 2 (wr.alloc (.cells #[.string s, .int .i64 (256+(k':Int))] 131)) (some ⟨wr.heap.size,0,none⟩) 1 1 (flat Rw.enc [⟨s,256+(k':Int)⟩])):=hW_ (SlF.one Rw.enc_len wr ⟨s,256+(k':Int)⟩ 131 (cs:=#[.string s, .int .i64 (256+(k':Int))]) rfl);clear hs hkM;go_wp2_with (at_builtin;go_loud (refine gA rfl _ _ 128 rfl i0 z0 24 Tryz.underlying128 hi hz0 hz1 hz2 hz3 Rw.enc_len (by omega) Rw.enc_oneL rfl HO3.out rfl HS3.out (by have:=HXL.out;unfold maxLen;omega) (by have:=HXL.out;omega) (by have:=HBS.out;simp;omega) ?_));intro v' w' ho' hg' hb';rw[HN.out]at ho';have HO':=hW_ ho';have HB':=hW_ ((HB.out.alloc HB.out.size _).trans hb');clear ho' hg' hb';go_wp2_with (fail);go_roundw
     case rel=>exact⟨k'+1,by omega,by go_num,HO'.out,HB'.out⟩
     case measure=>simp[intOf];omega
    ·obtain rfl:k'=mn:=by omega
     have HRF:Hid (X=oJ M):=hW_ (by rw[<-HX.out,<-HLS.out,<-HML.out];rfl);rw[HRF.out]at HO;obtain⟨ro,rc,rfl,hrs⟩:=HO.out.sl;obtain⟨rn,hrn⟩:∃rn,(oJ M).length=rn:=⟨_,rfl⟩;rw[hrn]at hrs |-;obtain⟨ws,hws⟩:∃ws,wr=ws:=⟨_,rfl⟩;rw[hws]at HO HB hrs |-;have HRS:=hW_ hrs;clear hws;obtain⟨wb,hwb⟩:∃wb,ws.alloc (.cells #[] 126)=wb:=⟨_,rfl⟩;have HWB:=hW_ hwb;have HBR:Hid (Below ws.heap.size ws wb):=hW_ (by rw[<-hwb];exact aA ws _);have HOS:Hid (dA Sp.enc 2 126 wb ws.heap.size (.slice (some ⟨ws.heap.size,0,none⟩) 0 0) []):=hW_ (by rw[<-hwb];exact dA.made0 ws);clear hrn hwb hrs;go_wp2_with (fail);rw[HWB.out];go_loopw [9,44] (fun v i wr2=>∃k2:Nat,k2<=nn/\i= .int .i64 k2/\dA Sp.enc 2 126 wr2 ws.heap.size v (gH M N k2)/\Below ws.heap.size ws wr2) (fun _ i _=>nn-(intOf i).toNat)
     case atStart=>exact⟨0,Nat.zero_le _,rfl,HOS.out,HBR.out⟩
     case round=>
      obtain⟨q,hq,rfl,ho,hb⟩:=hrel;obtain⟨Y,hY⟩:∃Y,gH M N q=Y:=⟨_,rfl⟩;have hyl:Y.length=q:=by rw[<-hY,hZ]
      rw[hY]at ho;have HY:=hW_ hY;have HYL:=hW_ hyl;have HO2:=hW_ ho;have HB2:=hW_ hb;have HBW:Hid (Below wa.heap.size wa wr):=hW_ (HB.out.trans (hb.mono HB.out.size));clear hY hyl ho hb
      by_cases hlt:q<nn
      ·have hqN:q<N.length:=by have:=HNL.out;omega
       obtain⟨b,of,hao,hce⟩:=(HNR.out.below HBW.out).at_ q _ (by rw[List.getElem?_map,zA hqN];rfl);subst hao;obtain⟨s,hs⟩:∃s,tk N q=s:=⟨_,rfl⟩;rw[hs]at hce;obtain⟨r,hr⟩:∃r:Nat,256+k'+q=r:=⟨_,rfl⟩;have HN:Hid (Y++ [⟨s,(r:Int)⟩]=gH M N (q+1)):=hW_ (by rw[kW,HY.out,hs,HML.out,<-hr];simp);have hwr:IntKind.i64.wrap (256+(k':Int))=256+(k':Int):=by rw[IntKind.wrap_i64];omega
       have hwr2:IntKind.i64.wrap (256+(k':Int)+(q:Int))=(r:Int):=by rw[IntKind.wrap_i64];omega
       have HBS:=hW_ HB2.out.size;have HO3:Hid (dA Sp.enc 2 126 (wr.alloc (.cells #[.string s, .int .i64 (r:Int)] 126)) ws.heap.size u9 Y):=hW_ (HO2.out.alloc _);have HS3:Hid (SlF 2 (wr.alloc (.cells #[.string s, .int .i64 (r:Int)] 126)) (some ⟨wr.heap.size,0,none⟩) 1 1 (flat Sp.enc [⟨s,(r:Int)⟩])):=hW_ (SlF.one Sp.enc_len wr ⟨s,(r:Int)⟩ 126 (cs:=#[.string s, .int .i64 (r:Int)]) rfl);clear hs hqN hr;go_wp2_with (at_builtin;go_loud (refine gA rfl _ _ 24 rfl j0 y0 24 Tryz.underlying24 hj hy0 hy1 hy2 hy3 Sp.enc_len (by omega) Sp.enc_oneL rfl HO3.out rfl HS3.out (by have:=HYL.out;unfold maxLen;omega) (by have:=HYL.out;omega) (by have:=HBS.out;simp;omega) ?_));intro v' w' ho' hg' hb';rw[HN.out]at ho';have HO':=hW_ ho';have HB':=hW_ ((HB2.out.alloc HB2.out.size _).trans hb');clear ho' hg' hb';go_wp2_with (fail);go_roundw
       case rel=>exact⟨q+1,by omega,by go_num,HO'.out,HB'.out⟩
       case measure=>simp[intOf];omega
      ·obtain rfl:q=nn:=by omega
       have HSF:Hid (Y=nJ M N):=hW_ (by rw[<-HY.out,<-HNL.out];rfl);rw[HSF.out]at HO2;have HSL:Hid ((nJ M N).length=q):=hW_ (by rw[<-HSF.out];exact HYL.out);obtain⟨so,sc,rfl,hss⟩:=HO2.out.sl;rw[HSL.out]at hss |-;have hfr:=O1 wr (HRS.out.below HB2.out) hss (fun r hr=>by
        rcases List.mem_append.1 hr with h | h
        ·obtain⟨b,_,rfl⟩:=E1 h;show 1<=maxLen;unfold maxLen;omega
        ·unfold jJ at h;obtain⟨i,hi,rfl⟩:=List.mem_map.1 h;exact HMS.out _ (A4 (List.mem_range.1 hi))) (fun s hs=>by
        unfold nJ gH at hs;obtain⟨i,hi,rfl⟩:=List.mem_map.1 hs;exact HNS.out _ (A4 (List.mem_range.1 hi))) hnn
       have HX4:=hW_ ((HBW.out.block w.heap.size HSZ1.out).trans HXA.out);clear hss;go_wp2_with (fail);refine hfr.mono ?_
       rintro e w9 ⟨hpost,hb9⟩;have hx9:=(hb9.block w.heap.size (Array.getElem?_eq_some_iff.1 HX4.out).1).trans HX4.out;have HB9:Hid (Below w.heap.size w w9):=hW_ (HBA.out.trans ((HBW.out.trans (hb9.mono HBW.out.size)).mono HBA.out.size));obtain⟨c0,c1,c2⟩:=uA hx9;have cf:∀o,w9.frozen? ⟨w.heap.size,o,none⟩=false:=by intro o;simp[World.frozen?,hx9]
       have HX9:=hW_ hx9;clear hb9 hx9 hfr;rcases hpost with⟨hg,⟨ta,tn,tc,ma,mn2,mc2,sa,sn,sc2⟩,rfl,hv⟩ | ⟨hg,rfl⟩
       ·have HV:=hW_ hv;have HG:=hW_ hg;clear hv hg;go_wp2_with (fail);refine bodyPost_ret (v:= .tuple #[Vd.val ⟨ta,tn,tc,ma,mn2,mc2,sa,sn,sc2⟩, .bool true]) ?_ rfl ⟨.inl ⟨HG.out,⟨ta,tn,tc,ma,mn2,mc2,sa,sn,sc2⟩,rfl,?_⟩,?_⟩
        ·simp[results,Tryz.results33,go_sem,Vd.val,c0,c1,c2]
        ·exact HV.out.notSl HX9.out (fun q hq=>(Below.heap_setCell _ _ _ _ hq).trans ((Below.heap_setCell _ _ _ _ hq).trans (Below.heap_setCell _ _ _ _ hq)))
        ·exact((HB9.out.setCell (p:=⟨w.heap.size,0,none⟩) (Nat.le_refl _) _).setCell (p:=⟨w.heap.size,1,none⟩) (Nat.le_refl _) _).setCell (p:=⟨w.heap.size,2,none⟩) (Nat.le_refl _) _
       ·have HG:=hW_ hg;clear hg;unfold lG Vd.val;go_wp2_with (fail);refine bodyPost_ret (v:= .tuple #[lG.val, .bool false]) ?_ rfl ⟨.inr ⟨HG.out,rfl⟩,?_⟩
        ·simp[results,Tryz.results33,go_sem,lG,Vd.val,c0,c1,c2]
        ·exact((HB9.out.setCell (p:=⟨w.heap.size,0,none⟩) (Nat.le_refl _) _).setCell (p:=⟨w.heap.size,1,none⟩) (Nat.le_refl _) _).setCell (p:=⟨w.heap.size,2,none⟩) (Nat.le_refl _) _
end Go.Proofs.YtjlokfejnijokaaGreatDoor
