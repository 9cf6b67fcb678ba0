/- Walk: Get. -/
import Derived.Test.YtahiballegpbgaaGreatDoorR19
import Derived.Deep.RegionHeld3
import Derived.Deep.CutRange
import Derived.WalkArith
import Derived.Deep.DeepCutAuto
import Derived.Deep.AppendLies
set_option linter.unusedVariables false
set_option maxHeartbeats 4000000
set_option maxRecDepth 100000
namespace Go.Proofs.YtahiballegpbgaaGreatDoor
open Go.RowKit
theorem I5 {x:Int} (h0:0<=x) (h1:x<4611686018427387904):IntKind.i64.wrap (x+1)=x+1:=by
 rw[IntKind.wrap_i64];omega
section
variable {w:World} {base top cb mb m cap sz:Nat} {no:Option Addr} {N:Nat->Nd} {e y room hits misses:Int} {ord:List Nat} {f:ByteArray->Option Int} {R:Nat->List Int}
theorem CSt.cbLt (h:CSt w base top cb mb no m cap N e y room hits misses ord sz f R) (htop:top<=w.heap.size):cb<w.heap.size/\mb<w.heap.size:=⟨by have:=h.bc;omega,by have:=h.bm;omega⟩
theorem CSt.refield {w':World} {hits' misses':Int} (h:CSt w base top cb mb no m cap N e y room hits misses ord sz f R) (htop:top<=w.heap.size) (hf:lH w' cb (.slice no m cap) mb e y room hits' misses') (hk:∀k,k<w.heap.size->k≠cb->w'.heap[k]?=w.heap[k]?):
  CSt w' base top cb mb no m cap N e y room hits' misses' ord sz f R:=by
 refine⟨hf,?_,h.mp.stay (hk mb (h.cbLt htop).2 (fun e=>h.cm e.symm)),h.ch,h.lt,h.cm,h.bc,h.bm,fun i hi=> ?_,h.keys⟩
 ·rcases h.nd with h' | ⟨nb,h1,h2,h3,h4,h5,h6⟩
  ·exact .inl h'
  ·exact .inr ⟨nb,h1,h2.stay (hk nb (by omega) (fun e=>h3 e.symm)),h3,h4,h5,h6⟩
 ·obtain⟨h1,h2⟩:=h.rows i hi;exact⟨h1.keep fun ad e=>hk _ (by have:=(h2 ad e).2.1;omega) fun e'=>(h2 ad e).2.2 (.inl e'),h2⟩
theorem get_miss (h:CSt w base top cb mb no m cap N e y room hits misses ord sz f R) (htop:top<=w.heap.size) (key:ByteArray) (hkl:key.size<=maxLen) (hf:f key=none) (hm0:0<=misses) (hm1:misses<4611686018427387904):
  Calls Tryz.prog 185 #[.pointer (some ⟨cb,0,none⟩), .string key] w fun en w'=>en= .returned (.tuple #[.slice none 0 0, .bool false])/\
   CSt w' base top cb mb no m cap N e y room hits (misses+1) ord sz f R/\dA (Ft cb mb no) w w':=by
 obtain⟨f0,f1,f2,f3,f4,f5,f6,ff⟩:=id h.fl;have hmp:=h.mp;have H:=hW_ h;have hadd:IntKind.i64.wrap (misses+1)=misses+1:=I5 hm0 hm1;clear h;go_enter Tryz.func185,Tryz.ntmps185;go_wp2_with (with_reducible show wpList _ _ _ (⟨_, .lookup _ _ _ _,_,_,_,_⟩::_) _ _;refine E1 rfl _ _ rfl rfl hmp rfl hkl ?_;rw[hf]);go_ret2;have H2:=H.out.fl.set6 (misses+1);exact⟨rfl,H.out.refield htop H2 (fun k h1 h2=>cA h2),(dA.refl _ w).set (p:=⟨cb,6,none⟩) (.inl rfl) _⟩
theorem get_hit {pre post:List Nat} {i:Nat} (h:CSt w base top cb mb no m cap N e y room hits misses (pre++i::post) sz f R) (htop:top<=w.heap.size) (key:ByteArray) (hkl:key.size<=maxLen) (hf:f key=some (i:Int)) (hm0:0<=hits) (hm1:hits<4611686018427387904)
  (hlim:(R i).length<=1048576):
  Calls Tryz.prog 185 #[.pointer (some ⟨cb,0,none⟩), .string key] w fun en w'=>∃vo vn vc N' e' y',en= .returned (.tuple #[.slice vo vn vc, .bool true])/\Own w' w.heap.size (.slice vo vn vc) (R i)/\
   CSt w' base top cb mb no m cap N' e' y' room (hits+1) misses (pre++post++ [i]) sz f R/\(∀j,(N' j).held=(N j).held)/\dA (Ft cb mb no) w w':=by
 have him:i<m:=h.lt i (by simp);obtain⟨nb,rfl,hc,hmn,hbn,hbn2⟩:=h.cmem (by omega);obtain⟨hel,hyo⟩:=h.ch.at_ pre i post rfl;have hpost:∀k∈pre++post,k<m:=fun k hk=>h.lt k (by simp at hk |-;rcases hk with h | h<;>simp[h])
 have pel:Pl m (N i).el:=by rw[hel];exact bL fun k hk=>hpost k (by simp[hk])
 have pyo:Pl m (N i).yo:=by rw[hyo];exact aBp fun k hk=>hpost k (by simp[hk])
 have hni:i∉pre++post:=by
  have:=h.ch.nd;have h2:(i::(pre++post)).Nodup:=(List.perm_middle.nodup_iff).1 this;exact(List.nodup_cons.1 h2).1
 obtain⟨f0,f1,f2,f3,f4,f5,f6,ff⟩:=id h.fl;have hmp:=h.mp;have HC:=hW_ (h.refield htop (h.fl.set5 (hits+1)) fun k h1 h2=>cA h2);have hadd:IntKind.i64.wrap (hits+1)=hits+1:=I5 hm0 hm1;have hwl:w.heap.size=(w.setCell ⟨cb,5,none⟩ (.int .i64 (hits+1))).heap.size:=by simp
 clear h hc;go_enter Tryz.func185,Tryz.ntmps185;go_wp2_with (with_reducible show wpList _ _ _ (⟨_, .lookup _ _ _ _,_,_,_,_⟩::_) _ _;refine E1 rfl _ _ rfl rfl hmp rfl hkl ?_;rw[hf]);obtain⟨nb',e1,hc,_⟩:=HC.out.cmem (by omega);simp at e1;subst e1;refine(I9 _ hc i him pel pyo).mono ?_
 rintro en w1 ⟨rfl,hc1,hk1⟩;have h1:=HC.out.relink (by rw[<-hwl];exact htop) hmn ⟨hbn,hbn2⟩ hc1 hk1 (jF N i) HC.out.ch.unlink hpost;have ht1:w.heap.size<=w1.heap.size:=by rw[hwl];exact hk1.size
 have hk1':=hW_ hk1;clear hk1 hc f0 f1 f2 f3 f4 f5 f6 ff hmp;have hN1:=jF N i;have hy1:=h1.ch.y_;have py:Pl m (if(N i).yo= -1 then(N i).el else y):=by rw[hy1];exact bL hpost
 have hyi:(if(N i).yo= -1 then(N i).el else y)≠(i:Int):=by
  rw[hy1];rcases kB (pre++post)with e | ⟨l',x,e⟩
  ·rw[e,aE];omega
  ·rw[e,rB];intro e2;exact hni (by rw[e];simp;omega)
 generalize gM N i=N1 at hc1 h1 hN1;generalize (if(N i).el= -1 then(N i).yo else e)=e1 at hc1 h1;generalize (if(N i).yo= -1 then(N i).el else y)=y1 at hc1 h1 hy1 py hyi;go_wp2_with (fail);refine(iJ _ hc1 i him py hyi).mono ?_
 rintro en w2 ⟨rfl,hc2,hk2⟩;have h2:=h1.relink (by omega) hmn ⟨hbn,hbn2⟩ hc2 hk2 (sE N1 i y1) (h1.ch.link hni) (fun k hk=>by simp at hk;rcases hk with h | h | h;exact hpost k (by simp[h]);exact hpost k (by simp[h]);omega);have ht2:w1.heap.size<=w2.heap.size:=hk2.size;have hN2:∀j,(oK N1 i y1 j).held=(N j).held:=fun j=>(sE N1 i y1 j).trans (hN1 j)
 have hk2':=hW_ hk2;clear hk2 hc1 h1 hy1 py hyi;generalize oK N1 i y1=N2 at hc2 h2 hN2;generalize (if y1= -1 then(i:Int)else e1)=e2 at hc2 h2;obtain⟨c0,c1,c2,c3⟩:=hc2.cells him;obtain⟨f0,f1,f2,f3,f4,f5,f6,ff⟩:=id hc2.f;have hle:=hc2.n.le;have hmax:=hc2.n.max;unfold maxLen at hmax;have him2:(i:Int)<(m:Int):=by omega
 obtain⟨hrow,hrow2⟩:=h2.rows i him;have hlen:=hW_ hrow.len;have hc2':=hW_ hc2;have h2':=hW_ h2;clear hc2 h2;go_wp2_with (fail);refine(uE _ hrow (by have:=hlen.out;omega)).mono ?_
 rintro en w3 ⟨vo,vc,rfl,hown,hb3⟩;clear c0 c1 c2 c3 f0 f1 f2 f3 f4 f5 f6 ff;go_wp2;go_ret2;have hww:w.heap.size<=w2.heap.size:=by omega
 have htt:top<=w2.heap.size:=by omega
 refine⟨vo,_,vc,N2,e2,i,rfl,hown.mono hww,h2'.out.below ⟨hb3.os,hb3.tape,hb3.output,hb3.size,fun k hk=>hb3.block k (by omega)⟩,hN2,?_⟩;have K1:dA (Ft cb mb (some ⟨nb,0,none⟩)) w w1:=((dA.refl _ w).set (p:=⟨cb,5,none⟩) (.inl rfl) _).then hk1'.out fun k _ hk=>by
  rcases hk with h | h
  ·exact .inl h
  ·exact .inr (.inr (by rw[h]))
 have K2:dA (Ft cb mb (some ⟨nb,0,none⟩)) w w2:=K1.then hk2'.out fun k _ hk=>by
  rcases hk with h | h
  ·exact .inl h
  ·exact .inr (.inr (by rw[h]))
 exact K2.trans (dA.of_below hb3)
end
theorem SlI.keep0 {w w':World} {ao:Option Addr} {n cap:Nat} {A:List Int} (h:SlI w ao n cap A) (hb:∀ad,ao=some ad->0<n->w'.heap[ad.block]?=w.heap[ad.block]?):SlI w' ao n cap A:=
 ⟨Sl.len h,Sl.le h,Sl.max h,Sl.nil h,fun i u hu=>let ⟨b,o,e,c⟩:=Sl.at_ h i u hu;⟨b,o,e,by
  have hl:=Sl.len h;have:=(List.getElem?_eq_some_iff.1 hu).1;rw[World.cell?_of_block (w:=w) (a:=⟨b,o+i, .none⟩) (hb ⟨b,o, .none⟩ e (by omega))];exact c⟩⟩
theorem Own.stay {w w':World} {base:Nat} {v:Value} {A:List Int} (h:Own w base v A) (hb:∀k,base<=k->k<w.heap.size->w'.heap[k]?=w.heap[k]?):Own w' base v A:=by
 obtain⟨h1,h2⟩:=h;rcases h2 with h2 | ⟨g,cap,cur,e,hg,hh,r⟩
 ·exact⟨h1, .inl h2⟩
 ·have hlt:g<w.heap.size:=by
   rcases Nat.lt_or_ge g w.heap.size with h' | h'
   ·exact h'
   ·rw[Array.getElem?_eq_none h']at hh;cases hh
  exact⟨h1, .inr ⟨g,cap,cur,e,hg,(hb g hg hlt).trans hh,r⟩⟩
theorem Own.set {w:World} {base:Nat} {v:Value} {A:List Int} (h:Own w base v A) {b o:Nat} (hb:b<base) (x:Value):Own (w.setCell ⟨b,o,none⟩ x) base v A:=
 h.stay fun k h1 h2=>cA (by omega)
theorem Own.rowOK {w:World} {base top cb mb:Nat} {no:Option Addr} {vo:Option Addr} {n vc:Nat} {A:List Int} (h:Own w top (.slice vo n vc) A) (hb:base<=top) (hf:∀k,Ft cb mb no k->k<top):
  SlI w vo n vc A/\∀ad,vo=some ad->base<=ad.block/\ad.block<w.heap.size/\¬Ft cb mb no ad.block:=by
 obtain⟨vo',vc',e,hs⟩:=h.sl;simp at e;obtain⟨rfl,rfl,rfl⟩:=e;refine⟨hs,fun ad e=> ?_⟩;subst e;obtain⟨_,h2⟩:=h.block;rcases h2 with⟨h3,_⟩ | ⟨g,cur,h3,h4,h5,_⟩
 ·cases h3
 ·simp at h3;subst h3;have hlt:g<w.heap.size:=by
   rcases Nat.lt_or_ge g w.heap.size with h' | h'
   ·exact h'
   ·rw[Array.getElem?_eq_none h']at h5;cases h5
  exact⟨by show base<=g;omega,hlt,fun h=>by have h7:=hf _ h;have h8:g<top:=h7;omega⟩
section
variable {w:World} {base top cb nb mb m cap sz:Nat} {N:Nat->Nd} {e y room hits misses:Int} {ord:List Nat} {f:ByteArray->Option Int} {R:Nat->List Int}
theorem CSt.cmem' (h:CSt w base top cb mb (some ⟨nb,0,none⟩) m cap N e y room hits misses ord sz f R) (hm:0<m):fC w cb nb mb m cap N e y room hits misses/\mb≠nb/\base<=nb/\nb<top:=by
 obtain⟨nb',e,h⟩:=h.cmem hm;simp at e;subst e;exact h
theorem fC.setKey (h:fC w cb nb mb m cap N e y room hits misses) {k:Nat} (hk:k<m) (s:ByteArray):fC (w.setCell ⟨nb,k*4,none⟩ (.string s)) cb nb mb m cap (upd N k {N k with key:=s}) e y room hits misses:=
 ⟨h.f.stay (cA h.ne),h.n.store hk (j:=0) (by omega) _ _ rfl,h.ne⟩
theorem fC.setRow (h:fC w cb nb mb m cap N e y room hits misses) {k:Nat} (hk:k<m) (vo:Option Addr) (n vc:Nat):fC (w.setCell ⟨nb,k*4+1,none⟩ (.slice vo n vc)) cb nb mb m cap (upd N k {N k with ro:=vo,rn:=n,rc:=vc}) e y room hits misses:=
 ⟨h.f.stay (cA h.ne),h.n.store hk (j:=1) (by omega) _ _ rfl,h.ne⟩
theorem fC.below {w':World} (h:fC w cb nb mb m cap N e y room hits misses) (hb:Below w.heap.size w w'):fC w' cb nb mb m cap N e y room hits misses:=
 h.stay (hb.block _ h.lt) (hb.block _ h.n.lt)
def Mid (w1:World) (cb nb mb m cap:Nat) (N:Nat->Nd) (i:Nat) (key:ByteArray) (n:Nat) (A:List Int) (e y room hits misses:Int) (w2:World):Prop:=
 ∃vo vc N2,fC w2 cb nb mb m cap N2 e y room hits misses/\N2 i= {N i with key:=key,ro:=vo,rn:=n,rc:=vc}/\(∀j,j≠i->N2 j=N j)/\Own w2 w1.heap.size (.slice vo n vc) A/\dA (fun k=>k=nb) w1 w2
theorem mid_a {w1 w3:World} {i:Nat} {key:ByteArray} {n vc:Nat} {vo:Option Addr} {A:List Int} (hi:i<m) (h:fC w3 cb nb mb m cap N e y room hits misses) (hb:Below w1.drew.heap.size w1.drew w3) (hnb:nb<w1.heap.size) (ho:Own w3 w1.drew.heap.size (.slice vo n vc) A):
  Mid w1 cb nb mb m cap N i key n A e y room hits misses ((w3.setCell ⟨nb,i*4,none⟩ (.string key)).setCell ⟨nb,i*4+1,none⟩ (.slice vo n vc)):=by
 refine⟨vo,vc,_,(h.setKey hi key).setRow hi vo n vc,by simp[upd],fun j hj=>by simp[upd,hj],(Own.set (Own.set ho hnb _) hnb _),?_⟩;exact(((dA.refl (fun k=>k=nb) w1).drew.trans (dA.of_below hb)).set (p:=⟨nb,i*4,none⟩) rfl _).set (p:=⟨nb,i*4+1,none⟩) rfl _
theorem CSt.reput {w':World} {i:Nat} {N2:Nat->Nd} {vo:Option Addr} {n vc sz':Nat} {A:List Int} {f':ByteArray->Option Int} {key:ByteArray} (h:CSt w base top cb mb (some ⟨nb,0,none⟩) m cap N e y room hits misses ord sz f R) (hi:i<m) (hni:i∉ord)
  (htop:top<=w.heap.size) (htop2:w.heap.size<=w'.heap.size) (hc:fC w' cb nb mb m cap N2 e y room hits misses) (hN2:N2 i= {N i with key:=key,ro:=vo,rn:=n,rc:=vc}) (hN2':∀j,j≠i->N2 j=N j) (hmp:dF w' mb sz' f')
  (hblk:∀k,k<top->k≠nb->k≠mb->w'.heap[k]?=w.heap[k]?) (hown:Own w' w.heap.size (.slice vo n vc) A) (hmn:mb≠nb) (hbn:base<=nb/\nb<top) (hkl:key.size<=maxLen):
  CSt w' base w'.heap.size cb mb (some ⟨nb,0,none⟩) m cap N2 e y room hits misses ord sz' f' (upd R i A):=by
 have hbc:=h.bc;have hbm:=h.bm;refine⟨hc.f, .inr ⟨nb,rfl,hc.n,hc.ne,hmn,hbn.1,by omega⟩,hmp,h.ch.congr fun j hj=> ?_,h.lt,h.cm,⟨hbc.1,by omega⟩,⟨hbm.1,by omega⟩,fun j hj=> ?_,fun j hj=> ?_⟩
 ·rw[hN2' j (fun e=>hni (e▸hj))];exact⟨rfl,rfl⟩
 ·by_cases ej:j=i
  ·subst ej;rw[aD,RowOK,hN2];refine Own.rowOK hown (by omega) fun k hk=> ?_
   rcases hk with h1 | h1 | h1
   ·omega
   ·omega
   ·simp at h1;omega
  ·rw[B2 _ _ _ _ ej,hN2' j ej];obtain⟨h1,h2⟩:=h.rows j hj;refine⟨h1.keep fun ad e=>hblk _ (h2 ad e).2.1 (fun e'=>(h2 ad e).2.2 (.inr (.inr (by rw[e'])))) (fun e'=>(h2 ad e).2.2 (.inr (.inl e'))),fun ad e=> ?_⟩;obtain⟨a1,a2,a3⟩:=h2 ad e;exact⟨a1,by omega,a3⟩
 ·by_cases ej:j=i
  ·subst ej;rw[hN2];exact hkl
  ·rw[hN2' j ej];exact h.keys j hj
end
set_option linter.unusedSimpArgs false
def At (no:Option Addr) (g B:Nat):Prop:=no=some ⟨g,0,none⟩\/B<=g
section
variable {w:World} {base cb mb m cap sz:Nat} {no:Option Addr} {N:Nat->Nd} {e y room hits misses:Int} {ord:List Nat} {f:ByteArray->Option Int} {R:Nat->List Int}
end
theorem put_zero {w:World} {base top cb mb m cap sz:Nat} {no:Option Addr} {N:Nat->Nd} {e y hits misses:Int} {ord:List Nat} {f:ByteArray->Option Int} {R:Nat->List Int} (h:CSt w base top cb mb no m cap N e y 0 hits misses ord sz f R) (key:ByteArray) (ao:Option Addr) (n c:Nat):
  Calls Tryz.prog 186 #[.pointer (some ⟨cb,0,none⟩), .string key, .slice ao n c] w fun en w'=>en= .returned (.tuple #[])/\Below w.heap.size w w':=by
 have f4:=h.fl.f4;clear h;go_enter Tryz.func186,Tryz.ntmps186;go_wp2;refine bodyPost_ret (results_none rfl _ _ _) rfl ⟨rfl,Below.refl _ _⟩
abbrev Row:=ByteArray×List Int
structure aEr (ord:List Nat) (N:Nat->Nd) (R:Nat->List Int) (sz m:Nat) (f:ByteArray->Option Int):Prop where
 len:ord.length=sz
 m_:m=sz
 at_:∀s c,f s=some c↔∃i∈ord,c=(i:Int)/\(N i).key=s
 lim:∀i∈ord,(R i).length<=1048576
def mH (w:World) (base top cb mb:Nat) (no:Option Addr) (l:List Row) (room hits misses:Int):Prop:=
 ∃m cap N e y ord sz f R,CSt w base top cb mb no m cap N e y room hits misses ord sz f R/\aEr ord N R sz m f/\l=ord.map fun i=>((N i).key,R i)
def E0 (l:List Row) (k:ByteArray) (A:List Int):List Row:=l.filter (fun p=>p.1≠k)++ [(k,A)]
def fW (l:List Row) (room:Int) (k:ByteArray) (A:List Int):List Row:=if((E0 l k A).length:Int)>room then(E0 l k A).drop 1 else E0 l k A
theorem aEr.inj {ord:List Nat} {N:Nat->Nd} {R:Nat->List Int} {sz m:Nat} {f:ByteArray->Option Int} (h:aEr ord N R sz m f) {i j:Nat} (hi:i∈ord) (hj:j∈ord) (e:(N i).key=(N j).key):i=j:=by
 have h1:=(h.at_ (N i).key i).2 ⟨i,hi,rfl,rfl⟩;have h2:=(h.at_ (N i).key j).2 ⟨j,hj,rfl,e.symm⟩;rw[h1]at h2;simp at h2;omega
theorem aEr.miss {ord:List Nat} {N:Nat->Nd} {R:Nat->List Int} {sz m:Nat} {f:ByteArray->Option Int} (h:aEr ord N R sz m f) {k:ByteArray}:f k=none↔∀i∈ord,(N i).key≠k:=by
 constructor
 ·intro hf i hi e;have:=(h.at_ k i).2 ⟨i,hi,rfl,e⟩;rw[hf]at this;cases this
 ·intro hall
  cases hf:f k with
  | none=>rfl
  | some c=>
   obtain⟨i,hi,_,e⟩:=(h.at_ k c).1 hf;exact absurd e (hall i hi)
theorem tK {ord:List Nat} {N:Nat->Nd} {R:Nat->List Int} {k:ByteArray} (h:∀i∈ord,(N i).key≠k):(ord.map fun i=>((N i).key,R i)).filter (fun p=>p.1≠k)=ord.map fun i=>((N i).key,R i):=by
 rw[List.filter_eq_self];intro p hp;obtain⟨i,hi,rfl⟩:=List.mem_map.1 hp;simpa using h i hi
theorem iU {pre post:List Nat} {i:Nat} {N N':Nat->Nd} {R R':Nat->List Int} {k:ByteArray} {A:List Int} (hk:(N i).key=k) (hne:∀j∈pre++post,(N j).key≠k) (hN:∀j∈pre++post,(N' j).key=(N j).key/\R' j=R j) (hi:(N' i).key=k) (hA:R' i=A):
  E0 ((pre++i::post).map fun i=>((N i).key,R i)) k A=(pre++post++ [i]).map fun i=>((N' i).key,R' i):=by
 unfold E0;rw[List.map_append,List.map_cons,List.filter_append,List.filter_cons];rw[tK fun j hj=>hne j (by simp[hj]),tK fun j hj=>hne j (by simp[hj])];simp only[hk,ne_eq,not_true_eq_false,decide_false,Bool.false_eq_true,if_false];rw[List.map_append,List.map_append,List.map_cons,List.map_nil,hi,hA];congr 1;congr 1
 ·exact List.map_congr_left fun j hj=>by rw[(hN j (by simp[hj])).1,(hN j (by simp[hj])).2]
 ·exact List.map_congr_left fun j hj=>by rw[(hN j (by simp[hj])).1,(hN j (by simp[hj])).2]
theorem jU {ord:List Nat} {i:Nat} {N N':Nat->Nd} {R R':Nat->List Int} {k:ByteArray} {A:List Int} (hne:∀j∈ord,(N j).key≠k) (hN:∀j∈ord,(N' j).key=(N j).key/\R' j=R j) (hi:(N' i).key=k) (hA:R' i=A):
  E0 (ord.map fun i=>((N i).key,R i)) k A=(ord++ [i]).map fun i=>((N' i).key,R' i):=by
 unfold E0;rw[tK hne,List.map_append,List.map_cons,List.map_nil,hi,hA];congr 1;exact List.map_congr_left fun j hj=>by rw[(hN j hj).1,(hN j hj).2]
theorem gJ {pre post:List Nat} {i j:Nat}:j∈pre++i::post↔j=i\/j∈pre++post:=by
 simp only[List.mem_append,List.mem_cons];constructor
 ·rintro(h | h | h)
  ·exact .inr (.inl h)
  ·exact .inl h
  ·exact .inr (.inr h)
 ·rintro(h | h | h)
  ·exact .inr (.inl h)
  ·exact .inl h
  ·exact .inr (.inr h)
theorem vN {l:List Nat} {i j:Nat}:j∈l++ [i]↔j=i\/j∈l:=by
 simp only[List.mem_append,List.mem_singleton];exact Or.comm
theorem aBB {ordA:List Nat} {N N':Nat->Nd} {i:Nat} {key:ByteArray} {fA:ByteArray->Option Int} (h1:∀s c,s≠key->(fA s=some c↔∃j∈ordA,c=(j:Int)/\(N j).key=s)) (h2:∀j∈ordA,(N j).key≠key) (h3:i∉ordA)
  (hN:∀j,j≠i->(N' j).key=(N j).key) (hi:(N' i).key=key) (s:ByteArray) (c:Int):(if s=key then some (i:Int)else fA s)=some c↔∃j∈ordA++ [i],c=(j:Int)/\(N' j).key=s:=by
 have hne:∀j∈ordA,j≠i:=fun j hj e=>h3 (e▸hj)
 by_cases e:s=key
 ·subst e;rw[if_pos rfl];constructor
  ·intro h;simp at h;exact⟨i,by simp,h.symm,hi⟩
  ·rintro⟨j,hj,rfl,hk⟩;rcases List.mem_append.1 hj with h | h
   ·rw[hN j (hne j h)]at hk;exact absurd hk (h2 j h)
   ·simp at h;rw[h]
 ·rw[if_neg e,h1 s c e];constructor
  ·rintro⟨j,hj,rfl,hk⟩;exact⟨j,by simp[hj],rfl,by rw[hN j (hne j hj)];exact hk⟩
  ·rintro⟨j,hj,rfl,hk⟩;rcases List.mem_append.1 hj with h | h
   ·exact⟨j,h,rfl,by rw[<-hN j (hne j h)];exact hk⟩
   ·simp at h;subst h;rw[hi]at hk;exact absurd hk.symm e
section
variable {w:World} {base top cb mb:Nat} {no:Option Addr} {l:List Row} {room hits misses:Int}
theorem mH.below {w':World} (h:mH w base top cb mb no l room hits misses) (hb:Below top w w'):mH w' base top cb mb no l room hits misses:=
 let ⟨m,cap,N,e,y,ord,sz,f,R,hc,hg,hl⟩:=h
 ⟨m,cap,N,e,y,ord,sz,f,R,hc.below hb,hg,hl⟩
theorem mH.up {top':Nat} (h:mH w base top cb mb no l room hits misses) (ht:top<=top'):mH w base top' cb mb no l room hits misses:=
 let ⟨m,cap,N,e,y,ord,sz,f,R,hc,hg,hl⟩:=h
 ⟨m,cap,N,e,y,ord,sz,f,R,hc.up ht,hg,hl⟩
theorem crep_new (room:Int) (h0:0<=room) (h1:room<=1048576) (w:World):
  Calls Tryz.prog 69 #[.int .i64 room] w fun en w'=>∃cb mb,en= .returned (.pointer (some ⟨cb,0,none⟩))/\
   mH w' w.heap.size w'.heap.size cb mb none [] room 0 0/\Below w.heap.size w w':=by
 refine(new_yes room h0 h1 w (fun _=>[])).mono ?_
 rintro en w' ⟨cb,mb,rfl,hc,hb⟩;exact⟨cb,mb,rfl,⟨_,_,_,_,_,_,_,_,_,hc,⟨rfl,rfl,fun s c=>by simp,fun i hi=>by simp at hi⟩,rfl⟩,hb⟩
theorem aEf (h:mH w base top cb mb no l 0 hits misses) (key:ByteArray) (ao:Option Addr) (n c:Nat):
  Calls Tryz.prog 186 #[.pointer (some ⟨cb,0,none⟩), .string key, .slice ao n c] w fun en w'=>en= .returned (.tuple #[])/\Below w.heap.size w w':=
 let ⟨m,cap,N,e,y,ord,sz,f,R,hc,hg,hl⟩:=h
 put_zero hc key ao n c
end
end Go.Proofs.YtahiballegpbgaaGreatDoor
