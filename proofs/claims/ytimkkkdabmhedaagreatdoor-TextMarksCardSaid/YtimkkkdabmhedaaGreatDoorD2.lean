/- Walk: free. -/
import Derived.Test.YtimkkkdabmhedaaGreatDoorD1
import Derived.Deep.RegionHeld3
import Derived.Deep.CutRange
import Derived.WalkArith
import Derived.Deep.DeepCutAuto
import Derived.Deep.AppendLies
set_option linter.unusedVariables false
set_option maxHeartbeats 4000000
set_option maxRecDepth 100000
namespace Go.Proofs.YtimkkkdabmhedaaGreatDoor
open Go.RowKit
section
variable {w:World} {base top cb mb m cap sz:Nat} {no:Option Addr} {N:Nat→Nd} {e y room hits misses:Int} {ord:List Nat} {f:ByteArray→Option Int} {R:Nat→List Int}
theorem free_new (h:CSt w base w.heap.size cb mb no m cap N e y room hits misses ord sz f R) (hs:(sz:Int)<room) (hm:m<1048576):
  Calls Tryz.prog 149 #[.pointer (some ⟨cb,0,none⟩)] w fun en w'=>en= .returned (.int .i64 m)∧
   ∃g cap',CSt w' base w'.heap.size cb mb (some ⟨g,0,none⟩) (m+1) cap' (upd N m noNd) e y room hits misses ord sz f (upd R m [])∧Keeps (Ft cb mb no) w w'∧(no=some ⟨g,0,none⟩∨w.heap.size≤g):=by
 obtain⟨f0,f1,f2,f3,f4,f5,f6,ff⟩:=id h.fl
 have hrun:=fun ty=>(h.mp.stay (w':=w.drew) rfl).run_len ty
 have hb1:=(below_alloc w (.cells (ndCells noNd).toArray 208)).drew
 have hnd:=(h.below hb1).nd
 have hb:(w.alloc (.cells (ndCells noNd).toArray 208)).drew.heap[w.heap.size]?=some (.cells (ndCells noNd).toArray 208 (0,0)):=heap_alloc_new w _
 have hsz:(w.alloc (.cells (ndCells noNd).toArray 208)).drew.heap.size=w.heap.size+1:=by simp
 have hbase:=h.bc
 have hbase2:base≤(w.alloc (.cells (ndCells noNd).toArray 208)).drew.heap.size:=by rw[hsz];omega
 have hne:=h.nd.ne
 have H:=Lib.hid h
 clear h
 go_enter Tryz.func149,Tryz.ntmps149
 go_wp2
 go_region
 all_goals go_wp2_with (at_builtin;refine wpList_app_node rfl _ _ rfl rfl hnd rfl hb hm hbase2 (w.heap.size+1) hsz ?_)
 all_goals
  intro g cap' w' hn hbg hk hat hglt
  have hcg:cb≠g:=by rintro rfl;rcases hat with e | e;exact hne.1 e;omega
  have hf:=H.out.fl.stay ((hk.block cb (Nat.lt_of_lt_of_le hbase.2 hb1.size) hne.1).trans (hb1.block _ hbase.2))
  have g0:=hf.f0
  have gf:=hf.ff
  have hk2:=Lib.hid hk
  have hn2:=Lib.hid hn
  have hf2:=Lib.hid hf
  clear hf hk hn f0 f1 f2 f3 f4 f5 f6 ff hrun hb hnd
  go_wp2
  go_ret
  have hblk:∀k,k<w.heap.size→k≠cb→no≠some ⟨k,0,none⟩→(w'.setCell ⟨cb,0,none⟩ (.slice (some ⟨g,0,none⟩) (m+1) cap')).heap[k]?=w.heap[k]? :=fun k h1 h2 h3=>
   (heap_set_other h2).trans ((hk2.out.block k (Nat.lt_of_lt_of_le h1 hb1.size) h3).trans (hb1.block _ h1))
  have hsz2:w.heap.size≤w'.heap.size:=Nat.le_trans hb1.size hk2.out.size
  have hat2:no=some ⟨g,0,none⟩∨w.heap.size≤g:=by rcases hat with e | e;exact .inl e;exact .inr (by omega)
  refine⟨rfl,g,cap',?_,?_,hat2⟩
  ·exact H.out.push (by simpa using hsz2) (hf2.out.set0 _) (hn2.out.stay (heap_set_other hcg.symm)) hbg (by simpa using hglt) hat2 hblk
  ·exact(((Keeps.of_below hb1).then hk2.out (fun k _ e=> .inr (.inr e))).set (p:=⟨cb,0,none⟩) (.inl rfl) _)
theorem free_old {i:Nat} {post:List Nat} (h:CSt w base w.heap.size cb mb no m cap N e y room hits misses (i::post) sz f R) (hs:room≤(sz:Int)) (hfk:(f (N i).key).isSome=true):
  Calls Tryz.prog 149 #[.pointer (some ⟨cb,0,none⟩)] w fun en w'=>en= .returned (.int .i64 i)∧
   ∃N' e' y',CSt w' base w'.heap.size cb mb no m cap N' e' y' room hits misses post (sz-1) (fun t=>if t=(N i).key then none else f t) R∧(∀j,(N' j).held=(N j).held)∧Keeps (Ft cb mb no) w w':=by
 have him:i<m:=h.lt i (by simp)
 obtain⟨nb,rfl,hc,hmn,hbn,hbn2⟩:=h.cmem (by omega)
 have hei:e=(i:Int):=h.ch.e_
 subst hei
 obtain⟨hel,hyo⟩:=h.ch.at_ [] i post rfl
 have hpost:∀k∈post,k<m:=fun k hk=>h.lt k (by simp[hk])
 have pel:Pl m (N i).el:=by rw[hel];exact .inl rfl
 have pyo:Pl m (N i).yo:=by rw[hyo];exact hdD_pl hpost
 obtain⟨f0,f1,f2,f3,f4,f5,f6,ff⟩:=id h.fl
 have hrun:=fun ty=>(h.mp.stay (w':=w.drew) rfl).run_len ty
 have H:=Lib.hid h
 have HC:=Lib.hid hc.drew
 have hd:decide ((sz:Int)<room)=false:=by simp;omega
 clear h hc
 go_enter Tryz.func149,Tryz.ntmps149
 go_wp2
 go_region
 all_goals go_wp2_with (fail)
 all_goals
  refine(unlink_calls w.drew HC.out i him pel pyo).mono ?_
  rintro en w1 ⟨rfl,hc1,hk1⟩
  have h1:=(H.out.below (w':=w.drew) (Below.refl _ _).drew).relink (Nat.le_refl _) hmn ⟨hbn,hbn2⟩ hc1 hk1 (unlN_held N i) (ord':=post) (Chain.unlink (pre:=[]) H.out.ch) hpost
  have hkey:(unlN N i i).key=(N i).key:=by have:=unlN_held N i i;simp only[Nd.held,Prod.mk.injEq]at this;exact this.1
  obtain⟨c0,c1,c2,c3⟩:=hc1.cells him
  rw[hkey]at c0
  obtain⟨f0,f1,f2,f3,f4,f5,f6,ff⟩:=id hc1.f
  have hm1:=h1.mp
  have hle:=hc1.n.le
  have hmax:=hc1.n.max
  unfold maxLen at hmax
  have him2:(i:Int)<(m:Int):=by omega
  have hkl:=H.out.keys i him
  have H1:=Lib.hid h1
  have HK:=Lib.hid hk1
  clear h1 hk1 hc1
  go_wp2
  go_still_tail 12,(by kernel_rfl)
  refine wpList_si_del rfl _ _ rfl rfl (hm1.stay rfl) rfl hkl ?_
  intro w2 hm2 hturn
  rw[if_pos hfk]at hm2
  have HK2:Keeps (fun k=>k=mb) w1 w2:=(Keeps.refl _ w1).drew.turned hturn rfl
  go_wp2
  go_ret
  have htop:w.heap.size≤w1.heap.size:=HK.out.size
  refine⟨rfl,unlN N i,_,_,(H1.out.mapped htop hm2 fun k h1 h2=>HK2.block k h1 h2).up (Nat.le_trans htop HK2.size),unlN_held N i,?_⟩
  have hK1:Keeps (Ft cb mb (some ⟨nb,0,none⟩)) w w1:=(Keeps.refl _ w).drew.then HK.out fun k _ hk=>by
   rcases hk with h | h
   ·exact .inl h
   ·exact .inr (.inr (by rw[h]))
  exact hK1.then HK2 fun k _ hk=> .inr (.inl hk)
end
theorem Lib.wrap_add_one {x:Int} (h0:0≤x) (h1:x<4611686018427387904):IntKind.i64.wrap (x+1)=x+1:=by
 rw[IntKind.wrap_i64];omega
section
variable {w:World} {base top cb mb m cap sz:Nat} {no:Option Addr} {N:Nat→Nd} {e y room hits misses:Int} {ord:List Nat} {f:ByteArray→Option Int} {R:Nat→List Int}
theorem CSt.cbLt (h:CSt w base top cb mb no m cap N e y room hits misses ord sz f R) (htop:top≤w.heap.size):cb<w.heap.size∧mb<w.heap.size:=⟨by have:=h.bc;omega,by have:=h.bm;omega⟩
theorem CSt.refield {w':World} {hits' misses':Int} (h:CSt w base top cb mb no m cap N e y room hits misses ord sz f R) (htop:top≤w.heap.size) (hf:Flds w' cb (.slice no m cap) mb e y room hits' misses') (hk:∀k,k<w.heap.size→k≠cb→w'.heap[k]?=w.heap[k]?):
  CSt w' base top cb mb no m cap N e y room hits' misses' ord sz f R:=by
 refine⟨hf,?_,h.mp.stay (hk mb (h.cbLt htop).2 (fun e=>h.cm e.symm)),h.ch,h.lt,h.cm,h.bc,h.bm,fun i hi=> ?_,h.keys⟩
 ·rcases h.nd with h' | ⟨nb,h1,h2,h3,h4,h5,h6⟩
  ·exact .inl h'
  ·exact .inr ⟨nb,h1,h2.stay (hk nb (by omega) (fun e=>h3 e.symm)),h3,h4,h5,h6⟩
 ·obtain⟨h1,h2⟩:=h.rows i hi
  exact⟨h1.keep fun ad e=>hk _ (by have:=(h2 ad e).2.1;omega) fun e'=>(h2 ad e).2.2 (.inl e'),h2⟩
theorem get_miss (h:CSt w base top cb mb no m cap N e y room hits misses ord sz f R) (htop:top≤w.heap.size) (key:ByteArray) (hkl:key.size≤maxLen) (hf:f key=none) (hm0:0≤misses) (hm1:misses<4611686018427387904):
  Calls Tryz.prog 118 #[.pointer (some ⟨cb,0,none⟩), .string key] w fun en w'=>en= .returned (.tuple #[.slice none 0 0, .bool false])∧
   CSt w' base top cb mb no m cap N e y room hits (misses+1) ord sz f R∧Keeps (Ft cb mb no) w w':=by
 obtain⟨f0,f1,f2,f3,f4,f5,f6,ff⟩:=id h.fl
 have hmp:=h.mp
 have H:=Lib.hid h
 have hadd:IntKind.i64.wrap (misses+1)=misses+1:=Lib.wrap_add_one hm0 hm1
 clear h
 go_enter Tryz.func118,Tryz.ntmps118
 go_wp2_with (with_reducible show wpList _ _ _ (⟨_, .lookup _ _ _ _,_,_,_,_⟩::_) _ _;refine wpList_si_ok rfl _ _ rfl rfl hmp rfl hkl ?_;rw[hf])
 go_ret2
 have H2:=H.out.fl.set6 (misses+1)
 exact⟨rfl,H.out.refield htop H2 (fun k h1 h2=>heap_set_other h2),(Keeps.refl _ w).set (p:=⟨cb,6,none⟩) (.inl rfl) _⟩
theorem get_hit {pre post:List Nat} {i:Nat} (h:CSt w base top cb mb no m cap N e y room hits misses (pre++i::post) sz f R) (htop:top≤w.heap.size) (key:ByteArray) (hkl:key.size≤maxLen) (hf:f key=some (i:Int)) (hm0:0≤hits) (hm1:hits<4611686018427387904)
  (hlim:(R i).length≤1048576):
  Calls Tryz.prog 118 #[.pointer (some ⟨cb,0,none⟩), .string key] w fun en w'=>∃vo vn vc N' e' y',en= .returned (.tuple #[.slice vo vn vc, .bool true])∧Own w' w.heap.size (.slice vo vn vc) (R i)∧
   CSt w' base top cb mb no m cap N' e' y' room (hits+1) misses (pre++post++ [i]) sz f R∧(∀j,(N' j).held=(N j).held)∧Keeps (Ft cb mb no) w w':=by
 have him:i<m:=h.lt i (by simp)
 obtain⟨nb,rfl,hc,hmn,hbn,hbn2⟩:=h.cmem (by omega)
 obtain⟨hel,hyo⟩:=h.ch.at_ pre i post rfl
 have hpost:∀k∈pre++post,k<m:=fun k hk=>h.lt k (by simp at hk ⊢;rcases hk with h | h<;>simp[h])
 have pel:Pl m (N i).el:=by rw[hel];exact lstD_pl fun k hk=>hpost k (by simp[hk])
 have pyo:Pl m (N i).yo:=by rw[hyo];exact hdD_pl fun k hk=>hpost k (by simp[hk])
 have hni:i∉pre++post:=by
  have:=h.ch.nd
  have h2:(i::(pre++post)).Nodup:=(List.perm_middle.nodup_iff).1 this
  exact(List.nodup_cons.1 h2).1
 obtain⟨f0,f1,f2,f3,f4,f5,f6,ff⟩:=id h.fl
 have hmp:=h.mp
 have HC:=Lib.hid (h.refield htop (h.fl.set5 (hits+1)) fun k h1 h2=>heap_set_other h2)
 have hadd:IntKind.i64.wrap (hits+1)=hits+1:=Lib.wrap_add_one hm0 hm1
 have hwl:w.heap.size=(w.setCell ⟨cb,5,none⟩ (.int .i64 (hits+1))).heap.size:=by simp
 clear h hc
 go_enter Tryz.func118,Tryz.ntmps118
 go_wp2_with (with_reducible show wpList _ _ _ (⟨_, .lookup _ _ _ _,_,_,_,_⟩::_) _ _;refine wpList_si_ok rfl _ _ rfl rfl hmp rfl hkl ?_;rw[hf])
 obtain⟨nb',e1,hc,_⟩:=HC.out.cmem (by omega)
 simp at e1
 subst e1
 refine(unlink_calls _ hc i him pel pyo).mono ?_
 rintro en w1 ⟨rfl,hc1,hk1⟩
 have h1:=HC.out.relink (by rw[←hwl];exact htop) hmn ⟨hbn,hbn2⟩ hc1 hk1 (unlN_held N i) HC.out.ch.unlink hpost
 have ht1:w.heap.size≤w1.heap.size:=by rw[hwl];exact hk1.size
 have hk1':=Lib.hid hk1
 clear hk1 hc f0 f1 f2 f3 f4 f5 f6 ff hmp
 have hN1:=unlN_held N i
 have hy1:=h1.ch.y_
 have py:Pl m (if(N i).yo= -1 then(N i).el else y):=by rw[hy1];exact lstD_pl hpost
 have hyi:(if(N i).yo= -1 then(N i).el else y)≠(i:Int):=by
  rw[hy1]
  rcases nil_or_snoc (pre++post)with e | ⟨l',x,e⟩
  ·rw[e,lstD_nil];omega
  ·rw[e,lstD_snoc]
   intro e2
   exact hni (by rw[e];simp;omega)
 generalize unlN N i=N1 at hc1 h1 hN1
 generalize (if(N i).el= -1 then(N i).yo else e)=e1 at hc1 h1
 generalize (if(N i).yo= -1 then(N i).el else y)=y1 at hc1 h1 hy1 py hyi
 go_wp2_with (fail)
 refine(link_calls _ hc1 i him py hyi).mono ?_
 rintro en w2 ⟨rfl,hc2,hk2⟩
 have h2:=h1.relink (by omega) hmn ⟨hbn,hbn2⟩ hc2 hk2 (lnkN_held N1 i y1) (h1.ch.link hni) (fun k hk=>by simp at hk;rcases hk with h | h | h;exact hpost k (by simp[h]);exact hpost k (by simp[h]);omega)
 have ht2:w1.heap.size≤w2.heap.size:=hk2.size
 have hN2:∀j,(lnkN N1 i y1 j).held=(N j).held:=fun j=>(lnkN_held N1 i y1 j).trans (hN1 j)
 have hk2':=Lib.hid hk2
 clear hk2 hc1 h1 hy1 py hyi
 generalize lnkN N1 i y1=N2 at hc2 h2 hN2
 generalize (if y1= -1 then(i:Int)else e1)=e2 at hc2 h2
 obtain⟨c0,c1,c2,c3⟩:=hc2.cells him
 obtain⟨f0,f1,f2,f3,f4,f5,f6,ff⟩:=id hc2.f
 have hle:=hc2.n.le
 have hmax:=hc2.n.max
 unfold maxLen at hmax
 have him2:(i:Int)<(m:Int):=by omega
 obtain⟨hrow,hrow2⟩:=h2.rows i him
 have hlen:=Lib.hid hrow.len
 have hc2':=Lib.hid hc2
 have h2':=Lib.hid h2
 clear hc2 h2
 go_wp2_with (fail)
 refine(clone_calls _ hrow (by have:=hlen.out;omega)).mono ?_
 rintro en w3 ⟨vo,vc,rfl,hown,hb3⟩
 clear c0 c1 c2 c3 f0 f1 f2 f3 f4 f5 f6 ff
 go_wp2
 go_ret2
 have hww:w.heap.size≤w2.heap.size:=by omega
 have htt:top≤w2.heap.size:=by omega
 refine⟨vo,_,vc,N2,e2,i,rfl,hown.mono hww,h2'.out.below ⟨hb3.os,hb3.tape,hb3.output,hb3.size,fun k hk=>hb3.block k (by omega)⟩,hN2,?_⟩
 have K1:Keeps (Ft cb mb (some ⟨nb,0,none⟩)) w w1:=((Keeps.refl _ w).set (p:=⟨cb,5,none⟩) (.inl rfl) _).then hk1'.out fun k _ hk=>by
  rcases hk with h | h
  ·exact .inl h
  ·exact .inr (.inr (by rw[h]))
 have K2:Keeps (Ft cb mb (some ⟨nb,0,none⟩)) w w2:=K1.then hk2'.out fun k _ hk=>by
  rcases hk with h | h
  ·exact .inl h
  ·exact .inr (.inr (by rw[h]))
 exact K2.trans (Keeps.of_below hb3)
end
theorem SlI.keep0 {w w':World} {ao:Option Addr} {n cap:Nat} {A:List Int} (h:SlI w ao n cap A) (hb:∀ad,ao=some ad→0<n→w'.heap[ad.block]?=w.heap[ad.block]?):SlI w' ao n cap A:=
 ⟨Sl.len h,Sl.le h,Sl.max h,Sl.nil h,fun i u hu=>let ⟨b,o,e,c⟩:=Sl.at_ h i u hu;⟨b,o,e,by
  have hl:=Sl.len h
  have:=(List.getElem?_eq_some_iff.1 hu).1
  rw[World.cell?_of_block (w:=w) (a:=⟨b,o+i, .none⟩) (hb ⟨b,o, .none⟩ e (by omega))];exact c⟩⟩
theorem Own.stay {w w':World} {base:Nat} {v:Value} {A:List Int} (h:Own w base v A) (hb:∀k,base≤k→k<w.heap.size→w'.heap[k]?=w.heap[k]?):Own w' base v A:=by
 obtain⟨h1,h2⟩:=h
 rcases h2 with h2 | ⟨g,cap,cur,e,hg,hh,r⟩
 ·exact⟨h1, .inl h2⟩
 ·have hlt:g<w.heap.size:=by
   rcases Nat.lt_or_ge g w.heap.size with h' | h'
   ·exact h'
   ·rw[Array.getElem?_eq_none h']at hh;cases hh
  exact⟨h1, .inr ⟨g,cap,cur,e,hg,(hb g hg hlt).trans hh,r⟩⟩
theorem Own.set {w:World} {base:Nat} {v:Value} {A:List Int} (h:Own w base v A) {b o:Nat} (hb:b<base) (x:Value):Own (w.setCell ⟨b,o,none⟩ x) base v A:=
 h.stay fun k h1 h2=>heap_set_other (by omega)
theorem Own.rowOK {w:World} {base top cb mb:Nat} {no:Option Addr} {vo:Option Addr} {n vc:Nat} {A:List Int} (h:Own w top (.slice vo n vc) A) (hb:base≤top) (hf:∀k,Ft cb mb no k→k<top):
  SlI w vo n vc A∧∀ad,vo=some ad→base≤ad.block∧ad.block<w.heap.size∧¬Ft cb mb no ad.block:=by
 obtain⟨vo',vc',e,hs⟩:=h.sl
 simp at e
 obtain⟨rfl,rfl,rfl⟩:=e
 refine⟨hs,fun ad e=> ?_⟩
 subst e
 obtain⟨_,h2⟩:=h.block
 rcases h2 with⟨h3,_⟩ | ⟨g,cur,h3,h4,h5,_⟩
 ·cases h3
 ·simp at h3
  subst h3
  have hlt:g<w.heap.size:=by
   rcases Nat.lt_or_ge g w.heap.size with h' | h'
   ·exact h'
   ·rw[Array.getElem?_eq_none h']at h5;cases h5
  exact⟨by show base≤g;omega,hlt,fun h=>by have h7:=hf _ h;have h8:g<top:=h7;omega⟩
section
variable {w:World} {base top cb nb mb m cap sz:Nat} {N:Nat→Nd} {e y room hits misses:Int} {ord:List Nat} {f:ByteArray→Option Int} {R:Nat→List Int}
theorem CSt.cmem' (h:CSt w base top cb mb (some ⟨nb,0,none⟩) m cap N e y room hits misses ord sz f R) (hm:0<m):CMem w cb nb mb m cap N e y room hits misses∧mb≠nb∧base≤nb∧nb<top:=by
 obtain⟨nb',e,h⟩:=h.cmem hm
 simp at e
 subst e
 exact h
theorem CMem.setKey (h:CMem w cb nb mb m cap N e y room hits misses) {k:Nat} (hk:k<m) (s:ByteArray):CMem (w.setCell ⟨nb,k*4,none⟩ (.string s)) cb nb mb m cap (upd N k {N k with key:=s}) e y room hits misses:=
 ⟨h.f.stay (heap_set_other h.ne),h.n.store hk (j:=0) (by omega) _ _ rfl,h.ne⟩
theorem CMem.setRow (h:CMem w cb nb mb m cap N e y room hits misses) {k:Nat} (hk:k<m) (vo:Option Addr) (n vc:Nat):CMem (w.setCell ⟨nb,k*4+1,none⟩ (.slice vo n vc)) cb nb mb m cap (upd N k {N k with ro:=vo,rn:=n,rc:=vc}) e y room hits misses:=
 ⟨h.f.stay (heap_set_other h.ne),h.n.store hk (j:=1) (by omega) _ _ rfl,h.ne⟩
theorem CMem.below {w':World} (h:CMem w cb nb mb m cap N e y room hits misses) (hb:Below w.heap.size w w'):CMem w' cb nb mb m cap N e y room hits misses:=
 h.stay (hb.block _ h.lt) (hb.block _ h.n.lt)
def Mid (w1:World) (cb nb mb m cap:Nat) (N:Nat→Nd) (i:Nat) (key:ByteArray) (n:Nat) (A:List Int) (e y room hits misses:Int) (w2:World):Prop:=
 ∃vo vc N2,CMem w2 cb nb mb m cap N2 e y room hits misses∧N2 i= {N i with key:=key,ro:=vo,rn:=n,rc:=vc}∧(∀j,j≠i→N2 j=N j)∧Own w2 w1.heap.size (.slice vo n vc) A∧Keeps (fun k=>k=nb) w1 w2
theorem mid_a {w1 w3:World} {i:Nat} {key:ByteArray} {n vc:Nat} {vo:Option Addr} {A:List Int} (hi:i<m) (h:CMem w3 cb nb mb m cap N e y room hits misses) (hb:Below w1.drew.heap.size w1.drew w3) (hnb:nb<w1.heap.size) (ho:Own w3 w1.drew.heap.size (.slice vo n vc) A):
  Mid w1 cb nb mb m cap N i key n A e y room hits misses ((w3.setCell ⟨nb,i*4,none⟩ (.string key)).setCell ⟨nb,i*4+1,none⟩ (.slice vo n vc)):=by
 refine⟨vo,vc,_,(h.setKey hi key).setRow hi vo n vc,by simp[upd],fun j hj=>by simp[upd,hj],(Own.set (Own.set ho hnb _) hnb _),?_⟩
 exact(((Keeps.refl (fun k=>k=nb) w1).drew.trans (Keeps.of_below hb)).set (p:=⟨nb,i*4,none⟩) rfl _).set (p:=⟨nb,i*4+1,none⟩) rfl _
theorem mid_b {w1 w3:World} {i:Nat} {key:ByteArray} {n vc:Nat} {vo:Option Addr} {A:List Int} (hi:i<m) (h:CMem w3 cb nb mb m cap N e y room hits misses) (hb:Below w1.drew.heap.size w1.drew w3) (hnb:nb<w1.heap.size) (ho:Own w3 w1.drew.heap.size (.slice vo n vc) A):
  Mid w1 cb nb mb m cap N i key n A e y room hits misses ((w3.setCell ⟨nb,i*4+1,none⟩ (.slice vo n vc)).setCell ⟨nb,i*4,none⟩ (.string key)):=by
 refine⟨vo,vc,_,(h.setRow hi vo n vc).setKey hi key,by simp[upd],fun j hj=>by simp[upd,hj],(Own.set (Own.set ho hnb _) hnb _),?_⟩
 exact(((Keeps.refl (fun k=>k=nb) w1).drew.trans (Keeps.of_below hb)).set (p:=⟨nb,i*4+1,none⟩) rfl _).set (p:=⟨nb,i*4,none⟩) rfl _
theorem mid_c {w1 w3:World} {i:Nat} {key:ByteArray} {n vc:Nat} {vo:Option Addr} {A:List Int} (hi:i<m) (h:CMem w3 cb nb mb m cap (upd N i {N i with key:=key}) e y room hits misses)
  (hb:Below (w1.setCell ⟨nb,i*4,none⟩ (.string key)).drew.heap.size (w1.setCell ⟨nb,i*4,none⟩ (.string key)).drew w3) (hnb:nb<w1.heap.size) (ho:Own w3 (w1.setCell ⟨nb,i*4,none⟩ (.string key)).drew.heap.size (.slice vo n vc) A):
  Mid w1 cb nb mb m cap N i key n A e y room hits misses (w3.setCell ⟨nb,i*4+1,none⟩ (.slice vo n vc)):=by
 have hs:(w1.setCell ⟨nb,i*4,none⟩ (.string key)).drew.heap.size=w1.heap.size:=by simp
 rw[hs]at ho
 refine⟨vo,vc,_,h.setRow hi vo n vc,by simp[upd],fun j hj=>by simp[upd,hj],(Own.set ho hnb _),?_⟩
 exact((((Keeps.refl (fun k=>k=nb) w1).set (p:=⟨nb,i*4,none⟩) rfl _).drew.trans (Keeps.of_below hb)).set (p:=⟨nb,i*4+1,none⟩) rfl _)
theorem CSt.reput {w':World} {i:Nat} {N2:Nat→Nd} {vo:Option Addr} {n vc sz':Nat} {A:List Int} {f':ByteArray→Option Int} {key:ByteArray} (h:CSt w base top cb mb (some ⟨nb,0,none⟩) m cap N e y room hits misses ord sz f R) (hi:i<m) (hni:i∉ord)
  (htop:top≤w.heap.size) (htop2:w.heap.size≤w'.heap.size) (hc:CMem w' cb nb mb m cap N2 e y room hits misses) (hN2:N2 i= {N i with key:=key,ro:=vo,rn:=n,rc:=vc}) (hN2':∀j,j≠i→N2 j=N j) (hmp:MapSI w' mb sz' f')
  (hblk:∀k,k<top→k≠nb→k≠mb→w'.heap[k]?=w.heap[k]?) (hown:Own w' w.heap.size (.slice vo n vc) A) (hmn:mb≠nb) (hbn:base≤nb∧nb<top) (hkl:key.size≤maxLen):
  CSt w' base w'.heap.size cb mb (some ⟨nb,0,none⟩) m cap N2 e y room hits misses ord sz' f' (upd R i A):=by
 have hbc:=h.bc
 have hbm:=h.bm
 refine⟨hc.f, .inr ⟨nb,rfl,hc.n,hc.ne,hmn,hbn.1,by omega⟩,hmp,h.ch.congr fun j hj=> ?_,h.lt,h.cm,⟨hbc.1,by omega⟩,⟨hbm.1,by omega⟩,fun j hj=> ?_,fun j hj=> ?_⟩
 ·rw[hN2' j (fun e=>hni (e▸hj))];exact⟨rfl,rfl⟩
 ·by_cases ej:j=i
  ·subst ej
   rw[upd_same,RowOK,hN2]
   refine Own.rowOK hown (by omega) fun k hk=> ?_
   rcases hk with h1 | h1 | h1
   ·omega
   ·omega
   ·simp at h1;omega
  ·rw[upd_other _ _ _ _ ej,hN2' j ej]
   obtain⟨h1,h2⟩:=h.rows j hj
   refine⟨h1.keep fun ad e=>hblk _ (h2 ad e).2.1 (fun e'=>(h2 ad e).2.2 (.inr (.inr (by rw[e'])))) (fun e'=>(h2 ad e).2.2 (.inr (.inl e'))),fun ad e=> ?_⟩
   obtain⟨a1,a2,a3⟩:=h2 ad e
   exact⟨a1,by omega,a3⟩
 ·by_cases ej:j=i
  ·subst ej;rw[hN2];exact hkl
  ·rw[hN2' j ej];exact h.keys j hj
end
set_option linter.unusedSimpArgs false
def At (no:Option Addr) (g B:Nat):Prop:=no=some ⟨g,0,none⟩∨B≤g
section
variable {w:World} {base cb mb m cap sz:Nat} {no:Option Addr} {N:Nat→Nd} {e y room hits misses:Int} {ord:List Nat} {f:ByteArray→Option Int} {R:Nat→List Int}
end
set_option linter.unusedSimpArgs false
theorem Own.from {w:World} {base:Nat} {vo:Option Addr} {n vc:Nat} {A:List Int} (h:Own w base (.slice vo n vc) A) (ad:Addr) (e:vo=some ad):base≤ad.block:=by
 subst e
 obtain⟨_,h2⟩:=h.block
 rcases h2 with⟨h3,_⟩ | ⟨g,cur,h3,h4,_⟩
 ·cases h3
 ·simp at h3;subst h3;exact h4
def PutOKB (w:World) (base cb mb:Nat) (no:Option Addr) (N:Nat→Nd) (room hits misses:Int) (i:Nat) (key:ByteArray) (m':Nat) (ord':List Nat) (sz':Nat) (f':ByteArray→Option Int) (R':Nat→List Int) (w':World):Prop:=
 ∃g cap' N' e' y',CSt w' base w'.heap.size cb mb (some ⟨g,0,none⟩) m' cap' N' e' y' room hits misses ord' sz' f' R'∧
  (∀j,j≠i→(N' j).held=(N j).held)∧(N' i).key=key∧(∀ad,(N' i).ro=some ad→w.heap.size≤ad.block)∧Keeps (Ft cb mb no) w w'∧At no g w.heap.size
section
variable {w:World} {base cb mb m cap sz:Nat} {no:Option Addr} {N:Nat→Nd} {e y room hits misses:Int} {ord:List Nat} {f:ByteArray→Option Int} {R:Nat→List Int}
theorem put_oldB {pre post ord1:List Nat} {i:Nat} (h:CSt w base w.heap.size cb mb no m cap N e y room hits misses (pre++i::post) sz f R) (key:ByteArray) (hkl:key.size≤maxLen) (hroom:0<room)
  {ao:Option Addr} {n c:Nat} {A:List Int} (hA:SlI w ao n c A) (hAo:∀ad,ao=some ad→0<n→ad.block<w.heap.size∧¬Ft cb mb no ad.block) (hlim:n≤1048576) (hsz:sz<1048576) (hf:f key=some (i:Int)) (hord:pre++post=ord1):
  Calls Tryz.prog 119 #[.pointer (some ⟨cb,0,none⟩), .string key, .slice ao n c] w fun en w'=>en= .returned (.tuple #[])∧PutOKB w base cb mb no N room hits misses i key m (ord1++ [i]) sz (fun t=>if t=key then some (i:Int)else f t) (upd R i A) w':=by
 have him:i<m:=h.lt i (by simp)
 obtain⟨nb,rfl,hc,hmn,hbn,hbn2⟩:=h.cmem (by omega)
 obtain⟨hel,hyo⟩:=h.ch.at_ pre i post rfl
 have hpost:∀k∈pre++post,k<m:=fun k hk=>h.lt k (by simp at hk ⊢;rcases hk with h | h<;>simp[h])
 have pel:Pl m (N i).el:=by rw[hel];exact lstD_pl fun k hk=>hpost k (by simp[hk])
 have pyo:Pl m (N i).yo:=by rw[hyo];exact hdD_pl fun k hk=>hpost k (by simp[hk])
 have hni:i∉pre++post:=by
  have:=h.ch.nd
  have h2:(i::(pre++post)).Nodup:=(List.perm_middle.nodup_iff).1 this
  exact(List.nodup_cons.1 h2).1
 obtain⟨f0,f1,f2,f3,f4,f5,f6,ff⟩:=id h.fl
 have hmp:=h.mp
 have hr1:(room==0)=false:=by simp;omega
 have HC:=Lib.hid h
 clear h
 go_enter Tryz.func119,Tryz.ntmps119
 go_wp2_with (with_reducible show wpList _ _ _ (⟨_, .lookup _ _ _ _,_,_,_,_⟩::_) _ _;refine wpList_si_ok rfl _ _ rfl rfl hmp rfl hkl ?_;rw[hf])
 refine(unlink_calls w hc i him pel pyo).mono ?_
 rintro en w1 ⟨rfl,hc1,hk1⟩
 rw[hord]at hni
 have H1:=Lib.hid ((HC.out.relink (ord':=ord1) (Nat.le_refl _) hmn ⟨hbn,hbn2⟩ hc1 hk1 (unlN_held N i) (by rw[←hord];exact HC.out.ch.unlink) (by rw[←hord];exact hpost)).up hk1.size)
 have HK1:Hid (Keeps (Ft cb mb (some ⟨nb,0,none⟩)) w w1):=Lib.hid (hk1.mono fun k _ hk=>by
  rcases hk with h | h
  ·exact .inl h
  ·exact .inr (.inr (by rw[h])))
 have hno:At (some (⟨nb,0,none⟩:Addr)) nb w.heap.size:= .inl rfl
 have him1:i<m:=him
 have HKEY:∀j,j≠i→(unlN N i j).held=(N j).held:=fun j _=>unlN_held N i j
 clear hord hc1 hk1 hc f0 f1 f2 f3 f4 f5 f6 ff hmp
 generalize unlN N i=N1 at H1 HKEY
 generalize (if(N i).el= -1 then(N i).yo else e)=e1 at H1
 generalize (if(N i).yo= -1 then(N i).el else y)=y1 at H1
 obtain⟨hc1,hmn1,hbn1,hbn21⟩:=H1.out.cmem' (by omega)
 have hA1:SlI w1 ao n c A:=hA.keep0 fun ad e h0=>HK1.out.block _ (hAo ad e h0).1 (hAo ad e h0).2
 have hne1:∀ad,ao=some ad→0<n→ad.block≠nb:=by
  intro ad e h0 e2
  rcases hno with h | h
  ·exact(hAo ad e h0).2 (.inr (.inr (by rw[h,e2])))
  ·have:=(hAo ad e h0).1
   omega
 have hA1k:SlI (w1.setCell ⟨nb,i*4,none⟩ (.string key)).drew ao n c A:=hA1.keep0 fun ad e h0=>heap_set_other (hne1 ad e h0)
 have HC1:=Lib.hid hc1
 have HCk:=Lib.hid (hc1.setKey him1 key)
 obtain⟨c0,c1,c2,c3⟩:=hc1.cells him1
 obtain⟨f0,f1,f2,f3,f4,f5,f6,ff⟩:=id hc1.f
 have nf:=hc1.n.free
 have hle1:=hc1.n.le
 have hmax1:=hc1.n.max
 unfold maxLen at hmax1
 have him2:(i:Int)<(m:Int):=by omega
 have hcn:=hc1.ne
 have hcn2:=hcn.symm
 clear hc1
 go_wp2_with (fail)
 go_cut [6] (fun s6 wx=>s6= .int .i64 i∧Mid w1 cb nb mb m cap N1 i key n A e1 y1 room hits misses wx)
 case first=>
  go_region_held3 (fun w'=>w'.cell? ⟨cb,0,none⟩=some (.slice (some ⟨nb,0,none⟩) m cap)∧w'.cell? ⟨cb,0,none⟩=some (.slice (some ⟨nb,0,none⟩) m cap)) (first | exact⟨by assumption,by assumption⟩ | exact⟨f0,f0⟩ | (simp[go_sem,hcn,f0];done) | go_keep)
   (first | (go_at_call 70;refine(clone_calls (A:=A) _ ?_ (by omega)).mono ?_;(first | exact hA1.drew | exact hA1k);rintro e w3 ⟨vo,vc,rfl,ho3,hb3⟩;(first | have hcm3:=HC1.out.drew.below hb3 | have hcm3:=HCk.out.drew.below hb3);obtain⟨c03,c13,c23,c33⟩:=hcm3.cells him1;have nf3:=hcm3.n.free;have g03:=hcm3.f.f0))
  all_goals(go_wp2_with fail;go_meet)
  all_goals exact⟨rfl,by first | exact mid_a him1 hcm3 hb3 hbn21 ho3 | exact mid_b him1 hcm3 hb3 hbn21 ho3 | exact mid_c him1 hcm3 hb3 hbn21 ho3⟩
 case rest=>
  obtain⟨rfl,vo,vc,N2,hcm,hN2,hN2',hown,hkk⟩:=hcut
  have hcbm:=H1.out.cm
  have hmbl:=H1.out.bm
  have hmc:MapSI wc mb sz f:=H1.out.mp.stay (hkk.block mb hmbl.2 hmn1)
  have hwf:(Lit.int .i64 (i:Int)).wf=true:=WalkArith.wf_i64 (by omega)
  clear c0 c1 c2 c3 f0 f1 f2 f3 f4 f5 f6 ff nf
  have f1:=hcm.f.f1
  go_wp2_with (with_reducible show wpList _ _ _ (⟨_, .mapUpdate _ _ _ _,_,_,_,_⟩::_) _ _;refine wpList_si_put rfl _ _ _ rfl rfl hmc rfl hkl rfl hwf (by unfold maxLen;omega) ?_)
  intro w3 hmp3 hgr3
  try simp only[hf,Option.isSome_some,if_true]at hmp3
  have K3:Keeps (fun k=>k=mb) wc w3:=(Keeps.refl _ _).grown hgr3 fun k hk _=>by simp at hk;exact hk.symm
  have hszc:w1.heap.size≤wc.heap.size:=hkk.size
  have hc3:CMem w3 cb nb mb m cap N2 e1 y1 room hits misses:=hcm.stay (K3.block cb hcm.lt hcbm) (K3.block nb hcm.n.lt (fun e=>hmn1 e.symm))
  have hown3:Own w3 w1.heap.size (.slice vo n vc) A:=hown.stay fun k h1 h2=>K3.block k h2 (by omega)
  have h3:=H1.out.reput him1 hni (Nat.le_refl _) (Nat.le_trans hszc K3.size) hc3 hN2 hN2' hmp3 (fun k h1 h2 h3=>(K3.block k (by omega) h3).trans (hkk.block k h1 h2)) hown3 hmn1 ⟨hbn1,hbn21⟩ hkl
  have hsz3:w1.heap.size≤w3.heap.size:=Nat.le_trans hszc K3.size
  have hK3:Hid (Keeps (Ft cb mb (some ⟨nb,0,none⟩)) w w3):=Lib.hid ((HK1.out.then hkk (fun k _ hk=> .inr (.inr (by rw[hk])))).then K3 fun k _ hk=> .inr (.inl hk))
  have H3:=Lib.hid h3
  have hpy:Pl m y1:=by rw[H1.out.ch.y_];exact lstD_pl H1.out.lt
  have hyi:y1≠(i:Int):=by
   rw[H1.out.ch.y_]
   intro e2
   rcases nil_or_snoc (ord1)with e | ⟨l',x,e⟩
   ·rw[e,lstD_nil]at e2;omega
   ·rw[e,lstD_snoc]at e2
    exact hni (by rw[e];simp;omega)
  clear h3 hmc f1 hmp3 hgr3
  go_wp2_with (fail)
  refine(link_calls _ hc3 i him1 hpy hyi).mono ?_
  rintro en w4 ⟨rfl,hc4,hk4⟩
  have hlt4:∀k∈ord1++ [i],k<m:=by
   intro k hk
   rcases List.mem_append.1 hk with h | h
   ·exact H1.out.lt k h
   ·simp at h;omega
  have h4:=H3.out.relink (Nat.le_refl _) hmn1 ⟨hbn1,by omega⟩ hc4 hk4 (lnkN_held N2 i y1) (H3.out.ch.link hni) hlt4
  have HH:∀j,(lnkN N2 i y1 j).held=(N2 j).held:=fun j=>lnkN_held N2 i y1 j
  go_wp2_with (fail)
  go_end0
  refine⟨rfl,nb,_,_,_,_,h4.up hk4.size,fun j hj=> ?_,?_,?_,?_,hno⟩
  ·rw[HH,hN2' j hj];exact HKEY j hj
  ·have:=HH i;simp only[Nd.held,Prod.mk.injEq]at this;rw[this.1,hN2]
  ·intro ad had
   have h9:=HH i
   simp only[Nd.held,Prod.mk.injEq]at h9
   rw[h9.2.1,hN2]at had
   have h10:vo=some ad:=had
   exact Nat.le_trans HK1.out.size (hown3.from ad h10)
  ·exact hK3.out.then hk4 fun k hkl' hk=>by
    rcases hk with h | h
    ·exact .inl h
    ·rcases hno with h' | h'
     ·exact .inr (.inr (by rw[h',h]))
     ·omega
theorem put_newB {R1:Nat→List Int} (h:CSt w base w.heap.size cb mb no m cap N e y room hits misses ord sz f R) (key:ByteArray) (hkl:key.size≤maxLen) (hroom:0<room)
  {ao:Option Addr} {n c:Nat} {A:List Int} (hA:SlI w ao n c A) (hAo:∀ad,ao=some ad→0<n→ad.block<w.heap.size∧¬Ft cb mb no ad.block) (hlim:n≤1048576) (hsz:sz<1048576) (hf:f key=none) (hsr:(sz:Int)<room) (hm0:m<1048576) (hR1:upd R m []=R1):
  Calls Tryz.prog 119 #[.pointer (some ⟨cb,0,none⟩), .string key, .slice ao n c] w fun en w'=>en= .returned (.tuple #[])∧PutOKB w base cb mb no N room hits misses m key (m+1) (ord++ [m]) (sz+1) (fun t=>if t=key then some (m:Int)else f t) (upd R1 m A) w':=by
 have him1:m<m+1:=by omega
 have hni:m∉ord:=fun hi=>by have:=h.lt m hi;omega
 obtain⟨f0,f1,f2,f3,f4,f5,f6,ff⟩:=id h.fl
 have hmp:=h.mp
 have hr1:(room==0)=false:=by simp;omega
 have HC:=Lib.hid h
 clear h
 go_enter Tryz.func119,Tryz.ntmps119
 go_wp2_with (with_reducible show wpList _ _ _ (⟨_, .lookup _ _ _ _,_,_,_,_⟩::_) _ _;refine wpList_si_ok rfl _ _ rfl rfl hmp rfl hkl ?_;rw[hf])
 refine(free_new HC.out hsr hm0).mono ?_
 rintro en w1 ⟨rfl,g,cap1,h1,hk1,hat⟩
 rw[hR1]at h1
 have H1:=Lib.hid h1
 have HK1:=Lib.hid hk1
 have hno:At no g w.heap.size:=hat
 have HKEY:∀j,j≠m→(upd N m noNd j).held=(N j).held:=fun j hj=>by rw[upd_other _ _ _ _ hj]
 clear h1 hk1 hat f0 f1 f2 f3 f4 f5 f6 ff hmp
 generalize upd N m noNd=N1 at H1 HKEY
 obtain⟨hc1,hmn1,hbn1,hbn21⟩:=H1.out.cmem' (by omega)
 have hA1:SlI w1 ao n c A:=hA.keep0 fun ad e h0=>HK1.out.block _ (hAo ad e h0).1 (hAo ad e h0).2
 have hne1:∀ad,ao=some ad→0<n→ad.block≠g:=by
  intro ad e h0 e2
  rcases hno with h | h
  ·exact(hAo ad e h0).2 (.inr (.inr (by rw[h,e2])))
  ·have:=(hAo ad e h0).1
   omega
 have hA1k:SlI (w1.setCell ⟨g,m*4,none⟩ (.string key)).drew ao n c A:=hA1.keep0 fun ad e h0=>heap_set_other (hne1 ad e h0)
 have HC1:=Lib.hid hc1
 have HCk:=Lib.hid (hc1.setKey him1 key)
 obtain⟨c0,c1,c2,c3⟩:=hc1.cells him1
 obtain⟨f0,f1,f2,f3,f4,f5,f6,ff⟩:=id hc1.f
 have nf:=hc1.n.free
 have hle1:=hc1.n.le
 have hmax1:=hc1.n.max
 unfold maxLen at hmax1
 have him2:(m:Int)<((m+1):Int):=by omega
 have hcn:=hc1.ne
 have hcn2:=hcn.symm
 clear hc1
 go_wp2_with (fail)
 go_cut [6] (fun s6 wx=>s6= .int .i64 m∧Mid w1 cb g mb (m+1) cap1 N1 m key n A e y room hits misses wx)
 case first=>
  go_region_held3 (fun w'=>w'.cell? ⟨cb,0,none⟩=some (.slice (some ⟨g,0,none⟩) (m+1) cap1)∧w'.cell? ⟨cb,0,none⟩=some (.slice (some ⟨g,0,none⟩) (m+1) cap1)) (first | exact⟨by assumption,by assumption⟩ | exact⟨f0,f0⟩ | (simp[go_sem,hcn,f0];done) | go_keep)
   (first | (go_at_call 70;refine(clone_calls (A:=A) _ ?_ (by omega)).mono ?_;(first | exact hA1.drew | exact hA1k);rintro e w3 ⟨vo,vc,rfl,ho3,hb3⟩;(first | have hcm3:=HC1.out.drew.below hb3 | have hcm3:=HCk.out.drew.below hb3);obtain⟨c03,c13,c23,c33⟩:=hcm3.cells him1;have nf3:=hcm3.n.free;have g03:=hcm3.f.f0))
  all_goals(go_wp2_with fail;go_meet)
  all_goals exact⟨rfl,by first | exact mid_a him1 hcm3 hb3 hbn21 ho3 | exact mid_b him1 hcm3 hb3 hbn21 ho3 | exact mid_c him1 hcm3 hb3 hbn21 ho3⟩
 case rest=>
  obtain⟨rfl,vo,vc,N2,hcm,hN2,hN2',hown,hkk⟩:=hcut
  have hcbm:=H1.out.cm
  have hmbl:=H1.out.bm
  have hmc:MapSI wc mb sz f:=H1.out.mp.stay (hkk.block mb hmbl.2 hmn1)
  have hwf:(Lit.int .i64 (m:Int)).wf=true:=WalkArith.wf_i64 (by omega)
  clear c0 c1 c2 c3 f0 f1 f2 f3 f4 f5 f6 ff nf
  have f1:=hcm.f.f1
  go_wp2_with (with_reducible show wpList _ _ _ (⟨_, .mapUpdate _ _ _ _,_,_,_,_⟩::_) _ _;refine wpList_si_put rfl _ _ _ rfl rfl hmc rfl hkl rfl hwf (by unfold maxLen;omega) ?_)
  intro w3 hmp3 hgr3
  try simp only[hf,Option.isSome_none,Bool.false_eq_true,if_false]at hmp3
  have K3:Keeps (fun k=>k=mb) wc w3:=(Keeps.refl _ _).grown hgr3 fun k hk _=>by simp at hk;exact hk.symm
  have hszc:w1.heap.size≤wc.heap.size:=hkk.size
  have hc3:CMem w3 cb g mb (m+1) cap1 N2 e y room hits misses:=hcm.stay (K3.block cb hcm.lt hcbm) (K3.block g hcm.n.lt (fun e=>hmn1 e.symm))
  have hown3:Own w3 w1.heap.size (.slice vo n vc) A:=hown.stay fun k h1 h2=>K3.block k h2 (by omega)
  have h3:=H1.out.reput him1 hni (Nat.le_refl _) (Nat.le_trans hszc K3.size) hc3 hN2 hN2' hmp3 (fun k h1 h2 h3=>(K3.block k (by omega) h3).trans (hkk.block k h1 h2)) hown3 hmn1 ⟨hbn1,hbn21⟩ hkl
  have hsz3:w1.heap.size≤w3.heap.size:=Nat.le_trans hszc K3.size
  have hK3:Hid (Keeps (Ft cb mb no) w w3):=Lib.hid ((HK1.out.then hkk (fun k hk0 hk=>by rcases hno with h | h;exact .inr (.inr (by rw[hk];exact h));omega)).then K3 fun k _ hk=> .inr (.inl hk))
  have H3:=Lib.hid h3
  have hpy:Pl (m+1) y:=by rw[H1.out.ch.y_];exact lstD_pl H1.out.lt
  have hyi:y≠(m:Int):=by
   rw[H1.out.ch.y_]
   intro e2
   rcases nil_or_snoc (ord)with e | ⟨l',x,e⟩
   ·rw[e,lstD_nil]at e2;omega
   ·rw[e,lstD_snoc]at e2
    exact hni (by rw[e];simp;omega)
  clear h3 hmc f1 hmp3 hgr3
  go_wp2_with (fail)
  refine(link_calls _ hc3 m him1 hpy hyi).mono ?_
  rintro en w4 ⟨rfl,hc4,hk4⟩
  have hlt4:∀k∈ord++ [m],k<(m+1):=by
   intro k hk
   rcases List.mem_append.1 hk with h | h
   ·exact H1.out.lt k h
   ·simp at h;omega
  have h4:=H3.out.relink (Nat.le_refl _) hmn1 ⟨hbn1,by omega⟩ hc4 hk4 (lnkN_held N2 m y) (H3.out.ch.link hni) hlt4
  have HH:∀j,(lnkN N2 m y j).held=(N2 j).held:=fun j=>lnkN_held N2 m y j
  go_wp2_with (fail)
  go_end0
  refine⟨rfl,g,_,_,_,_,h4.up hk4.size,fun j hj=> ?_,?_,?_,?_,hno⟩
  ·rw[HH,hN2' j hj];exact HKEY j hj
  ·have:=HH m;simp only[Nd.held,Prod.mk.injEq]at this;rw[this.1,hN2]
  ·intro ad had
   have h9:=HH m
   simp only[Nd.held,Prod.mk.injEq]at h9
   rw[h9.2.1,hN2]at had
   have h10:vo=some ad:=had
   exact Nat.le_trans HK1.out.size (hown3.from ad h10)
  ·exact hK3.out.then hk4 fun k hkl' hk=>by
    rcases hk with h | h
    ·exact .inl h
    ·rcases hno with h' | h'
     ·exact .inr (.inr (by rw[h',h]))
     ·omega
theorem put_evictB {i sz1:Nat} {post:List Nat} {fv:ByteArray→Option Int} (h:CSt w base w.heap.size cb mb no m cap N e y room hits misses (i::post) sz f R) (key:ByteArray) (hkl:key.size≤maxLen) (hroom:0<room)
  {ao:Option Addr} {n c:Nat} {A:List Int} (hA:SlI w ao n c A) (hAo:∀ad,ao=some ad→0<n→ad.block<w.heap.size∧¬Ft cb mb no ad.block) (hlim:n≤1048576) (hsz:sz<1048576) (hf:f key=none) (hsr:room≤(sz:Int)) (hfk:(f (N i).key).isSome=true) (hfv:(fun t=>if t=(N i).key then none else f t)=fv) (hs1:sz-1=sz1):
  Calls Tryz.prog 119 #[.pointer (some ⟨cb,0,none⟩), .string key, .slice ao n c] w fun en w'=>en= .returned (.tuple #[])∧PutOKB w base cb mb no N room hits misses i key m (post++ [i]) (sz1+1) (fun t=>if t=key then some (i:Int)else fv t) (upd R i A) w':=by
 have him1:i<m:=h.lt i (by simp)
 obtain⟨nb,rfl,hc,hmn,hbn,hbn2⟩:=h.cmem (by omega)
 have hni:i∉post:=(List.nodup_cons.1 h.ch.nd).1
 have hfv0:fv key=none:=by rw[←hfv];simp[hf]
 obtain⟨f0,f1,f2,f3,f4,f5,f6,ff⟩:=id h.fl
 have hmp:=h.mp
 have hr1:(room==0)=false:=by simp;omega
 have HC:=Lib.hid h
 clear h hc
 go_enter Tryz.func119,Tryz.ntmps119
 go_wp2_with (with_reducible show wpList _ _ _ (⟨_, .lookup _ _ _ _,_,_,_,_⟩::_) _ _;refine wpList_si_ok rfl _ _ rfl rfl hmp rfl hkl ?_;rw[hf])
 refine(free_old HC.out hsr hfk).mono ?_
 rintro en w1 ⟨rfl,N1,e1,y1,h1,hheld,hk1⟩
 rw[hfv,hs1]at h1
 have H1:=Lib.hid h1
 have HK1:=Lib.hid hk1
 have hno:At (some (⟨nb,0,none⟩:Addr)) nb w.heap.size:= .inl rfl
 have HKEY:∀j,j≠i→(N1 j).held=(N j).held:=fun j _=>hheld j
 have hsz0:sz1<1048576:=by omega
 clear hs1
 clear h1 hk1 hheld f0 f1 f2 f3 f4 f5 f6 ff hmp hfv
 obtain⟨hc1,hmn1,hbn1,hbn21⟩:=H1.out.cmem' (by omega)
 have hA1:SlI w1 ao n c A:=hA.keep0 fun ad e h0=>HK1.out.block _ (hAo ad e h0).1 (hAo ad e h0).2
 have hne1:∀ad,ao=some ad→0<n→ad.block≠nb:=by
  intro ad e h0 e2
  rcases hno with h | h
  ·exact(hAo ad e h0).2 (.inr (.inr (by rw[h,e2])))
  ·have:=(hAo ad e h0).1
   omega
 have hA1k:SlI (w1.setCell ⟨nb,i*4,none⟩ (.string key)).drew ao n c A:=hA1.keep0 fun ad e h0=>heap_set_other (hne1 ad e h0)
 have HC1:=Lib.hid hc1
 have HCk:=Lib.hid (hc1.setKey him1 key)
 obtain⟨c0,c1,c2,c3⟩:=hc1.cells him1
 obtain⟨f0,f1,f2,f3,f4,f5,f6,ff⟩:=id hc1.f
 have nf:=hc1.n.free
 have hle1:=hc1.n.le
 have hmax1:=hc1.n.max
 unfold maxLen at hmax1
 have him2:(i:Int)<(m:Int):=by omega
 have hcn:=hc1.ne
 have hcn2:=hcn.symm
 clear hc1
 go_wp2_with (fail)
 go_cut [6] (fun s6 wx=>s6= .int .i64 i∧Mid w1 cb nb mb m cap N1 i key n A e1 y1 room hits misses wx)
 case first=>
  go_region_held3 (fun w'=>w'.cell? ⟨cb,0,none⟩=some (.slice (some ⟨nb,0,none⟩) m cap)∧w'.cell? ⟨cb,0,none⟩=some (.slice (some ⟨nb,0,none⟩) m cap)) (first | exact⟨by assumption,by assumption⟩ | exact⟨f0,f0⟩ | (simp[go_sem,hcn,f0];done) | go_keep)
   (first | (go_at_call 70;refine(clone_calls (A:=A) _ ?_ (by omega)).mono ?_;(first | exact hA1.drew | exact hA1k);rintro e w3 ⟨vo,vc,rfl,ho3,hb3⟩;(first | have hcm3:=HC1.out.drew.below hb3 | have hcm3:=HCk.out.drew.below hb3);obtain⟨c03,c13,c23,c33⟩:=hcm3.cells him1;have nf3:=hcm3.n.free;have g03:=hcm3.f.f0))
  all_goals(go_wp2_with fail;go_meet)
  all_goals exact⟨rfl,by first | exact mid_a him1 hcm3 hb3 hbn21 ho3 | exact mid_b him1 hcm3 hb3 hbn21 ho3 | exact mid_c him1 hcm3 hb3 hbn21 ho3⟩
 case rest=>
  obtain⟨rfl,vo,vc,N2,hcm,hN2,hN2',hown,hkk⟩:=hcut
  have hcbm:=H1.out.cm
  have hmbl:=H1.out.bm
  have hmc:MapSI wc mb sz1 fv:=H1.out.mp.stay (hkk.block mb hmbl.2 hmn1)
  have hwf:(Lit.int .i64 (i:Int)).wf=true:=WalkArith.wf_i64 (by omega)
  clear c0 c1 c2 c3 f0 f1 f2 f3 f4 f5 f6 ff nf
  have f1:=hcm.f.f1
  go_wp2_with (with_reducible show wpList _ _ _ (⟨_, .mapUpdate _ _ _ _,_,_,_,_⟩::_) _ _;refine wpList_si_put rfl _ _ _ rfl rfl hmc rfl hkl rfl hwf (by unfold maxLen;omega) ?_)
  intro w3 hmp3 hgr3
  try simp only[hfv0,Option.isSome_none,Bool.false_eq_true,if_false]at hmp3
  have K3:Keeps (fun k=>k=mb) wc w3:=(Keeps.refl _ _).grown hgr3 fun k hk _=>by simp at hk;exact hk.symm
  have hszc:w1.heap.size≤wc.heap.size:=hkk.size
  have hc3:CMem w3 cb nb mb m cap N2 e1 y1 room hits misses:=hcm.stay (K3.block cb hcm.lt hcbm) (K3.block nb hcm.n.lt (fun e=>hmn1 e.symm))
  have hown3:Own w3 w1.heap.size (.slice vo n vc) A:=hown.stay fun k h1 h2=>K3.block k h2 (by omega)
  have h3:=H1.out.reput him1 hni (Nat.le_refl _) (Nat.le_trans hszc K3.size) hc3 hN2 hN2' hmp3 (fun k h1 h2 h3=>(K3.block k (by omega) h3).trans (hkk.block k h1 h2)) hown3 hmn1 ⟨hbn1,hbn21⟩ hkl
  have hsz3:w1.heap.size≤w3.heap.size:=Nat.le_trans hszc K3.size
  have hK3:Hid (Keeps (Ft cb mb (some ⟨nb,0,none⟩)) w w3):=Lib.hid ((HK1.out.then hkk (fun k _ hk=> .inr (.inr (by rw[hk])))).then K3 fun k _ hk=> .inr (.inl hk))
  have H3:=Lib.hid h3
  have hpy:Pl m y1:=by rw[H1.out.ch.y_];exact lstD_pl H1.out.lt
  have hyi:y1≠(i:Int):=by
   rw[H1.out.ch.y_]
   intro e2
   rcases nil_or_snoc (post)with e | ⟨l',x,e⟩
   ·rw[e,lstD_nil]at e2;omega
   ·rw[e,lstD_snoc]at e2
    exact hni (by rw[e];simp;omega)
  clear h3 hmc f1 hmp3 hgr3
  go_wp2_with (fail)
  refine(link_calls _ hc3 i him1 hpy hyi).mono ?_
  rintro en w4 ⟨rfl,hc4,hk4⟩
  have hlt4:∀k∈post++ [i],k<m:=by
   intro k hk
   rcases List.mem_append.1 hk with h | h
   ·exact H1.out.lt k h
   ·simp at h;omega
  have h4:=H3.out.relink (Nat.le_refl _) hmn1 ⟨hbn1,by omega⟩ hc4 hk4 (lnkN_held N2 i y1) (H3.out.ch.link hni) hlt4
  have HH:∀j,(lnkN N2 i y1 j).held=(N2 j).held:=fun j=>lnkN_held N2 i y1 j
  go_wp2_with (fail)
  go_end0
  refine⟨rfl,nb,_,_,_,_,h4.up hk4.size,fun j hj=> ?_,?_,?_,?_,hno⟩
  ·rw[HH,hN2' j hj];exact HKEY j hj
  ·have:=HH i;simp only[Nd.held,Prod.mk.injEq]at this;rw[this.1,hN2]
  ·intro ad had
   have h9:=HH i
   simp only[Nd.held,Prod.mk.injEq]at h9
   rw[h9.2.1,hN2]at had
   have h10:vo=some ad:=had
   exact Nat.le_trans HK1.out.size (hown3.from ad h10)
  ·exact hK3.out.then hk4 fun k hkl' hk=>by
    rcases hk with h | h
    ·exact .inl h
    ·rcases hno with h' | h'
     ·exact .inr (.inr (by rw[h',h]))
     ·omega
end
def OwnS (w:World) (base:Nat) (v:Value) (ks:List ByteArray):Prop:=w.ownsRow base 9 1 v ks.length (ks.map .string)
theorem OwnS.len {w:World} {base:Nat} {vo:Option Addr} {n vc:Nat} {ks:List ByteArray} (h:OwnS w base (.slice vo n vc) ks):n=ks.length:=by
 obtain⟨_,h2⟩:=h
 rcases h2 with⟨hv,hn⟩ | ⟨g,cap,cur,hv,_⟩
 ·simp at hv;omega
 ·simp at hv;omega
theorem OwnS.cell {w:World} {base:Nat} {vo:Option Addr} {n vc:Nat} {ks:List ByteArray} (h:OwnS w base (.slice vo n vc) ks) {i:Nat} (hi:i<n):n≤vc∧vc≤maxLen∧∃g,vo=some ⟨g,0,none⟩∧base≤g∧g<w.heap.size∧w.cell? ⟨g,i,none⟩=some (.string (ks.getD i ByteArray.empty)):=by
 have hn:=h.len
 obtain⟨h1,h2⟩:=id h
 rcases h2 with⟨hv,hn⟩ | ⟨g,cap,cur,hv,hg,hh,hle,hm,hs,ht⟩
 ·simp at hv;omega
 ·simp at hv
  obtain⟨rfl,hnn,rfl⟩:=hv
  have hlt:g<w.heap.size:=by
   rcases Nat.lt_or_ge g w.heap.size with h' | h'
   ·exact h'
   ·rw[Array.getElem?_eq_none h']at hh;cases hh
  refine⟨by omega,hm,g,rfl,hg,hlt,?_⟩
  have e1:=World.ownsRow.cells h (g:=g) rfl i (.string (ks.getD i ByteArray.empty)) (by rw[List.getElem?_map,List.getElem?_eq_getElem (by omega)];simp[List.getD,List.getElem?_eq_getElem (show i<ks.length by omega)])
  rw[Addr.add_lit,Nat.zero_add]at e1
  exact e1
theorem OwnS.below {w w':World} {base:Nat} {v:Value} {ks:List ByteArray} (h:OwnS w base v ks) (hb:Below w.heap.size w w'):OwnS w' base v ks:=by
 obtain⟨h1,h2⟩:=h
 rcases h2 with h2 | ⟨g,cap,cur,e,hg,hh,r⟩
 ·exact⟨h1, .inl h2⟩
 ·have hlt:g<w.heap.size:=by
   rcases Nat.lt_or_ge g w.heap.size with h' | h'
   ·exact h'
   ·rw[Array.getElem?_eq_none h']at hh;cases hh
  exact⟨h1, .inr ⟨g,cap,cur,e,hg,(hb.block g hlt).trans hh,r⟩⟩
section
variable {w:World} {base top cb mb m cap sz:Nat} {no:Option Addr} {N:Nat→Nd} {e y room hits misses:Int} {ord:List Nat} {f:ByteArray→Option Int} {R:Nat→List Int}
end
theorem put_zero {w:World} {base top cb mb m cap sz:Nat} {no:Option Addr} {N:Nat→Nd} {e y hits misses:Int} {ord:List Nat} {f:ByteArray→Option Int} {R:Nat→List Int} (h:CSt w base top cb mb no m cap N e y 0 hits misses ord sz f R) (key:ByteArray) (ao:Option Addr) (n c:Nat):
  Calls Tryz.prog 119 #[.pointer (some ⟨cb,0,none⟩), .string key, .slice ao n c] w fun en w'=>en= .returned (.tuple #[])∧Below w.heap.size w w':=by
 have f4:=h.fl.f4
 clear h
 go_enter Tryz.func119,Tryz.ntmps119
 go_wp2
 refine bodyPost_ret (results_none rfl _ _ _) rfl ⟨rfl,Below.refl _ _⟩
abbrev Row:=ByteArray×List Int
structure Good (ord:List Nat) (N:Nat→Nd) (R:Nat→List Int) (sz m:Nat) (f:ByteArray→Option Int):Prop where
 len:ord.length=sz
 m_:m=sz
 at_:∀s c,f s=some c↔∃i∈ord,c=(i:Int)∧(N i).key=s
 lim:∀i∈ord,(R i).length≤1048576
def CRep (w:World) (base top cb mb:Nat) (no:Option Addr) (l:List Row) (room hits misses:Int):Prop:=
 ∃m cap N e y ord sz f R,CSt w base top cb mb no m cap N e y room hits misses ord sz f R∧Good ord N R sz m f∧l=ord.map fun i=>((N i).key,R i)
def young (l:List Row) (k:ByteArray) (A:List Int):List Row:=l.filter (fun p=>p.1≠k)++ [(k,A)]
def putL (l:List Row) (room:Int) (k:ByteArray) (A:List Int):List Row:=if((young l k A).length:Int)>room then(young l k A).drop 1 else young l k A
theorem Good.inj {ord:List Nat} {N:Nat→Nd} {R:Nat→List Int} {sz m:Nat} {f:ByteArray→Option Int} (h:Good ord N R sz m f) {i j:Nat} (hi:i∈ord) (hj:j∈ord) (e:(N i).key=(N j).key):i=j:=by
 have h1:=(h.at_ (N i).key i).2 ⟨i,hi,rfl,rfl⟩
 have h2:=(h.at_ (N i).key j).2 ⟨j,hj,rfl,e.symm⟩
 rw[h1]at h2
 simp at h2
 omega
theorem Good.miss {ord:List Nat} {N:Nat→Nd} {R:Nat→List Int} {sz m:Nat} {f:ByteArray→Option Int} (h:Good ord N R sz m f) {k:ByteArray}:f k=none↔∀i∈ord,(N i).key≠k:=by
 constructor
 ·intro hf i hi e
  have:=(h.at_ k i).2 ⟨i,hi,rfl,e⟩
  rw[hf]at this;cases this
 ·intro hall
  cases hf:f k with
  | none=>rfl
  | some c=>
   obtain⟨i,hi,_,e⟩:=(h.at_ k c).1 hf
   exact absurd e (hall i hi)
theorem filter_none {ord:List Nat} {N:Nat→Nd} {R:Nat→List Int} {k:ByteArray} (h:∀i∈ord,(N i).key≠k):(ord.map fun i=>((N i).key,R i)).filter (fun p=>p.1≠k)=ord.map fun i=>((N i).key,R i):=by
 rw[List.filter_eq_self]
 intro p hp
 obtain⟨i,hi,rfl⟩:=List.mem_map.1 hp
 simpa using h i hi
theorem young_old {pre post:List Nat} {i:Nat} {N N':Nat→Nd} {R R':Nat→List Int} {k:ByteArray} {A:List Int} (hk:(N i).key=k) (hne:∀j∈pre++post,(N j).key≠k) (hN:∀j∈pre++post,(N' j).key=(N j).key∧R' j=R j) (hi:(N' i).key=k) (hA:R' i=A):
  young ((pre++i::post).map fun i=>((N i).key,R i)) k A=(pre++post++ [i]).map fun i=>((N' i).key,R' i):=by
 unfold young
 rw[List.map_append,List.map_cons,List.filter_append,List.filter_cons]
 rw[filter_none fun j hj=>hne j (by simp[hj]),filter_none fun j hj=>hne j (by simp[hj])]
 simp only[hk,ne_eq,not_true_eq_false,decide_false,Bool.false_eq_true,if_false]
 rw[List.map_append,List.map_append,List.map_cons,List.map_nil,hi,hA]
 congr 1
 congr 1
 ·exact List.map_congr_left fun j hj=>by rw[(hN j (by simp[hj])).1,(hN j (by simp[hj])).2]
 ·exact List.map_congr_left fun j hj=>by rw[(hN j (by simp[hj])).1,(hN j (by simp[hj])).2]
theorem young_new {ord:List Nat} {i:Nat} {N N':Nat→Nd} {R R':Nat→List Int} {k:ByteArray} {A:List Int} (hne:∀j∈ord,(N j).key≠k) (hN:∀j∈ord,(N' j).key=(N j).key∧R' j=R j) (hi:(N' i).key=k) (hA:R' i=A):
  young (ord.map fun i=>((N i).key,R i)) k A=(ord++ [i]).map fun i=>((N' i).key,R' i):=by
 unfold young
 rw[filter_none hne,List.map_append,List.map_cons,List.map_nil,hi,hA]
 congr 1
 exact List.map_congr_left fun j hj=>by rw[(hN j hj).1,(hN j hj).2]
theorem mem_mid {pre post:List Nat} {i j:Nat}:j∈pre++i::post↔j=i∨j∈pre++post:=by
 simp only[List.mem_append,List.mem_cons]
 constructor
 ·rintro(h | h | h)
  ·exact .inr (.inl h)
  ·exact .inl h
  ·exact .inr (.inr h)
 ·rintro(h | h | h)
  ·exact .inr (.inl h)
  ·exact .inl h
  ·exact .inr (.inr h)
theorem mem_end {l:List Nat} {i j:Nat}:j∈l++ [i]↔j=i∨j∈l:=by
 simp only[List.mem_append,List.mem_singleton]
 exact Or.comm
theorem at_put {ordA:List Nat} {N N':Nat→Nd} {i:Nat} {key:ByteArray} {fA:ByteArray→Option Int} (h1:∀s c,s≠key→(fA s=some c↔∃j∈ordA,c=(j:Int)∧(N j).key=s)) (h2:∀j∈ordA,(N j).key≠key) (h3:i∉ordA)
  (hN:∀j,j≠i→(N' j).key=(N j).key) (hi:(N' i).key=key) (s:ByteArray) (c:Int):(if s=key then some (i:Int)else fA s)=some c↔∃j∈ordA++ [i],c=(j:Int)∧(N' j).key=s:=by
 have hne:∀j∈ordA,j≠i:=fun j hj e=>h3 (e▸hj)
 by_cases e:s=key
 ·subst e
  rw[if_pos rfl]
  constructor
  ·intro h
   simp at h
   exact⟨i,by simp,h.symm,hi⟩
  ·rintro⟨j,hj,rfl,hk⟩
   rcases List.mem_append.1 hj with h | h
   ·rw[hN j (hne j h)]at hk;exact absurd hk (h2 j h)
   ·simp at h;rw[h]
 ·rw[if_neg e,h1 s c e]
  constructor
  ·rintro⟨j,hj,rfl,hk⟩
   exact⟨j,by simp[hj],rfl,by rw[hN j (hne j hj)];exact hk⟩
  ·rintro⟨j,hj,rfl,hk⟩
   rcases List.mem_append.1 hj with h | h
   ·exact⟨j,h,rfl,by rw[←hN j (hne j h)];exact hk⟩
   ·simp at h;subst h;rw[hi]at hk;exact absurd hk.symm e
section
variable {w:World} {base top cb mb:Nat} {no:Option Addr} {l:List Row} {room hits misses:Int}
theorem CRep.below {w':World} (h:CRep w base top cb mb no l room hits misses) (hb:Below top w w'):CRep w' base top cb mb no l room hits misses:=
 let ⟨m,cap,N,e,y,ord,sz,f,R,hc,hg,hl⟩:=h
 ⟨m,cap,N,e,y,ord,sz,f,R,hc.below hb,hg,hl⟩
theorem CRep.up {top':Nat} (h:CRep w base top cb mb no l room hits misses) (ht:top≤top'):CRep w base top' cb mb no l room hits misses:=
 let ⟨m,cap,N,e,y,ord,sz,f,R,hc,hg,hl⟩:=h
 ⟨m,cap,N,e,y,ord,sz,f,R,hc.up ht,hg,hl⟩
theorem crep_new (room:Int) (h0:0≤room) (h1:room≤1048576) (w:World):
  Calls Tryz.prog 49 #[.int .i64 room] w fun en w'=>∃cb mb,en= .returned (.pointer (some ⟨cb,0,none⟩))∧
   CRep w' w.heap.size w'.heap.size cb mb none [] room 0 0∧Below w.heap.size w w':=by
 refine(new_yes room h0 h1 w (fun _=>[])).mono ?_
 rintro en w' ⟨cb,mb,rfl,hc,hb⟩
 exact⟨cb,mb,rfl,⟨_,_,_,_,_,_,_,_,_,hc,⟨rfl,rfl,fun s c=>by simp,fun i hi=>by simp at hi⟩,rfl⟩,hb⟩
theorem crep_counts (h:CRep w base top cb mb no l room hits misses):
  Calls Tryz.prog 61 #[.pointer (some ⟨cb,0,none⟩)] w fun en w'=>en= .returned (.tuple #[.int .i64 hits, .int .i64 misses])∧Below w.heap.size w w':=
 let ⟨m,cap,N,e,y,ord,sz,f,R,hc,hg,hl⟩:=h
 counts_calls hc
theorem crep_zero (h:CRep w base top cb mb no l 0 hits misses) (key:ByteArray) (ao:Option Addr) (n c:Nat):
  Calls Tryz.prog 119 #[.pointer (some ⟨cb,0,none⟩), .string key, .slice ao n c] w fun en w'=>en= .returned (.tuple #[])∧Below w.heap.size w w':=
 let ⟨m,cap,N,e,y,ord,sz,f,R,hc,hg,hl⟩:=h
 put_zero hc key ao n c
end
structure SlF (s:Nat) (w:World) (ao:Option Addr) (n cap:Nat) (xs:List Value):Prop where
 len:xs.length=n*s
 le:n≤cap
 max:cap≤maxLen
 nil:ao= .none→cap=0
 at_:∀i u,xs[i]?=some u→∃b o,ao=some ⟨b,o, .none⟩∧w.cell? ⟨b,o+i, .none⟩=some u
theorem SlF.stay {s:Nat} {w w':World} {ao:Option Addr} {n cap:Nat} {xs:List Value} (h:SlF s w ao n cap xs) (hc:∀p u,w.cell? p=some u→w'.cell? p=some u):SlF s w' ao n cap xs:=
 ⟨h.len,h.le,h.max,h.nil,fun i u hu=>let ⟨b,o,e,c⟩:=h.at_ i u hu;⟨b,o,e,hc _ _ c⟩⟩
theorem SlF.below {s:Nat} {w w':World} {ao:Option Addr} {n cap:Nat} {xs:List Value} (h:SlF s w ao n cap xs) (hb:Below w.heap.size w w'):SlF s w' ao n cap xs:=h.stay (cell_below hb)
theorem SlF.alloc {s:Nat} {w:World} {ao:Option Addr} {n cap:Nat} {xs:List Value} (h:SlF s w ao n cap xs) (o:Obj):SlF s (w.alloc o) ao n cap xs:=h.below (below_alloc w o)
theorem SlF.drewN {s:Nat} {w:World} {ao:Option Addr} {n cap:Nat} {xs:List Value} (h:SlF s w ao n cap xs) (k:Nat):SlF s (w.drewN k) ao n cap xs:=h.stay fun _ _ h=>h
theorem SlF.drew {s:Nat} {w:World} {ao:Option Addr} {n cap:Nat} {xs:List Value} (h:SlF s w ao n cap xs):SlF s w.drew ao n cap xs:=h.stay fun _ _ h=>h
theorem SlF.keep0 {s:Nat} {w w':World} {ao:Option Addr} {n cap:Nat} {xs:List Value} (h:SlF s w ao n cap xs) (hb:∀ad,ao=some ad→0<n→w'.heap[ad.block]?=w.heap[ad.block]?):SlF s w' ao n cap xs:=
 ⟨h.len,h.le,h.max,h.nil,fun i u hu=>let ⟨b,o,e,c⟩:=h.at_ i u hu;⟨b,o,e,by
  have hl:=h.len
  have h1:=(List.getElem?_eq_some_iff.1 hu).1
  have h0:0<n:=by
   rcases Nat.eq_zero_or_pos n with h' | h'
   ·subst h';rw[Nat.zero_mul]at hl;omega
   ·exact h'
  rw[World.cell?_of_block (w:=w) (a:=⟨b,o+i, .none⟩) (hb ⟨b,o, .none⟩ e h0)];exact c⟩⟩
theorem SlF.lt {s:Nat} {w:World} {ao:Option Addr} {n cap:Nat} {xs:List Value} (h:SlF s w ao n cap xs) (h0:0<s):∀ad,ao=some ad→0<n→ad.block<w.heap.size:=by
 intro ad e hn
 have hl:=h.len
 have hp:0<xs.length:=by rw[hl];exact Nat.mul_pos hn h0
 obtain⟨b,o,e',hc⟩:=h.at_ 0 _ (List.getElem?_eq_getElem hp)
 rw[e]at e'
 cases e'
 exact World.block_lt_of_cell? w _ hc
theorem SlF.nothing {s:Nat} (w:World):SlF s w .none 0 0 []:=⟨by simp,Nat.le_refl _,by unfold maxLen;omega,fun _=>rfl,fun _ _ h=>by simp at h⟩
theorem SlF.drop {s:Nat} {w:World} {ao:Option Addr} {n cap:Nat} {xs:List Value} (h:SlF s w ao n cap xs) {k:Nat} (hk:k≤n):
  SlF s w (if cap=k then ao else ao.map (·.add (k*s))) (n-k) (cap-k) (xs.drop (k*s)):=by
 have hl:=h.len
 have:=h.le
 have:=h.max
 refine⟨by rw[List.length_drop,hl,Nat.sub_mul],by omega,by omega,?_,fun i u hu=> ?_⟩
 ·intro e
  split at e
  ·omega
  ·simp at e
   have:=h.nil e
   omega
 ·rw[List.getElem?_drop]at hu
  obtain⟨b,o,e,hc⟩:=h.at_ _ _ hu
  have h1:k*s+i<n*s:=by have:=(List.getElem?_eq_some_iff.1 hu).1;omega
  have h2:k<n:=by
   rcases Nat.lt_or_ge k n with h' | h'
   ·exact h'
   ·have:=Nat.mul_le_mul_right s h';omega
  rw[if_neg (by omega),e]
  exact⟨b,o+k*s,by simp[Addr.add_lit],by rw[←hc,Nat.add_assoc]⟩
theorem SlF.of_own {s:Nat} {w:World} {base:Nat} {e:TypeId} {v:Value} {n:Nat} {xs:List Value} (h:w.ownsRow base e s v n xs):∃ao cap,v= .slice ao n cap∧SlF s w ao n cap xs:=by
 have hcell:=fun(g:Nat) (hg:v.ownBlock=some g)=>h.cells hg
 obtain⟨h1,h2⟩:=h
 rcases h2 with⟨rfl,rfl⟩ | ⟨g,cap,cur,rfl,hg,hh,hn,hm,hs,ht⟩
 ·have:xs= []:=List.eq_nil_of_length_eq_zero (by simpa using h1)
  subst this
  exact⟨_,_,rfl,SlF.nothing _⟩
 ·refine⟨_,_,rfl,⟨by simpa using h1,hn,hm,by simp,fun i u hu=>⟨g,0,rfl,?_⟩⟩⟩
  have:=hcell g rfl i u hu
  rw[Addr.add_lit]at this
  simpa using this
section
variable {α:Type} {enc:α→List Value} {s:Nat}
def flat (enc:α→List Value) (L:List α):List Value:=L.flatMap enc
theorem flat_nil:flat enc []= []:=rfl
theorem flat_cons (x:α) (L:List α):flat enc (x::L)=enc x++flat enc L:=by simp[flat]
theorem flat_append (L M:List α):flat enc (L++M)=flat enc L++flat enc M:=by simp[flat]
theorem flat_one (x:α):flat enc [x]=enc x:=by simp[flat]
theorem flat_len (hs:∀x,(enc x).length=s) (L:List α):(flat enc L).length=L.length*s:=by
 induction L with
 | nil=>simp[flat]
 | cons x L ih=>rw[flat_cons,List.length_append,ih,hs,List.length_cons,Nat.add_mul];omega
theorem flat_at (hs:∀x,(enc x).length=s):∀{L:List α} {k j:Nat} {x:α},L[k]?=some x→j<s→(flat enc L)[k*s+j]?=(enc x)[j]?
 | [],k,j,x,h,_=>by simp at h
 | y::L,0,j,x,h,hj=>by
  simp at h
  subst h
  rw[flat_cons,List.getElem?_append_left (by rw[hs];omega)]
  simp
 | y::L,k+1,j,x,h,hj=>by
  rw[flat_cons,List.getElem?_append_right (by rw[hs,Nat.add_mul];omega),hs]
  have:=flat_at hs (L:=L) (k:=k) (j:=j) (x:=x) (by simpa using h) hj
  rw[←this]
  congr 1
  rw[Nat.add_mul]
  omega
theorem flat_drop (hs:∀x,(enc x).length=s):∀(L:List α) (k:Nat),flat enc (L.drop k)=(flat enc L).drop (k*s)
 | [],k=>by simp[flat]
 | y::L,0=>by simp
 | y::L,k+1=>by
  rw[flat_cons,List.drop_succ_cons,flat_drop hs L k]
  have e:(k+1)*s=(enc y).length+k*s:=by rw[hs,Nat.add_mul];omega
  rw[e,←List.drop_drop,List.drop_left]
theorem SlF.elem {w:World} {ao:Option Addr} {n cap:Nat} {L:List α} (h:SlF s w ao n cap (flat enc L)) (hs:∀x,(enc x).length=s) (h0:0<s) {k:Nat} {x:α} (hk:L[k]?=some x):
  ∃b o,ao=some ⟨b,o, .none⟩∧∀j u,(enc x)[j]?=some u→w.cell? ⟨b,o+k*s+j, .none⟩=some u:=by
 have hu0:∃u,(enc x)[0]?=some u:=⟨(enc x)[0]'(by rw[hs];exact h0),List.getElem?_eq_getElem _⟩
 obtain⟨u0,hu0⟩:=hu0
 obtain⟨b,o,e,_⟩:=h.at_ (k*s+0) u0 (by rw[flat_at hs hk h0];exact hu0)
 refine⟨b,o,e,fun j u hu=> ?_⟩
 have hj:j<s:=by have:=(List.getElem?_eq_some_iff.1 hu).1;rw[hs]at this;exact this
 obtain⟨b',o',e',hc⟩:=h.at_ (k*s+j) u (by rw[flat_at hs hk hj];exact hu)
 rw[e]at e'
 simp at e'
 obtain⟨rfl,rfl⟩:=e'
 rw[Nat.add_assoc]
 exact hc
theorem SlF.count {w:World} {ao:Option Addr} {n cap:Nat} {L:List α} (h:SlF s w ao n cap (flat enc L)) (hs:∀x,(enc x).length=s) (h0:0<s):L.length=n:=by
 have:=h.len
 rw[flat_len hs]at this
 exact Nat.eq_of_mul_eq_mul_right h0 this
def OwnF (enc:α→List Value) (s:Nat) (e:TypeId) (w:World) (base:Nat) (v:Value) (L:List α):Prop:=w.ownsRow base e s v L.length (flat enc L)
variable {e:TypeId}
theorem OwnF.sl {w:World} {base:Nat} {v:Value} {L:List α} (h:OwnF enc s e w base v L):∃ao cap,v= .slice ao L.length cap∧SlF s w ao L.length cap (flat enc L):=SlF.of_own h
theorem OwnF.nil (w:World) (base:Nat):OwnF enc s e w base (.slice .none 0 0) []:=World.ownsRow_nil _ _ _ _
theorem OwnF.made0 (w:World):OwnF enc s e (w.alloc (.cells #[] e)) w.heap.size (.slice (some ⟨w.heap.size,0, .none⟩) 0 0) []:=
 World.ownsRow_made w #[] 0 (Nat.le_refl _) (by unfold maxLen;omega) (by simp)
theorem OwnF.alloc {w:World} {base:Nat} {v:Value} {L:List α} (h:OwnF enc s e w base v L) (o:Obj):OwnF enc s e (w.alloc o) base v L:=World.ownsRow.alloc h o
theorem OwnF.mono {w:World} {base base':Nat} {v:Value} {L:List α} (h:OwnF enc s e w base v L) (hb:base'≤base):OwnF enc s e w base' v L:=by
 obtain⟨h1,h2⟩:=h
 refine⟨h1,?_⟩
 rcases h2 with h2 | ⟨g,cap,cur,hv,hg,r⟩
 ·exact .inl h2
 ·exact .inr ⟨g,cap,cur,hv,by omega,r⟩
theorem OwnF.below {w w':World} {base:Nat} {v:Value} {L:List α} (h:OwnF enc s e w base v L) (hb:Below w.heap.size w w'):OwnF enc s e w' base v L:=by
 have hlt:=World.ownsRow.lt h
 obtain⟨h1,h2⟩:=h
 refine⟨h1,?_⟩
 rcases h2 with h2 | ⟨g,cap,cur,hv,hg,hh,r⟩
 ·exact .inl h2
 ·exact .inr ⟨g,cap,cur,hv,hg,by rw[hb.block g (hlt g (by rw[hv];rfl)).2];exact hh,r⟩
theorem OwnF.drewN {w:World} {base:Nat} {v:Value} {L:List α} (h:OwnF enc s e w base v L) (k:Nat):OwnF enc s e (w.drewN k) base v L:=h.below (below_drewN (Below.refl _ _) k)
theorem SlF.one (hs:∀x,(enc x).length=s) (w:World) (x:α) (t:TypeId) {cs:Array Value} (hcs:cs.toList=enc x):SlF s (w.alloc (.cells cs t)) (some ⟨w.heap.size,0, .none⟩) 1 1 (flat enc [x]):=by
 refine⟨by rw[flat_one,hs,Nat.one_mul],Nat.le_refl _,by unfold maxLen;omega,by simp,fun i u hu=>⟨_,_,rfl,?_⟩⟩
 rw[flat_one,←hcs]at hu
 simp
 simpa using hu
theorem wpList_flat_app {P:Program} {w:World} {ops:Array Oper} {rest:List Oper} {o:Oper} {a:Act} {Q:Exit→Act→World→Prop} (hgd:o.guard= .none) (y x:Operand) (t:TypeId)
  (ho:o.op= .call {callee:= .builtin .append,args:=#[y,x],argTypes:=#[t,t]})
  {base:Nat} (i:TypeInfo) (z:Value) (bytes:Nat) (ht:P.underlying t=some (.slice e)) (hi:P.info? e=some i) (hz:i.zero=some z)
  (hsize:i.size=s) (hby:i.bytes=bytes) (hzs:z.cells.size=s) (hs:∀x,(enc x).length=s) (h0:0<s) (hone:∀x,∀u∈enc x,u.oneCell'=true)
  {v:Value} {L M:List α} (hy:a.eval y=v) (hown:OwnF enc s e w base v L)
  {ao:Option Addr} {m c:Nat} (hx:a.eval x= .slice ao m c) (hl:SlF s w ao m c (flat enc M))
  (h63:L.length+m≤maxLen) (hbytes:(L.length+m)*bytes≤140737488355328) (hbase:base≤w.heap.size)
  (h:∀v' w',OwnF enc s e w' base v' (L++M)→w.grownBy w' v.ownBlock→Below base w w'→wpList P ops Q rest (a.put o.dst v') w'):wpList P ops Q (o::rest) a w:=by
 have hM:=hl.count hs h0
 have hlt:=World.ownsRow.lt hown
 have fin:∀v' w',w'.ownsRow base e s v' (L.length+m) (flat enc L++flat enc M)→w.grownBy w' v.ownBlock→wpList P ops Q rest (a.put o.dst v') w':=fun v' w' h1 h2=>
  h v' w' (by unfold OwnF;rw[List.length_append,hM,flat_append];exact h1) h2 ((Below.refl _ _).grown h2 hbase fun k hk=>(hlt k hk).1)
 cases ao with
 | none=>
  have hc:=hl.nil rfl
  have hm:m=0:=by have:=hl.le;omega
  subst hc hm
  have hn:M= []:=List.eq_nil_of_length_eq_zero hM
  subst hn
  refine wpList_append_own_none hgd y x t ho base e i s ht hi v L.length _ hy hown hx ?_
  exact fin v w (by rw[flat_nil,List.append_nil];exact hown) (World.grownBy.refl _ _)
 | some ad=>
  refine wpList_append_own _ hgd y x t ho base e i z s bytes ht hi hz hsize hby hzs h0 v L.length _ hy hown ad m c (flat enc M) hx (by rw[flat_len hs,hM]) ?_ ?_ h63 hbytes hbase (fun v' w' h1 h2 _=>fin v' w' h1 h2)
  ·intro j u hu
   obtain⟨b,of,e,hc⟩:=hl.at_ j u hu
   obtain rfl:=Option.some.inj e
   rw[Addr.add_lit];exact hc
  ·intro u hu
   obtain⟨q,_,hq⟩:=List.mem_flatMap.1 hu
   exact hone q u hq
theorem wpList_flat_low {P:Program} {w:World} {ops:Array Oper} {rest:List Oper} {o:Oper} {a:Act} {Q:Exit→Act→World→Prop} (hgd:o.guard= .none) (t:TypeId) (x l:Operand)
  (ho:o.op= .slice t x (some l) .none .none) (i:TypeInfo) (ht:P.underlying t=some (.slice e)) (hi:P.info? e=some i) (hsz:i.size=s) (hs:∀x,(enc x).length=s)
  {ao:Option Addr} {n cap:Nat} {L:List α} (hx:a.eval x= .slice ao n cap) (hS:SlF s w ao n cap (flat enc L)) {kl:IntKind} {K:Int} {k:Nat} (hl:a.eval l= .int kl K) (hL:K=(k:Int)) (hk:k≤n)
  (h:∀ao',SlF s w ao' (n-k) (cap-k) (flat enc (L.drop k))→(∀ad',ao'=some ad'→∃ad,ao=some ad∧ad'.block=ad.block)→wpList P ops Q rest (a.put o.dst (.slice ao' (n-k) (cap-k))) w):wpList P ops Q (o::rest) a w:=by
 subst hL
 refine wpList_val hgd (v:= .slice (if cap=k then ao else ao.map (·.add (k*s))) (n-k) (cap-k)) (w':=w) ?_ (h _ (by rw[flat_drop hs];exact hS.drop hk) (by
  intro ad' e
  split at e
  ·exact⟨ad',e,rfl⟩
  ·cases ao with
   | none=>simp at e
   | some ad=>simp at e;subst e;exact⟨ad,rfl,by simp[Addr.add];split<;>rfl⟩))
 have hr:=run_sliceAt_lh ht hi w ao n cap (some (.int kl k)) .none k n (fun w=>by simp[Instr.sliceBounds,run_sliceBound,hk])
 simp only[execOp,ho,hx,hl,Option.map_some,Option.map_none,Sem.run_bind,hr,Result.andThen_ok,Sem.run_pure,hsz]
end
end Go.Proofs.YtimkkkdabmhedaaGreatDoor
