/- Walk: Put, once more: what the rows' blocks are. (Printed by gPutB.py.) -/
import Derived.Test.YtahiballegpbgaaGreatDoorR20
import Derived.Deep.RegionHeld3
import Derived.Deep.CutRange
import Derived.WalkArith
import Derived.Deep.DeepCutAuto
import Derived.Test.YtahiballegpbgaaGreatDoorR30
set_option linter.unusedVariables false
set_option maxHeartbeats 4000000
set_option maxRecDepth 100000
namespace Go.Proofs.YtahiballegpbgaaGreatDoor
open Go.RowKit
set_option linter.unusedSimpArgs false
theorem Own.from {w:World} {base:Nat} {vo:Option Addr} {n vc:Nat} {A:List Int} (h:Own w base (.slice vo n vc) A) (ad:Addr) (e:vo=some ad):base<=ad.block:=by
 subst e;obtain⟨_,h2⟩:=h.block;rcases h2 with⟨h3,_⟩ | ⟨g,cur,h3,h4,_⟩
 ·cases h3
 ·simp at h3;subst h3;exact h4
def aBI (w:World) (base cb mb:Nat) (no:Option Addr) (N:Nat->Nd) (room hits misses:Int) (i:Nat) (key:ByteArray) (m':Nat) (ord':List Nat) (sz':Nat) (f':ByteArray->Option Int) (R':Nat->List Int) (w':World):Prop:=
 ∃g cap' N' e' y',CSt w' base w'.heap.size cb mb (some ⟨g,0,none⟩) m' cap' N' e' y' room hits misses ord' sz' f' R'/\
  (∀j,j≠i->(N' j).held=(N j).held)/\(N' i).key=key/\(∀ad,(N' i).ro=some ad->w.heap.size<=ad.block)/\dA (Ft cb mb no) w w'/\At no g w.heap.size
section
variable {w:World} {base cb mb m cap sz:Nat} {no:Option Addr} {N:Nat->Nd} {e y room hits misses:Int} {ord:List Nat} {f:ByteArray->Option Int} {R:Nat->List Int}
theorem put_oldB {pre post ord1:List Nat} {i:Nat} (h:CSt w base w.heap.size cb mb no m cap N e y room hits misses (pre++i::post) sz f R) (key:ByteArray) (hkl:key.size<=maxLen) (hroom:0<room)
  {ao:Option Addr} {n c:Nat} {A:List Int} (hA:SlI w ao n c A) (hAo:∀ad,ao=some ad->0<n->ad.block<w.heap.size/\¬Ft cb mb no ad.block) (hlim:n<=1048576) (hsz:sz<1048576) (hf:f key=some (i:Int)) (hord:pre++post=ord1):
  Calls Tryz.prog 186 #[.pointer (some ⟨cb,0,none⟩), .string key, .slice ao n c] w fun en w'=>en= .returned (.tuple #[])/\aBI w base cb mb no N room hits misses i key m (ord1++ [i]) sz (fun t=>if t=key then some (i:Int)else f t) (upd R i A) w':=by
 have him:i<m:=h.lt i (by simp);obtain⟨nb,rfl,hc,hmn,hbn,hbn2⟩:=h.cmem (by omega);obtain⟨hel,hyo⟩:=h.ch.at_ pre i post rfl;have hpost:∀k∈pre++post,k<m:=fun k hk=>h.lt k (by simp at hk |-;rcases hk with h | h<;>simp[h])
 have pel:Pl m (N i).el:=by rw[hel];exact bL fun k hk=>hpost k (by simp[hk])
 have pyo:Pl m (N i).yo:=by rw[hyo];exact aBp fun k hk=>hpost k (by simp[hk])
 have hni:i∉pre++post:=by
  have:=h.ch.nd;have h2:(i::(pre++post)).Nodup:=(List.perm_middle.nodup_iff).1 this;exact(List.nodup_cons.1 h2).1
 obtain⟨f0,f1,f2,f3,f4,f5,f6,ff⟩:=id h.fl;have hmp:=h.mp;have hr1:(room==0)=false:=by simp;omega
 have HC:=hW_ h;clear h;go_enter Tryz.func186,Tryz.ntmps186;go_wp2_with (with_reducible show wpList _ _ _ (⟨_, .lookup _ _ _ _,_,_,_,_⟩::_) _ _;refine E1 rfl _ _ rfl rfl hmp rfl hkl ?_;rw[hf]);refine(I9 w hc i him pel pyo).mono ?_
 rintro en w1 ⟨rfl,hc1,hk1⟩;rw[hord]at hni;have H1:=hW_ ((HC.out.relink (ord':=ord1) (Nat.le_refl _) hmn ⟨hbn,hbn2⟩ hc1 hk1 (jF N i) (by rw[<-hord];exact HC.out.ch.unlink) (by rw[<-hord];exact hpost)).up hk1.size);have HK1:Hid (dA (Ft cb mb (some ⟨nb,0,none⟩)) w w1):=hW_ (hk1.mono fun k _ hk=>by
  rcases hk with h | h
  ·exact .inl h
  ·exact .inr (.inr (by rw[h])))
 have hno:At (some (⟨nb,0,none⟩:Addr)) nb w.heap.size:= .inl rfl;have him1:i<m:=him;have HKEY:∀j,j≠i->(gM N i j).held=(N j).held:=fun j _=>jF N i j
 clear hord hc1 hk1 hc f0 f1 f2 f3 f4 f5 f6 ff hmp;generalize gM N i=N1 at H1 HKEY;generalize (if(N i).el= -1 then(N i).yo else e)=e1 at H1;generalize (if(N i).yo= -1 then(N i).el else y)=y1 at H1;obtain⟨hc1,hmn1,hbn1,hbn21⟩:=H1.out.cmem' (by omega);have hA1:SlI w1 ao n c A:=hA.keep0 fun ad e h0=>HK1.out.block _ (hAo ad e h0).1 (hAo ad e h0).2
 have hne1:∀ad,ao=some ad->0<n->ad.block≠nb:=by
  intro ad e h0 e2;rcases hno with h | h
  ·exact(hAo ad e h0).2 (.inr (.inr (by rw[h,e2])))
  ·have:=(hAo ad e h0).1;omega
 have hA1k:SlI (w1.setCell ⟨nb,i*4,none⟩ (.string key)).drew ao n c A:=hA1.keep0 fun ad e h0=>cA (hne1 ad e h0)
 have HC1:=hW_ hc1;have HCk:=hW_ (hc1.setKey him1 key);obtain⟨c0,c1,c2,c3⟩:=hc1.cells him1;obtain⟨f0,f1,f2,f3,f4,f5,f6,ff⟩:=id hc1.f;have nf:=hc1.n.free;have hle1:=hc1.n.le;have hmax1:=hc1.n.max;unfold maxLen at hmax1;have him2:(i:Int)<(m:Int):=by omega
 have hcn:=hc1.ne;have hcn2:=hcn.symm;clear hc1;go_wp2_with (fail);go_cut [6] (fun s6 wx=>s6= .int .i64 i/\Mid w1 cb nb mb m cap N1 i key n A e1 y1 room hits misses wx)
 case first=>
  go_region_held3 (fun w'=>w'.cell? ⟨cb,0,none⟩=some (.slice (some ⟨nb,0,none⟩) m cap)/\w'.cell? ⟨cb,0,none⟩=some (.slice (some ⟨nb,0,none⟩) m cap)) (first | exact⟨by assumption,by assumption⟩ | exact⟨f0,f0⟩ | (simp[go_sem,hcn,f0];done) | go_keep)
   (first | (go_at_call 54;refine(uE (A:=A) _ ?_ (by omega)).mono ?_;(first | exact hA1.drew | exact hA1k);rintro e w3 ⟨vo,vc,rfl,ho3,hb3⟩;(first | have hcm3:=HC1.out.drew.below hb3 | have hcm3:=HCk.out.drew.below hb3);obtain⟨c03,c13,c23,c33⟩:=hcm3.cells him1;have nf3:=hcm3.n.free;have g03:=hcm3.f.f0))
  all_goals(go_wp2_with fail;go_meet)
  all_goals exact⟨rfl,by first | exact mid_a him1 hcm3 hb3 hbn21 ho3 | exact mid_b him1 hcm3 hb3 hbn21 ho3 | exact mid_c him1 hcm3 hb3 hbn21 ho3⟩
 case rest=>
  obtain⟨rfl,vo,vc,N2,hcm,hN2,hN2',hown,hkk⟩:=hcut;have hcbm:=H1.out.cm;have hmbl:=H1.out.bm;have hmc:dF wc mb sz f:=H1.out.mp.stay (hkk.block mb hmbl.2 hmn1);have hwf:(Lit.int .i64 (i:Int)).wf=true:=WalkArith.wf_i64 (by omega);clear c0 c1 c2 c3 f0 f1 f2 f3 f4 f5 f6 ff nf;have f1:=hcm.f.f1;go_wp2_with (with_reducible show wpList _ _ _ (⟨_, .mapUpdate _ _ _ _,_,_,_,_⟩::_) _ _;refine bI rfl _ _ _ rfl rfl hmc rfl hkl rfl hwf (by unfold maxLen;omega) ?_);intro w3 hmp3 hgr3
  try simp only[hf,Option.isSome_some,if_true]at hmp3
  have K3:dA (fun k=>k=mb) wc w3:=(dA.refl _ _).grown hgr3 fun k hk _=>by simp at hk;exact hk.symm
  have hszc:w1.heap.size<=wc.heap.size:=hkk.size;have hc3:fC w3 cb nb mb m cap N2 e1 y1 room hits misses:=hcm.stay (K3.block cb hcm.lt hcbm) (K3.block nb hcm.n.lt (fun e=>hmn1 e.symm));have hown3:Own w3 w1.heap.size (.slice vo n vc) A:=hown.stay fun k h1 h2=>K3.block k h2 (by omega)
  have h3:=H1.out.reput him1 hni (Nat.le_refl _) (Nat.le_trans hszc K3.size) hc3 hN2 hN2' hmp3 (fun k h1 h2 h3=>(K3.block k (by omega) h3).trans (hkk.block k h1 h2)) hown3 hmn1 ⟨hbn1,hbn21⟩ hkl;have hsz3:w1.heap.size<=w3.heap.size:=Nat.le_trans hszc K3.size;have hK3:Hid (dA (Ft cb mb (some ⟨nb,0,none⟩)) w w3):=hW_ ((HK1.out.then hkk (fun k _ hk=> .inr (.inr (by rw[hk])))).then K3 fun k _ hk=> .inr (.inl hk));have H3:=hW_ h3;have hpy:Pl m y1:=by rw[H1.out.ch.y_];exact bL H1.out.lt
  have hyi:y1≠(i:Int):=by
   rw[H1.out.ch.y_];intro e2;rcases kB (ord1)with e | ⟨l',x,e⟩
   ·rw[e,aE]at e2;omega
   ·rw[e,rB]at e2;exact hni (by rw[e];simp;omega)
  clear h3 hmc f1 hmp3 hgr3;go_wp2_with (fail);refine(iJ _ hc3 i him1 hpy hyi).mono ?_
  rintro en w4 ⟨rfl,hc4,hk4⟩;have hlt4:∀k∈ord1++ [i],k<m:=by
   intro k hk;rcases List.mem_append.1 hk with h | h
   ·exact H1.out.lt k h
   ·simp at h;omega
  have h4:=H3.out.relink (Nat.le_refl _) hmn1 ⟨hbn1,by omega⟩ hc4 hk4 (sE N2 i y1) (H3.out.ch.link hni) hlt4;have HH:∀j,(oK N2 i y1 j).held=(N2 j).held:=fun j=>sE N2 i y1 j
  go_wp2_with (fail)
  go_end0
  refine⟨rfl,nb,_,_,_,_,h4.up hk4.size,fun j hj=> ?_,?_,?_,?_,hno⟩
  ·rw[HH,hN2' j hj];exact HKEY j hj
  ·have:=HH i;simp only[Nd.held,Prod.mk.injEq]at this;rw[this.1,hN2]
  ·intro ad had;have h9:=HH i;simp only[Nd.held,Prod.mk.injEq]at h9;rw[h9.2.1,hN2]at had;have h10:vo=some ad:=had;exact Nat.le_trans HK1.out.size (hown3.from ad h10)
  ·exact hK3.out.then hk4 fun k hkl' hk=>by
    rcases hk with h | h
    ·exact .inl h
    ·rcases hno with h' | h'
     ·exact .inr (.inr (by rw[h',h]))
     ·omega
theorem put_newB {R1:Nat->List Int} (h:CSt w base w.heap.size cb mb no m cap N e y room hits misses ord sz f R) (key:ByteArray) (hkl:key.size<=maxLen) (hroom:0<room)
  {ao:Option Addr} {n c:Nat} {A:List Int} (hA:SlI w ao n c A) (hAo:∀ad,ao=some ad->0<n->ad.block<w.heap.size/\¬Ft cb mb no ad.block) (hlim:n<=1048576) (hsz:sz<1048576) (hf:f key=none) (hsr:(sz:Int)<room) (hm0:m<1048576) (hR1:upd R m []=R1):
  Calls Tryz.prog 186 #[.pointer (some ⟨cb,0,none⟩), .string key, .slice ao n c] w fun en w'=>en= .returned (.tuple #[])/\aBI w base cb mb no N room hits misses m key (m+1) (ord++ [m]) (sz+1) (fun t=>if t=key then some (m:Int)else f t) (upd R1 m A) w':=by
 have him1:m<m+1:=by omega
 have hni:m∉ord:=fun hi=>by have:=h.lt m hi;omega
 obtain⟨f0,f1,f2,f3,f4,f5,f6,ff⟩:=id h.fl;have hmp:=h.mp;have hr1:(room==0)=false:=by simp;omega
 have HC:=hW_ h;clear h;go_enter Tryz.func186,Tryz.ntmps186;go_wp2_with (with_reducible show wpList _ _ _ (⟨_, .lookup _ _ _ _,_,_,_,_⟩::_) _ _;refine E1 rfl _ _ rfl rfl hmp rfl hkl ?_;rw[hf]);refine(free_new HC.out hsr hm0).mono ?_
 rintro en w1 ⟨rfl,g,cap1,h1,hk1,hat⟩;rw[hR1]at h1;have H1:=hW_ h1;have HK1:=hW_ hk1;have hno:At no g w.heap.size:=hat;have HKEY:∀j,j≠m->(upd N m qQ j).held=(N j).held:=fun j hj=>by rw[B2 _ _ _ _ hj]
 clear h1 hk1 hat f0 f1 f2 f3 f4 f5 f6 ff hmp;generalize upd N m qQ=N1 at H1 HKEY;obtain⟨hc1,hmn1,hbn1,hbn21⟩:=H1.out.cmem' (by omega);have hA1:SlI w1 ao n c A:=hA.keep0 fun ad e h0=>HK1.out.block _ (hAo ad e h0).1 (hAo ad e h0).2
 have hne1:∀ad,ao=some ad->0<n->ad.block≠g:=by
  intro ad e h0 e2;rcases hno with h | h
  ·exact(hAo ad e h0).2 (.inr (.inr (by rw[h,e2])))
  ·have:=(hAo ad e h0).1;omega
 have hA1k:SlI (w1.setCell ⟨g,m*4,none⟩ (.string key)).drew ao n c A:=hA1.keep0 fun ad e h0=>cA (hne1 ad e h0)
 have HC1:=hW_ hc1;have HCk:=hW_ (hc1.setKey him1 key);obtain⟨c0,c1,c2,c3⟩:=hc1.cells him1;obtain⟨f0,f1,f2,f3,f4,f5,f6,ff⟩:=id hc1.f;have nf:=hc1.n.free;have hle1:=hc1.n.le;have hmax1:=hc1.n.max;unfold maxLen at hmax1;have him2:(m:Int)<((m+1):Int):=by omega
 have hcn:=hc1.ne;have hcn2:=hcn.symm;clear hc1;go_wp2_with (fail);go_cut [6] (fun s6 wx=>s6= .int .i64 m/\Mid w1 cb g mb (m+1) cap1 N1 m key n A e y room hits misses wx)
 case first=>
  go_region_held3 (fun w'=>w'.cell? ⟨cb,0,none⟩=some (.slice (some ⟨g,0,none⟩) (m+1) cap1)/\w'.cell? ⟨cb,0,none⟩=some (.slice (some ⟨g,0,none⟩) (m+1) cap1)) (first | exact⟨by assumption,by assumption⟩ | exact⟨f0,f0⟩ | (simp[go_sem,hcn,f0];done) | go_keep)
   (first | (go_at_call 54;refine(uE (A:=A) _ ?_ (by omega)).mono ?_;(first | exact hA1.drew | exact hA1k);rintro e w3 ⟨vo,vc,rfl,ho3,hb3⟩;(first | have hcm3:=HC1.out.drew.below hb3 | have hcm3:=HCk.out.drew.below hb3);obtain⟨c03,c13,c23,c33⟩:=hcm3.cells him1;have nf3:=hcm3.n.free;have g03:=hcm3.f.f0))
  all_goals(go_wp2_with fail;go_meet)
  all_goals exact⟨rfl,by first | exact mid_a him1 hcm3 hb3 hbn21 ho3 | exact mid_b him1 hcm3 hb3 hbn21 ho3 | exact mid_c him1 hcm3 hb3 hbn21 ho3⟩
 case rest=>
  obtain⟨rfl,vo,vc,N2,hcm,hN2,hN2',hown,hkk⟩:=hcut;have hcbm:=H1.out.cm;have hmbl:=H1.out.bm;have hmc:dF wc mb sz f:=H1.out.mp.stay (hkk.block mb hmbl.2 hmn1);have hwf:(Lit.int .i64 (m:Int)).wf=true:=WalkArith.wf_i64 (by omega);clear c0 c1 c2 c3 f0 f1 f2 f3 f4 f5 f6 ff nf;have f1:=hcm.f.f1;go_wp2_with (with_reducible show wpList _ _ _ (⟨_, .mapUpdate _ _ _ _,_,_,_,_⟩::_) _ _;refine bI rfl _ _ _ rfl rfl hmc rfl hkl rfl hwf (by unfold maxLen;omega) ?_);intro w3 hmp3 hgr3
  try simp only[hf,Option.isSome_none,Bool.false_eq_true,if_false]at hmp3
  have K3:dA (fun k=>k=mb) wc w3:=(dA.refl _ _).grown hgr3 fun k hk _=>by simp at hk;exact hk.symm
  have hszc:w1.heap.size<=wc.heap.size:=hkk.size;have hc3:fC w3 cb g mb (m+1) cap1 N2 e y room hits misses:=hcm.stay (K3.block cb hcm.lt hcbm) (K3.block g hcm.n.lt (fun e=>hmn1 e.symm));have hown3:Own w3 w1.heap.size (.slice vo n vc) A:=hown.stay fun k h1 h2=>K3.block k h2 (by omega)
  have h3:=H1.out.reput him1 hni (Nat.le_refl _) (Nat.le_trans hszc K3.size) hc3 hN2 hN2' hmp3 (fun k h1 h2 h3=>(K3.block k (by omega) h3).trans (hkk.block k h1 h2)) hown3 hmn1 ⟨hbn1,hbn21⟩ hkl;have hsz3:w1.heap.size<=w3.heap.size:=Nat.le_trans hszc K3.size;have hK3:Hid (dA (Ft cb mb no) w w3):=hW_ ((HK1.out.then hkk (fun k hk0 hk=>by rcases hno with h | h;exact .inr (.inr (by rw[hk];exact h));omega)).then K3 fun k _ hk=> .inr (.inl hk));have H3:=hW_ h3;have hpy:Pl (m+1) y:=by rw[H1.out.ch.y_];exact bL H1.out.lt
  have hyi:y≠(m:Int):=by
   rw[H1.out.ch.y_];intro e2;rcases kB (ord)with e | ⟨l',x,e⟩
   ·rw[e,aE]at e2;omega
   ·rw[e,rB]at e2;exact hni (by rw[e];simp;omega)
  clear h3 hmc f1 hmp3 hgr3;go_wp2_with (fail);refine(iJ _ hc3 m him1 hpy hyi).mono ?_
  rintro en w4 ⟨rfl,hc4,hk4⟩;have hlt4:∀k∈ord++ [m],k<(m+1):=by
   intro k hk;rcases List.mem_append.1 hk with h | h
   ·exact H1.out.lt k h
   ·simp at h;omega
  have h4:=H3.out.relink (Nat.le_refl _) hmn1 ⟨hbn1,by omega⟩ hc4 hk4 (sE N2 m y) (H3.out.ch.link hni) hlt4;have HH:∀j,(oK N2 m y j).held=(N2 j).held:=fun j=>sE N2 m y j
  go_wp2_with (fail)
  go_end0
  refine⟨rfl,g,_,_,_,_,h4.up hk4.size,fun j hj=> ?_,?_,?_,?_,hno⟩
  ·rw[HH,hN2' j hj];exact HKEY j hj
  ·have:=HH m;simp only[Nd.held,Prod.mk.injEq]at this;rw[this.1,hN2]
  ·intro ad had;have h9:=HH m;simp only[Nd.held,Prod.mk.injEq]at h9;rw[h9.2.1,hN2]at had;have h10:vo=some ad:=had;exact Nat.le_trans HK1.out.size (hown3.from ad h10)
  ·exact hK3.out.then hk4 fun k hkl' hk=>by
    rcases hk with h | h
    ·exact .inl h
    ·rcases hno with h' | h'
     ·exact .inr (.inr (by rw[h',h]))
     ·omega
theorem aAO {i sz1:Nat} {post:List Nat} {fv:ByteArray->Option Int} (h:CSt w base w.heap.size cb mb no m cap N e y room hits misses (i::post) sz f R) (key:ByteArray) (hkl:key.size<=maxLen) (hroom:0<room)
  {ao:Option Addr} {n c:Nat} {A:List Int} (hA:SlI w ao n c A) (hAo:∀ad,ao=some ad->0<n->ad.block<w.heap.size/\¬Ft cb mb no ad.block) (hlim:n<=1048576) (hsz:sz<1048576) (hf:f key=none) (hsr:room<=(sz:Int)) (hfk:(f (N i).key).isSome=true) (hfv:(fun t=>if t=(N i).key then none else f t)=fv) (hs1:sz-1=sz1):
  Calls Tryz.prog 186 #[.pointer (some ⟨cb,0,none⟩), .string key, .slice ao n c] w fun en w'=>en= .returned (.tuple #[])/\aBI w base cb mb no N room hits misses i key m (post++ [i]) (sz1+1) (fun t=>if t=key then some (i:Int)else fv t) (upd R i A) w':=by
 have him1:i<m:=h.lt i (by simp);obtain⟨nb,rfl,hc,hmn,hbn,hbn2⟩:=h.cmem (by omega);have hni:i∉post:=(List.nodup_cons.1 h.ch.nd).1;have hfv0:fv key=none:=by rw[<-hfv];simp[hf]
 obtain⟨f0,f1,f2,f3,f4,f5,f6,ff⟩:=id h.fl;have hmp:=h.mp;have hr1:(room==0)=false:=by simp;omega
 have HC:=hW_ h;clear h hc;go_enter Tryz.func186,Tryz.ntmps186;go_wp2_with (with_reducible show wpList _ _ _ (⟨_, .lookup _ _ _ _,_,_,_,_⟩::_) _ _;refine E1 rfl _ _ rfl rfl hmp rfl hkl ?_;rw[hf]);refine(free_old HC.out hsr hfk).mono ?_
 rintro en w1 ⟨rfl,N1,e1,y1,h1,hheld,hk1⟩;rw[hfv,hs1]at h1;have H1:=hW_ h1;have HK1:=hW_ hk1;have hno:At (some (⟨nb,0,none⟩:Addr)) nb w.heap.size:= .inl rfl;have HKEY:∀j,j≠i->(N1 j).held=(N j).held:=fun j _=>hheld j
 have hsz0:sz1<1048576:=by omega
 clear hs1;clear h1 hk1 hheld f0 f1 f2 f3 f4 f5 f6 ff hmp hfv;obtain⟨hc1,hmn1,hbn1,hbn21⟩:=H1.out.cmem' (by omega);have hA1:SlI w1 ao n c A:=hA.keep0 fun ad e h0=>HK1.out.block _ (hAo ad e h0).1 (hAo ad e h0).2
 have hne1:∀ad,ao=some ad->0<n->ad.block≠nb:=by
  intro ad e h0 e2;rcases hno with h | h
  ·exact(hAo ad e h0).2 (.inr (.inr (by rw[h,e2])))
  ·have:=(hAo ad e h0).1;omega
 have hA1k:SlI (w1.setCell ⟨nb,i*4,none⟩ (.string key)).drew ao n c A:=hA1.keep0 fun ad e h0=>cA (hne1 ad e h0)
 have HC1:=hW_ hc1;have HCk:=hW_ (hc1.setKey him1 key);obtain⟨c0,c1,c2,c3⟩:=hc1.cells him1;obtain⟨f0,f1,f2,f3,f4,f5,f6,ff⟩:=id hc1.f;have nf:=hc1.n.free;have hle1:=hc1.n.le;have hmax1:=hc1.n.max;unfold maxLen at hmax1;have him2:(i:Int)<(m:Int):=by omega
 have hcn:=hc1.ne;have hcn2:=hcn.symm;clear hc1;go_wp2_with (fail);go_cut [6] (fun s6 wx=>s6= .int .i64 i/\Mid w1 cb nb mb m cap N1 i key n A e1 y1 room hits misses wx)
 case first=>
  go_region_held3 (fun w'=>w'.cell? ⟨cb,0,none⟩=some (.slice (some ⟨nb,0,none⟩) m cap)/\w'.cell? ⟨cb,0,none⟩=some (.slice (some ⟨nb,0,none⟩) m cap)) (first | exact⟨by assumption,by assumption⟩ | exact⟨f0,f0⟩ | (simp[go_sem,hcn,f0];done) | go_keep)
   (first | (go_at_call 54;refine(uE (A:=A) _ ?_ (by omega)).mono ?_;(first | exact hA1.drew | exact hA1k);rintro e w3 ⟨vo,vc,rfl,ho3,hb3⟩;(first | have hcm3:=HC1.out.drew.below hb3 | have hcm3:=HCk.out.drew.below hb3);obtain⟨c03,c13,c23,c33⟩:=hcm3.cells him1;have nf3:=hcm3.n.free;have g03:=hcm3.f.f0))
  all_goals(go_wp2_with fail;go_meet)
  all_goals exact⟨rfl,by first | exact mid_a him1 hcm3 hb3 hbn21 ho3 | exact mid_b him1 hcm3 hb3 hbn21 ho3 | exact mid_c him1 hcm3 hb3 hbn21 ho3⟩
 case rest=>
  obtain⟨rfl,vo,vc,N2,hcm,hN2,hN2',hown,hkk⟩:=hcut;have hcbm:=H1.out.cm;have hmbl:=H1.out.bm;have hmc:dF wc mb sz1 fv:=H1.out.mp.stay (hkk.block mb hmbl.2 hmn1);have hwf:(Lit.int .i64 (i:Int)).wf=true:=WalkArith.wf_i64 (by omega);clear c0 c1 c2 c3 f0 f1 f2 f3 f4 f5 f6 ff nf;have f1:=hcm.f.f1;go_wp2_with (with_reducible show wpList _ _ _ (⟨_, .mapUpdate _ _ _ _,_,_,_,_⟩::_) _ _;refine bI rfl _ _ _ rfl rfl hmc rfl hkl rfl hwf (by unfold maxLen;omega) ?_);intro w3 hmp3 hgr3
  try simp only[hfv0,Option.isSome_none,Bool.false_eq_true,if_false]at hmp3
  have K3:dA (fun k=>k=mb) wc w3:=(dA.refl _ _).grown hgr3 fun k hk _=>by simp at hk;exact hk.symm
  have hszc:w1.heap.size<=wc.heap.size:=hkk.size;have hc3:fC w3 cb nb mb m cap N2 e1 y1 room hits misses:=hcm.stay (K3.block cb hcm.lt hcbm) (K3.block nb hcm.n.lt (fun e=>hmn1 e.symm));have hown3:Own w3 w1.heap.size (.slice vo n vc) A:=hown.stay fun k h1 h2=>K3.block k h2 (by omega)
  have h3:=H1.out.reput him1 hni (Nat.le_refl _) (Nat.le_trans hszc K3.size) hc3 hN2 hN2' hmp3 (fun k h1 h2 h3=>(K3.block k (by omega) h3).trans (hkk.block k h1 h2)) hown3 hmn1 ⟨hbn1,hbn21⟩ hkl;have hsz3:w1.heap.size<=w3.heap.size:=Nat.le_trans hszc K3.size;have hK3:Hid (dA (Ft cb mb (some ⟨nb,0,none⟩)) w w3):=hW_ ((HK1.out.then hkk (fun k _ hk=> .inr (.inr (by rw[hk])))).then K3 fun k _ hk=> .inr (.inl hk));have H3:=hW_ h3;have hpy:Pl m y1:=by rw[H1.out.ch.y_];exact bL H1.out.lt
  have hyi:y1≠(i:Int):=by
   rw[H1.out.ch.y_];intro e2;rcases kB (post)with e | ⟨l',x,e⟩
   ·rw[e,aE]at e2;omega
   ·rw[e,rB]at e2;exact hni (by rw[e];simp;omega)
  clear h3 hmc f1 hmp3 hgr3;go_wp2_with (fail);refine(iJ _ hc3 i him1 hpy hyi).mono ?_
  rintro en w4 ⟨rfl,hc4,hk4⟩;have hlt4:∀k∈post++ [i],k<m:=by
   intro k hk;rcases List.mem_append.1 hk with h | h
   ·exact H1.out.lt k h
   ·simp at h;omega
  have h4:=H3.out.relink (Nat.le_refl _) hmn1 ⟨hbn1,by omega⟩ hc4 hk4 (sE N2 i y1) (H3.out.ch.link hni) hlt4;have HH:∀j,(oK N2 i y1 j).held=(N2 j).held:=fun j=>sE N2 i y1 j
  go_wp2_with (fail)
  go_end0
  refine⟨rfl,nb,_,_,_,_,h4.up hk4.size,fun j hj=> ?_,?_,?_,?_,hno⟩
  ·rw[HH,hN2' j hj];exact HKEY j hj
  ·have:=HH i;simp only[Nd.held,Prod.mk.injEq]at this;rw[this.1,hN2]
  ·intro ad had;have h9:=HH i;simp only[Nd.held,Prod.mk.injEq]at h9;rw[h9.2.1,hN2]at had;have h10:vo=some ad:=had;exact Nat.le_trans HK1.out.size (hown3.from ad h10)
  ·exact hK3.out.then hk4 fun k hkl' hk=>by
    rcases hk with h | h
    ·exact .inl h
    ·rcases hno with h' | h'
     ·exact .inr (.inr (by rw[h',h]))
     ·omega
end
theorem CSt.among {w w':World} {base top cb mb m cap sz:Nat} {no:Option Addr} {N:Nat->Nd} {e y room hits misses:Int} {ord:List Nat} {f:ByteArray->Option Int} {R:Nat->List Int}
  (h:CSt w base top cb mb no m cap N e y room hits misses ord sz f R) (h1:∀k,Ft cb mb no k->w'.heap[k]?=w.heap[k]?) (h2:∀i,i<m->∀ad,(N i).ro=some ad->w'.heap[ad.block]?=w.heap[ad.block]?):
  CSt w' base top cb mb no m cap N e y room hits misses ord sz f R:=by
 refine⟨h.fl.stay (h1 cb (.inl rfl)),?_,h.mp.stay (h1 mb (.inr (.inl rfl))),h.ch,h.lt,h.cm,h.bc,h.bm,fun i hi=> ?_,h.keys⟩
 ·rcases h.nd with h' | ⟨nb,e1,e2,e3,e4,e5,e6⟩
  ·exact .inl h'
  ·exact .inr ⟨nb,e1,e2.stay (h1 nb (.inr (.inr e1))),e3,e4,e5,e6⟩
 ·obtain⟨a1,a2⟩:=h.rows i hi;exact⟨a1.keep fun ad e=>h2 i hi ad e,a2⟩
theorem mH.hi {w w':World} {base top cb mb:Nat} {no:Option Addr} {l:List Row} {room hits misses:Int} (h:mH w base top cb mb no l room hits misses) (hk:∀q,base<=q->q<top->w'.heap[q]?=w.heap[q]?):mH w' base top cb mb no l room hits misses:=by
 have hft:=h.ft;obtain⟨m,cap,N,e,y,ord,sz,f,R,hc,hg,hl⟩:=h;refine⟨m,cap,N,e,y,ord,sz,f,R,hc.among (fun k hf=>hk k (hft k hf).1 (hft k hf).2) (fun i hi ad e=> ?_),hg,hl⟩;obtain⟨a,b,_⟩:=(hc.rows i hi).2 ad e;exact hk _ a b
theorem K8.hi {w w':World} {base base' g:Nat} {V:Vc} {N:List ByteArray} {kind:Int} {T:List Rg} {room:Int} {cb mb:Nat} {no:Option Addr} {l:List Row} {hits misses:Int} (h:K8 w base g V N kind T room cb mb no l hits misses)
  (hk:∀q,base<=q->q<w.heap.size->w'.heap[q]?=w.heap[q]?) (hs:w.heap.size<=w'.heap.size) (hb:base'<=base):K8 w' base' g V N kind T room cb mb no l hits misses:=by
 have hr:=h.rep;obtain⟨⟨S,h1,h2⟩,_⟩:=h;refine⟨⟨S,fun w'' e1 e2=>((h1.next (fun q hq=>hk q (h2 q hq).1.1 (h2 q hq).1.2) hs) w'' e1 e2).mono hb,fun q hq=>⟨⟨by have:=(h2 q hq).1.1;omega,Nat.lt_of_lt_of_le (h2 q hq).1.2 hs⟩,(h2 q hq).2⟩⟩,?_⟩;exact((hr.hi hk).up hs).base hb
theorem tab_off {w:World} {q o n1 c1 n2 c2 n3 c3 n4 c4 n5 c5:Nat} {a1 a2 a3 a4 a5:Option Addr} {z u v:Int} {t:TypeId} (hx:w.heap[q]?=some (.cells #[.slice a1 n1 c1, .slice a2 n2 c2, .slice a3 n3 c3, .slice a4 n4 c4, .int .i64 z, .slice a5 n5 c5] t))
  (h0:w.cell? ⟨q,o,none⟩=some (.int .i64 u)) (h1:w.cell? ⟨q,o+1,none⟩=some (.int .i64 v)):False:=by
 simp only[World.cell?,hx]at h0 h1
 match o,h0,h1 with
 | 0,h0,_=>simp at h0
 | 1,h0,_=>simp at h0
 | 2,h0,_=>simp at h0
 | 3,h0,_=>simp at h0
 | 4,_,h1=>simp at h1
 | 5,h0,_=>simp at h0
 | o+6,h0,_=>simp at h0
theorem SlF.not_at {w:World} {T:List Rg} {ao:Option Addr} {n c q n1 c1 n2 c2 n3 c3 n4 c4 n5 c5:Nat} {a1 a2 a3 a4 a5:Option Addr} {z:Int} {t:TypeId} (h:SlF 3 w ao n c (flat Rg.enc T)) (hx:w.heap[q]?=some (.cells #[.slice a1 n1 c1, .slice a2 n2 c2, .slice a3 n3 c3, .slice a4 n4 c4, .int .i64 z, .slice a5 n5 c5] t)):
  ∀ad,ao=some ad->0<n->ad.block≠q:=fun ad e h0 hq=>by
 have hT:0<T.length:=by have:=h.count Rg.enc_len (by omega);omega
 obtain⟨b,o,hao,hce⟩:=h.elem Rg.enc_len (by omega) (List.getElem?_eq_getElem hT);obtain rfl:ad=⟨b,o,none⟩:=Option.some.inj (e.symm.trans hao);obtain rfl:b=q:=hq;have h1:=hce 0 _ rfl;have h2:=hce 1 _ rfl;exact tab_off hx h1 h2
def aEp (dd:Vd) (no:Option Addr) (nn nc:Nat) (V:Vc) (N:List ByteArray) (kind:Int) (T:List Rg) (room:Int) (w:World) (e:Ending) (w':World):Prop:=
 ((e= .returned (.tuple #[.pointer none,noC, .bool false])/\¬(May V/\wE N kind T room/\¬sJ V N T))\/
  (May V/\wE N kind T room/\¬sJ V N T/\∃g cb mb to_ tn tc,e= .returned (.tuple #[.pointer (some ⟨g,0,none⟩),cVal dd no nn nc kind to_ tn tc, .bool true])/\K8 w' w.heap.size g V N kind (D4 T) room cb mb none [] 0 0/\CR w' dd no nn nc V N/\SlF 3 w' to_ tn tc (flat Rg.enc (D4 T))/\∃bs,w.heap.size<=bs/\bs<=w'.heap.size/\K8 w' bs g V N kind (D4 T) room cb mb none [] 0 0/\∀ad,to_=some ad->0<tn->ad.block<bs))/\Below w.heap.size w w'
theorem zY {V:Vc} {dd:Vd} {N:List ByteArray} {kind:Int} {T:List Rg} {room:Int} {no to_:Option Addr} {nn nc tn tc:Nat} (w:World) (hV:xE w dd V) (hok:(∀s∈V.tokens,s.size<=maxLen)/\lO V.specials) (hN:SlS w no nn nc N) (hNs:∀s∈N,s.size<=maxLen)
  (hT:SlF 3 w to_ tn tc (flat Rg.enc T)) (hU:Usu w):
  Calls Tryz.prog 23 #[.agg #[.slice dd.ta dd.tn dd.tc, .slice dd.ma dd.mn dd.mc, .slice dd.sa dd.sn dd.sc, .slice no nn nc, .int .i64 kind, .slice to_ tn tc, .int .i64 room]] w (aEp dd no nn nc V N kind T room w):=by
 obtain⟨ta,tn',tc',ma,mn,mc,sa,sn,sc⟩:=dd;obtain⟨w0,hw0⟩:∃w0,(w.alloc (.cells #[.slice ta tn' tc', .slice ma mn mc, .slice sa sn sc, .slice no nn nc, .int .i64 kind, .slice to_ tn tc, .int .i64 room] 29)).alloc (.cells #[.slice none 0 0, .slice none 0 0, .slice none 0 0, .slice none 0 0, .int .i64 0, .slice none 0 0] 33)=w0:=⟨_,rfl⟩;have hb0:Below w.heap.size w w0:=hw0▸(aA w _).alloc (by simp) _;have hx0:w0.heap[w.heap.size]?=some (.cells #[.slice ta tn' tc', .slice ma mn mc, .slice sa sn sc, .slice no nn nc, .int .i64 kind, .slice to_ tn tc, .int .i64 room] 29):=by rw[<-hw0];exact(Below.heap_alloc _ _ _ (by simp)).trans (heap_alloc_new w _)
 have hx1:w0.heap[w.heap.size+1]?=some (.cells #[.slice none 0 0, .slice none 0 0, .slice none 0 0, .slice none 0 0, .int .i64 0, .slice none 0 0] 33):=by
  rw[<-hw0];have:=heap_alloc_new (w.alloc (.cells #[.slice ta tn' tc', .slice ma mn mc, .slice sa sn sc, .slice no nn nc, .int .i64 kind, .slice to_ tn tc, .int .i64 room] 29)) (.cells #[.slice none 0 0, .slice none 0 0, .slice none 0 0, .slice none 0 0, .int .i64 0, .slice none 0 0] 33);simpa using this
 have HSZ1:Hid (w.heap.size<w0.heap.size):=hW_ (by rw[<-hw0];simp;omega);have HSZ2:Hid (w.heap.size+1<w0.heap.size):=hW_ (by rw[<-hw0];simp);have hgr:=T3 (dd:=⟨ta,tn',tc',ma,mn,mc,sa,sn,sc⟩) w0 (hV.below hb0) hok (Sl.below hN hb0) hNs (hT.below hb0);have HBC:Hid (w.heap.size<=w.heap.size+1):=hW_ (by omega);have HV:=hW_ hV;have HN:=hW_ hN;have HT:=hW_ hT;have HU:=hW_ hU;have HB0:=hW_ hb0;have HX0:=hW_ hx0;have HX1:=hW_ hx1;have HNS:=hW_ hNs;have HOK:=hW_ hok;have HW0:=hW_ hw0;obtain⟨c0,c1,c2,c3,c4,c5,c6⟩:=box7 hx0;rw[<-HW0.out]at c0 c1 c2 c3 c4 c5 c6;clear hV hN hT hNs hU hb0 hx0 hx1 hw0 hok;go_enter Tryz.func23,Tryz.ntmps23;go_wp2_with (fail);rw[HW0.out];clear c0 c1 c2 c3 c4 c5 c6;refine hgr.mono ?_
 rintro e w1 ⟨⟨b,rfl,hbg⟩,hb1⟩;have HB1:=hW_ hb1;have HBG:=hW_ hbg;clear hgr hbg hb1;obtain⟨c0,c1,c2,c3,c4,c5,c6⟩:=box7 ((HB1.out.block w.heap.size HSZ1.out).trans HX0.out);obtain⟨b0,b1,b2,b3,b4,b5,bf⟩:=vQ ((HB1.out.block (w.heap.size+1) HSZ2.out).trans HX1.out)
 cases b with
 | true=>
  go_wp2_with (fail);refine bodyPost_ret (v:= .tuple #[.pointer none,noC, .bool false]) ?_ rfl ⟨.inl ⟨rfl,fun h=>h.2.2 (HBG.out.1 (by first | exact rfl | trivial))⟩,?_⟩
  ·simp[results,Tryz.results23,go_sem,noC,b0,b1,b2,b3,b4,b5]
  ·exact(((((((HB0.out.trans (HB1.out.mono HB0.out.size))).setCell HBC.out _).setCell HBC.out _).setCell HBC.out _).setCell HBC.out _).setCell HBC.out _).setCell HBC.out _
 | false=>
 have hng:¬sJ V N T:=fun h=>by have:=HBG.out.2 h;cases this
 have hvok:VOk V:=⟨HOK.out.1,HOK.out.2,by
  rcases Nat.lt_or_ge 20 V.specials.length with h | h
  ·exact absurd (.inl (.inr (.inr (.inl h)))) hng
  ·omega⟩
 have HNG:=hW_ hng;have HVOK:=hW_ hvok;have HBW1:Hid (Below w.heap.size w w1):=hW_ (HB0.out.trans (HB1.out.mono HB0.out.size));have hrn:=V8 (dd:=⟨ta,tn',tc',ma,mn,mc,sa,sn,sc⟩) (kind:=kind) (room:=room) w1 (HV.out.below HBW1.out) hvok (Sl.below HN.out HBW1.out) HNS.out (HT.out.below HBW1.out);clear hng hvok;go_wp2_with (fail);refine hrn.mono ?_
 rintro e w2 ⟨hpost,hb2⟩;have HBW2:Hid (Below w.heap.size w w2):=hW_ (HBW1.out.trans (hb2.mono HBW1.out.size));have HSZ3:Hid (w.heap.size+1<w2.heap.size):=hW_ (by have:=hb2.size;have:=HB1.out.size;have:=HSZ2.out;omega);have HX02:Hid (w2.heap[w.heap.size]?=some (.cells #[.slice ta tn' tc', .slice ma mn mc, .slice sa sn sc, .slice no nn nc, .int .i64 kind, .slice to_ tn tc, .int .i64 room] 29)):=hW_ ((hb2.block w.heap.size (by have:=HB1.out.size;have:=HSZ1.out;omega)).trans ((HB1.out.block w.heap.size HSZ1.out).trans HX0.out));have HX12:Hid (w2.heap[w.heap.size+1]?=some (.cells #[.slice none 0 0, .slice none 0 0, .slice none 0 0, .slice none 0 0, .int .i64 0, .slice none 0 0] 33)):=hW_ ((hb2.block (w.heap.size+1) (by have:=HB1.out.size;have:=HSZ2.out;omega)).trans ((HB1.out.block (w.heap.size+1) HSZ2.out).trans HX1.out));clear hb2 hrn c0 c1 c2 c3 c4 c5 c6 b0 b1 b2 b3 b4 b5 bf;rcases hpost with⟨hwhy,rfl⟩ | ⟨_,hwhy,rfl⟩ | ⟨hM,hOK,uo,un,uc,rfl,hU2⟩
 iterate 2 (
  ·obtain⟨b0,b1,b2,b3,b4,b5,bf⟩:=vQ ((Below.heap_alloc _ _ _ HSZ3.out:(w2.alloc (.cells #[.slice none 0 0, .slice none 0 0, .slice none 0 0, .slice none 0 0, .int .i64 0, .slice none 0 0] 33)).heap[w.heap.size+1]?=_).trans HX12.out);unfold noC;go_wp2_with (fail);refine bodyPost_ret (v:= .tuple #[.pointer none,noC, .bool false]) ?_ rfl ⟨.inl ⟨rfl,fun h=>by first | exact hwhy h.1 | exact hwhy h.2.1⟩,?_⟩
   ·simp[results,Tryz.results23,go_sem,noC,b0,b1,b2,b3,b4,b5]
   ·exact((((((HBW2.out.alloc HBW2.out.size _).setCell HBC.out _).setCell HBC.out _).setCell HBC.out _).setCell HBC.out _).setCell HBC.out _).setCell HBC.out _)
 obtain⟨w3,hw3⟩:∃w3,w2.alloc (.cells #[.slice ta tn' tc', .slice ma mn mc, .slice sa sn sc, .slice no nn nc, .int .i64 kind, .slice uo un uc] 33)=w3:=⟨_,rfl⟩;have hb3:Below w2.heap.size w2 w3:=hw3▸aA w2 _;have HBW3:Hid (Below w.heap.size w w3):=hW_ (HBW2.out.trans (hb3.mono HBW2.out.size));have HX3:Hid (w3.heap[w2.heap.size]?=some (.cells #[.slice ta tn' tc', .slice ma mn mc, .slice sa sn sc, .slice no nn nc, .int .i64 kind, .slice uo un uc] 33)):=hW_ (by rw[<-hw3];exact heap_alloc_new w2 _);have HX03:=hW_ ((hb3.block w.heap.size (by have:=HSZ3.out;omega)).trans HX02.out);have HX13:=hW_ ((hb3.block (w.heap.size+1) HSZ3.out).trans HX12.out);have HSZ4:Hid (w2.heap.size<w3.heap.size):=hW_ (by rw[<-hw3];simp);have hnn:nn<=1048576:=by
  have:=HN.out.count;rcases Nat.lt_or_ge 20 N.length with h | h
  ·exact absurd (.inr (.inl h)) HNG.out
  ·omega
 have htn:tn<=1048576:=by
  have:=HT.out.count Rg.enc_len (by omega);rcases Nat.lt_or_ge 80 T.length with h | h
  ·exact absurd (.inr (.inr (.inl h))) HNG.out
  ·omega
 have htx:=tL (dd:=⟨ta,tn',tc',ma,mn,mc,sa,sn,sc⟩) (kind:=kind) (room:=room) w3 (HV.out.below HBW3.out) HVOK.out (Sl.below HN.out HBW3.out) HNS.out hnn (HT.out.below HBW3.out) htn (HU.out.below HBW3.out);have HM:=hW_ hM;have HOK2:=hW_ hOK;have HU3:=hW_ (hU2.below hb3);have HUL:=hW_ (HU3.out.lt (by omega));have HW3:=hW_ hw3;obtain⟨c0,c1,c2,c3,c4,c5,c6⟩:=box7 HX03.out;rw[<-HW3.out]at c0 c1 c2 c3 c4 c5 c6;clear hb3 hw3 hM hOK hU2 hnn htn;go_wp2_with (fail);rw[HW3.out];refine htx.mono ?_
 rintro e w4 ⟨hpost,hb4⟩;rcases hpost with⟨h,_⟩ | ⟨_,h,_⟩ | ⟨_,_,g,cb,mb,rfl,hcod⟩
 ·exact absurd HM.out h
 ·exact absurd HOK2.out h
 have HB4:=hW_ hb4;have HCOD:=hW_ hcod;have hx4:=(HB4.out.block w2.heap.size HSZ4.out).trans HX3.out;have hx14:=(HB4.out.block (w.heap.size+1) (by have:=HSZ3.out;have:=HSZ4.out;omega)).trans HX13.out;have HX14:=hW_ hx14;obtain⟨d0,d1,d2,d3,d4,d5,df⟩:=vQ hx4;obtain⟨b0,b1,b2,b3,b4,b5,bf⟩:=vQ hx14;clear hx4 hx14 hb4 hcod htx c0 c1 c2 c3 c4 c5 c6;go_wp2_with (fail);go_region
 all_goals(
  go_wp2_with (fail);refine bodyPost_ret (v:= .tuple #[.pointer (some ⟨g,0,none⟩),cVal ⟨ta,tn',tc',ma,mn,mc,sa,sn,sc⟩ no nn nc kind uo un uc, .bool true]) ?_ rfl ⟨.inr ⟨HM.out,HOK2.out,HNG.out,g,cb,mb,uo,un,uc,rfl,?_,?_,?_,w3.heap.size,HBW3.out.size,by have:=HB4.out.size;simp;omega,?_,HUL.out⟩,?_⟩
  ·simp[results,Tryz.results23,go_sem,cVal,b0,b1,b2,b3,b4,b5]
  ·refine K8.hi HCOD.out (fun q h1 h2=> ?_) (by simp) HBW3.out.size;have hne:q≠w.heap.size+1:=by have:=HSZ3.out;have:=HSZ4.out;omega
   exact O8 hne _ _ _ _ _ _
  ·have hbf:=wS (HBW3.out.trans (HB4.out.mono HBW3.out.size)) HBC.out (.slice ta tn' tc') (.slice ma mn mc) (.slice sa sn sc) (.slice no nn nc) (.int .i64 kind) (.slice uo un uc);exact⟨HV.out.below hbf,Sl.below HN.out hbf,HM.out.1.2.1,by have:=HN.out.count;have:=HOK2.out.1.1;omega,HVOK.out.2.2,by have:=HM.out.1.1;omega⟩
  ·have hna:=(HU3.out.below HB4.out).not_at HX14.out;exact(HU3.out.below HB4.out).keep0 (fun ad e h0=>O8 (hna ad e h0) _ _ _ _ _ _)
  ·refine K8.hi HCOD.out (fun q h1 h2=> ?_) (by simp) (Nat.le_refl _);have hne:q≠w.heap.size+1:=by have:=HSZ3.out;have:=HSZ4.out;omega
   exact O8 hne _ _ _ _ _ _
  ·exact wS (HBW3.out.trans (HB4.out.mono HBW3.out.size)) HBC.out _ _ _ _ _ _)
theorem N7 {a b:Nd} (h:a.held=b.held):a.ro=b.ro/\a.key=b.key:=by
 simp only[Nd.held,Prod.mk.injEq]at h;exact⟨h.2.1,h.1⟩
def yE (w:World) (base top cb mb:Nat) (no:Option Addr) (l:List Row) (room hits misses:Int) (P:Nat->Prop):Prop:=
 ∃m cap N e y ord sz f R,(CSt w base top cb mb no m cap N e y room hits misses ord sz f R/\(∀k,Ft cb mb no k->P k)/\(∀i,i<m->∀ad,(N i).ro=some ad->P ad.block))/\aEr ord N R sz m f/\l=ord.map fun i=>((N i).key,R i)
section
variable {w:World} {base top cb mb:Nat} {no:Option Addr} {l:List Row} {room hits misses:Int} {P:Nat->Prop}
theorem yE.rep (h:yE w base top cb mb no l room hits misses P):mH w base top cb mb no l room hits misses:=
 let ⟨m,cap,N,e,y,ord,sz,f,R,hc,hg,hl⟩:=h
 ⟨m,cap,N,e,y,ord,sz,f,R,hc.1,hg,hl⟩
theorem mH.req (h:mH w base top cb mb no l room hits misses):yE w base top cb mb no l room hits misses (fun q=>base<=q/\q<top):=by
 have hft:=h.ft;obtain⟨m,cap,N,e,y,ord,sz,f,R,hc,hg,hl⟩:=h;exact⟨m,cap,N,e,y,ord,sz,f,R,⟨hc,hft,fun i hi ad e=>⟨((hc.rows i hi).2 ad e).1,((hc.rows i hi).2 ad e).2.1⟩⟩,hg,hl⟩
theorem yE.more {Q:Nat->Prop} (h:yE w base top cb mb no l room hits misses P) (hq:∀k,P k->Q k):yE w base top cb mb no l room hits misses Q:=
 let ⟨m,cap,N,e,y,ord,sz,f,R,hc,hg,hl⟩:=h
 ⟨m,cap,N,e,y,ord,sz,f,R,⟨hc.1,fun k hk=>hq k (hc.2.1 k hk),fun i hi ad e=>hq _ (hc.2.2 i hi ad e)⟩,hg,hl⟩
theorem yE.up {top':Nat} (h:yE w base top cb mb no l room hits misses P) (ht:top<=top'):yE w base top' cb mb no l room hits misses P:=
 let ⟨m,cap,N,e,y,ord,sz,f,R,hc,hg,hl⟩:=h
 ⟨m,cap,N,e,y,ord,sz,f,R,⟨hc.1.up ht,hc.2⟩,hg,hl⟩
theorem yE.stay {w':World} (h:yE w base top cb mb no l room hits misses P) (hk:∀k,P k->w'.heap[k]?=w.heap[k]?):yE w' base top cb mb no l room hits misses P:=
 let ⟨m,cap,N,e,y,ord,sz,f,R,hc,hg,hl⟩:=h
 ⟨m,cap,N,e,y,ord,sz,f,R,⟨hc.1.among (fun k hf=>hk k (hc.2.1 k hf)) (fun i hi ad e=>hk _ (hc.2.2 i hi ad e)),hc.2⟩,hg,hl⟩
theorem yE.ft (h:yE w base top cb mb no l room hits misses P):∀q,Ft cb mb no q->P q:=
 let ⟨m,cap,N,e,y,ord,sz,f,R,hc,hg,hl⟩:=h
 hc.2.1
theorem aEe (h:yE w base top cb mb no l room hits misses P) (htop:top<=w.heap.size) (key:ByteArray) (hkl:key.size<=maxLen) (hno:∀p∈l,p.1≠key) (hm0:0<=misses) (hm1:misses<4611686018427387904):
  Calls Tryz.prog 185 #[.pointer (some ⟨cb,0,none⟩), .string key] w fun en w'=>en= .returned (.tuple #[.slice none 0 0, .bool false])/\
   yE w' base top cb mb no l room hits (misses+1) P/\dA (Ft cb mb no) w w':=by
 obtain⟨m,cap,N,e,y,ord,sz,f,R,hc,hg,rfl⟩:=h;have hf:f key=none:=hg.miss.2 fun i hi=>hno _ (List.mem_map.2 ⟨i,hi,rfl⟩)
 refine(get_miss hc.1 htop key hkl hf hm0 hm1).mono ?_
 rintro en w' ⟨rfl,h1,h2⟩;exact⟨rfl,⟨m,cap,N,e,y,ord,sz,f,R,⟨h1,hc.2⟩,hg,rfl⟩,h2⟩
theorem creq_hit (h:yE w base top cb mb no l room hits misses P) (htop:top<=w.heap.size) (key:ByteArray) (A:List Int) (hkl:key.size<=maxLen) (hmem:(key,A)∈l) (hm0:0<=hits) (hm1:hits<4611686018427387904):
  Calls Tryz.prog 185 #[.pointer (some ⟨cb,0,none⟩), .string key] w fun en w'=>∃vo vn vc,en= .returned (.tuple #[.slice vo vn vc, .bool true])/\Own w' w.heap.size (.slice vo vn vc) A/\
   yE w' base top cb mb no (E0 l key A) room (hits+1) misses P/\dA (Ft cb mb no) w w':=by
 obtain⟨m,cap,N,e,y,ord,sz,f,R,⟨hc,hp1,hp2⟩,hg,rfl⟩:=h;obtain⟨i,hi,he⟩:=List.mem_map.1 hmem;simp only[Prod.mk.injEq]at he;obtain⟨hki,hRi⟩:=he;obtain⟨pre,post,hs⟩:=List.append_of_mem hi;subst hs;have hnd:=hc.ch.nd;have hni:i∉pre++post:=by
  have h2:(i::(pre++post)).Nodup:=(List.perm_middle.nodup_iff).1 hnd;exact(List.nodup_cons.1 h2).1
 have hne:∀j∈pre++post,(N j).key≠key:=fun j hj e=>by
  have:j=i:=hg.inj (gJ.2 (.inr hj)) hi (by rw[e,hki]);exact hni (this▸hj)
 have hf:f key=some (i:Int):=(hg.at_ _ _).2 ⟨i,hi,rfl,hki⟩;refine(get_hit hc htop key hkl hf hm0 hm1 (hg.lim i hi)).mono ?_
 rintro en w' ⟨vo,vn,vc,N',e',y',rfl,hown,h1,h2,h3⟩;rw[hRi]at hown;have hk:∀j,(N' j).key=(N j).key:=fun j=>by have:=h2 j;simp only[Nd.held,Prod.mk.injEq]at this;exact this.1
 refine⟨vo,vn,vc,rfl,hown,⟨m,cap,N',e',y',_,sz,f,R,⟨h1,hp1,fun j hj ad e=>hp2 j hj ad (by rw[<-(N7 (h2 j)).1];exact e)⟩,⟨by have:=hg.len;simp at this |-;omega,hg.m_,fun s c=> ?_,fun j hj=>hg.lim j (gJ.2 (vN.1 hj))⟩,?_⟩,h3⟩
 ·rw[hg.at_ s c];constructor
  ·rintro⟨j,hj,rfl,hk'⟩;exact⟨j,vN.2 (gJ.1 hj),rfl,by rw[hk];exact hk'⟩
  ·rintro⟨j,hj,rfl,hk'⟩;exact⟨j,gJ.2 (vN.1 hj),rfl,by rw[<-hk];exact hk'⟩
 ·exact iU (N':=N') (R:=R) (R':=R) (A:=A) hki hne (fun j hj=>⟨hk j,rfl⟩) (by rw[hk,hki]) hRi
theorem creq_put (h:yE w base w.heap.size cb mb no l room hits misses P) (key:ByteArray) (hkl:key.size<=maxLen) (hroom:0<room) (hroom2:room<=1048576) (hl:(l.length:Int)<=room) (hl2:l.length<1048576)
  {ao:Option Addr} {n c:Nat} {A:List Int} (hA:SlI w ao n c A) (hAo:∀ad,ao=some ad->0<n->ad.block<w.heap.size/\¬Ft cb mb no ad.block) (hlim:n<=1048576):
  Calls Tryz.prog 186 #[.pointer (some ⟨cb,0,none⟩), .string key, .slice ao n c] w fun en w'=>en= .returned (.tuple #[])/\∃g,
   yE w' base w'.heap.size cb mb (some ⟨g,0,none⟩) (fW l room key A) room hits misses (fun q=>P q\/w.heap.size<=q)/\dA (Ft cb mb no) w w'/\At no g w.heap.size:=by
 obtain⟨m,cap,N,e,y,ord,sz,f,R,⟨hc,hp1,hp2⟩,hg,rfl⟩:=h;rw[List.length_map]at hl hl2;have hlen:=hg.len;have hm:=hg.m_;have hAl:=hA.len;have hP1:∀g,At no g w.heap.size->∀k,Ft cb mb (some ⟨g,0,none⟩) k->P k\/w.heap.size<=k:=fun g ha k hk=>by
  rcases hk with h1 | h1 | h1
  ·exact .inl (hp1 k (.inl h1))
  ·exact .inl (hp1 k (.inr (.inl h1)))
  ·obtain rfl:g=k:=by simpa using h1
   rcases ha with h2 | h2
   ·exact .inl (hp1 g (.inr (.inr h2)))
   ·exact .inr h2
 have hP2:∀(N':Nat->Nd) (i m':Nat),(∀j,j<m'->j≠i->j<m)->(∀j,j≠i->(N' j).held=(N j).held)->(∀ad,(N' i).ro=some ad->w.heap.size<=ad.block)->∀j,j<m'->∀ad,(N' j).ro=some ad->P ad.block\/w.heap.size<=ad.block:=fun N' i m' h0 h1 h2 j hj ad e=>by
  by_cases ej:j=i
  ·subst ej;exact .inr (h2 ad e)
  ·exact .inl (hp2 j (h0 j hj ej) ad (by rw[<-(N7 (h1 j ej)).1];exact e))
 cases hf:f key with
 | some ci=>
  obtain⟨i,hi,rfl,hki⟩:=(hg.at_ key ci).1 hf;obtain⟨pre,post,hs⟩:=List.append_of_mem hi;subst hs;have hnd:=hc.ch.nd;have hni:i∉pre++post:=by
   have h2:(i::(pre++post)).Nodup:=(List.perm_middle.nodup_iff).1 hnd;exact(List.nodup_cons.1 h2).1
  have hne:∀j∈pre++post,(N j).key≠key:=fun j hj e=>by
   have:j=i:=hg.inj (by simp at hj |-;rcases hj with h | h<;>simp[h]) hi (by rw[e,hki]);exact hni (this▸hj)
  refine(put_oldB hc key hkl hroom hA hAo hlim (by omega) hf rfl).mono ?_
  rintro en w' ⟨rfl,g,cap',N',e',y',h1,h2',h3,h6,h4,h5⟩;have h2:∀j,j≠i->(N' j).key=(N j).key:=fun j hj=>(N7 (h2' j hj)).2
  refine⟨rfl,g,⟨m,cap',N',e',y',_,sz,_,_,⟨h1,hP1 g h5,hP2 N' i m (fun j hj _=>hj) h2' h6⟩,⟨by simp at hlen |-;omega,hm,fun s c=> ?_,fun j hj=> ?_⟩,?_⟩,h4,h5⟩
  ·refine aBB (N:=N) (fun s c hs=> ?_) hne hni h2 h3 s c;rw[hg.at_ s c];constructor
   ·rintro⟨j,hj,rfl,hk⟩;have:j≠i:=fun e=>hs (by rw[<-hk,e,hki])
    exact⟨j,(gJ.1 hj).resolve_left this,rfl,hk⟩
   ·rintro⟨j,hj,rfl,hk⟩;exact⟨j,gJ.2 (.inr hj),rfl,hk⟩
  ·by_cases e:j=i
   ·subst e;rw[aD];omega
   ·rw[B2 _ _ _ _ e];exact hg.lim j (gJ.2 (vN.1 hj))
  ·have hy:=iU (N':=N') (R:=R) (R':=upd R i A) (A:=A) hki hne (fun j hj=>⟨h2 j (fun e=>hni (e▸hj)),B2 _ _ _ _ (fun e=>hni (e▸hj))⟩) h3 (aD _ _ _);unfold fW;rw[hy,if_neg (by simp at hl |-;omega)]
 | none=>
  have hne:=hg.miss.1 hf
  by_cases hsr:(sz:Int)<room
  ·have hni:m∉ord:=fun hi=>by have:=hc.lt m hi;omega
   refine(put_newB hc key hkl hroom hA hAo hlim (by omega) hf hsr (by omega) rfl).mono ?_
   rintro en w' ⟨rfl,g,cap',N',e',y',h1,h2',h3,h6,h4,h5⟩;have h2:∀j,j≠m->(N' j).key=(N j).key:=fun j hj=>(N7 (h2' j hj)).2
   have hRR:∀j∈ord,upd (upd R m []) m A j=R j:=fun j hj=>by
    have:j≠m:=fun e=>hni (e▸hj)
    rw[B2 _ _ _ _ this,B2 _ _ _ _ this]
   refine⟨rfl,g,⟨m+1,cap',N',e',y',_,sz+1,_,_,⟨h1,hP1 g h5,hP2 N' m (m+1) (fun j hj _=>by omega) h2' h6⟩,⟨by simp;omega,by omega,fun s c=> ?_,fun j hj=> ?_⟩,?_⟩,h4,h5⟩
   ·exact aBB (N:=N) (fun s c hs=>hg.at_ s c) hne hni h2 h3 s c
   ·rcases List.mem_append.1 hj with h | h
    ·rw[hRR j h];exact hg.lim j h
    ·simp at h;subst h;rw[aD];omega
   ·have hy:=jU (N':=N') (R:=R) (R':=upd (upd R m []) m A) (A:=A) hne (fun j hj=>⟨h2 j (fun e=>hni (e▸hj)),hRR j hj⟩) h3 (aD _ _ _);unfold fW;rw[hy,if_neg (by simp;omega)]
  ·cases ord with
   | nil=>simp at hlen;omega
   | cons i post=>
    have hnd:=hc.ch.nd;have hni:i∉post:=(List.nodup_cons.1 hnd).1;have hfi:f (N i).key=some (i:Int):=(hg.at_ _ _).2 ⟨i,by simp,rfl,rfl⟩;refine(aAO hc key hkl hroom hA hAo hlim (by omega) hf (by omega) (by rw[hfi];rfl) rfl rfl).mono ?_
    rintro en w' ⟨rfl,g,cap',N',e',y',h1,h2',h3,h6,h4,h5⟩;have h2:∀j,j≠i->(N' j).key=(N j).key:=fun j hj=>(N7 (h2' j hj)).2
    have hnep:∀j∈post,(N j).key≠key:=fun j hj=>hne j (by simp[hj])
    refine⟨rfl,g,⟨m,cap',N',e',y',_,sz-1+1,_,_,⟨h1,hP1 g h5,hP2 N' i m (fun j hj _=>hj) h2' h6⟩,⟨by simp at hlen |-;omega,by simp at hlen;omega,fun s c=> ?_,fun j hj=> ?_⟩,?_⟩,h4,h5⟩
    ·refine aBB (N:=N) (fA:=fun s=>if s=(N i).key then none else f s) (fun s c hs=> ?_) hnep hni h2 h3 s c;show(if s=(N i).key then none else f s)=some c↔_
     by_cases es:s=(N i).key
     ·rw[if_pos es];constructor
      ·intro h;cases h
      ·rintro⟨j,hj,rfl,hk⟩;have:j=i:=hg.inj (by simp[hj]) (by simp) (by rw[hk,es]);exact absurd (this▸hj) hni
     ·rw[if_neg es,hg.at_ s c];constructor
      ·rintro⟨j,hj,rfl,hk⟩;have:j≠i:=fun e=>es (by rw[<-hk,e])
       exact⟨j,(List.mem_cons.1 hj).resolve_left this,rfl,hk⟩
      ·rintro⟨j,hj,rfl,hk⟩;exact⟨j,by simp[hj],rfl,hk⟩
    ·by_cases e:j=i
     ·subst e;rw[aD];omega
     ·rw[B2 _ _ _ _ e];exact hg.lim j (List.mem_cons.2 (vN.1 hj))
    ·have hy:=jU (i:=i) (N':=N') (R:=R) (R':=upd R i A) (A:=A) hnep (fun j hj=>⟨h2 j (fun e=>hni (e▸hj)),B2 _ _ _ _ (fun e=>hni (e▸hj))⟩) h3 (aD _ _ _);unfold fW E0;unfold E0 at hy;have hki:decide (((N i).key,R i).1≠key)=true:=by simpa using hne i (by simp)
     have hcons:(((i::post).map fun i=>((N i).key,R i)).filter (fun p=>p.1≠key))++ [(key,A)]=((N i).key,R i)::((post++ [i]).map fun j=>((N' j).key,upd R i A j)):=by
      rw[List.map_cons,List.filter_cons,if_pos hki,List.cons_append,hy]
     rw[hcons,if_pos (by simp at hlen |-;omega)];rfl
end
end Go.Proofs.YtahiballegpbgaaGreatDoor
