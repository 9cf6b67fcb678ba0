/- Walk: the pile's Swap. -/
import Derived.Test.YtahiballegpbgaaGreatDoorR8
import Derived.Deep.MidRow
set_option linter.unusedVariables false
set_option maxHeartbeats 2000000
set_option maxRecDepth 100000
namespace Go.Proofs.YtahiballegpbgaaGreatDoor
open Go.RowKit
structure Trod (w w':World) (g mb:Nat) (v v':Value):Prop where
 os:w'.os=w.os
 tape:w'.tape=w.tape
 output:w'.output=w.output
 size:w.heap.size<=w'.heap.size
 block:∀q,q<w.heap.size->q≠g->q≠mb->v.ownBlock≠some q->w'.heap[q]?=w.heap[q]?
 new:∀q,v'.ownBlock=some q->v.ownBlock=some q\/w.heap.size<=q
theorem Trod.of {w w':World} {g mb:Nat} {v:Value} (h:Below w.heap.size w w'):Trod w w' g mb v v:=⟨h.os,h.tape,h.output,h.size,fun q hq _ _ _=>h.block q hq,fun q hq=> .inl hq⟩
theorem Trod.trans {w w1 w2:World} {g mb:Nat} {v v1 v2:Value} (h:Trod w w1 g mb v v1) (h2:Trod w1 w2 g mb v1 v2):Trod w w2 g mb v v2:=
 ⟨h2.os.trans h.os,h2.tape.trans h.tape,h2.output.trans h.output,Nat.le_trans h.size h2.size,fun q hq a b c=>(h2.block q (Nat.lt_of_lt_of_le hq h.size) a b (fun e=>by
  rcases h.new q e with h3 | h3
  ·exact c h3
  ·omega)).trans (h.block q hq a b c),fun q hq=>by
  rcases h2.new q hq with h3 | h3
  ·exact h.new q h3
  ·exact .inr (Nat.le_trans h.size h3)⟩
theorem Trod.drew {w w':World} {g mb:Nat} {v v':Value} (h:Trod w w' g mb v v'):Trod w w'.drew g mb v v':=⟨h.os,h.tape,h.output,h.size,h.block,h.new⟩
theorem iA.at0 {α:Type} {enc:α->List Value} {s:Nat} {e:TypeId} {w:World} {base:Nat} {v:Value} {L:List α} (h:iA enc s e w base v L) (hn:0<L.length):∃b c,v= .slice (some ⟨b,0,none⟩) L.length c/\base<=b/\b<w.heap.size:=by
 have hlt:=World.ownsRow.lt h;obtain⟨h1,h2⟩:=h;rcases h2 with⟨rfl,h3⟩ | ⟨g,cap,cur,hv,hg,_⟩
 ·omega
 ·exact⟨g,cap,hv,hg,(hlt g (by rw[hv];rfl)).2⟩
theorem aDT {L:List Ent} {i:Nat} (hi:i<L.length) (x:Ent):(((flat Ent.enc L).set (i*3) (.int .i64 x.place)).set (i*3+1) (.int .i64 x.order)).set (i*3+2) (.int .i64 x.out)=flat Ent.enc (L.set i x):=by
 apply List.ext_getElem?;intro k;have hl:=lB Ent.enc_len L;obtain⟨q,r,hr,rfl⟩:∃q r,r<3/\k=q*3+r:=⟨k / 3,k % 3,Nat.mod_lt _ (by omega),by omega⟩
 by_cases hq:q<L.length
 ·have hx:(L.set i x)[q]?=some (if i=q then x else L[q]):=by
   rw[List.getElem?_set];split
   ·rename_i h;subst h;simp
   ·simp[hq]
  rw[yD Ent.enc_len hx hr];have hL:L[q]?=some L[q]:=by simp[hq]
  have h2:=yD Ent.enc_len hL hr;simp only[List.getElem?_set,List.length_set]
  by_cases e:i=q
  ·subst e;rw[if_pos rfl];rcases(by omega:r=0\/r=1\/r=2)with rfl | rfl | rfl<;>simp[Ent.enc]<;>omega
  ·rw[if_neg (by omega),if_neg (by omega),if_neg (by omega),if_neg e];exact h2
 ·rw[List.getElem?_eq_none (by simp only[List.length_set];omega),List.getElem?_eq_none (by rw[lB Ent.enc_len];simp only[List.length_set];omega)]
structure Key (P:Prop):Prop where
 out:P
theorem dR {G:Prop} (P:Prop) (f:Key P->G) (p:P):G:=f ⟨p⟩
theorem Ent.put {e:TypeId} {w:World} {base b n c:Nat} {L:List Ent} (h:iA Ent.enc 3 e w base (.slice (some ⟨b,0,none⟩) n c) L) {i:Nat} (hi:i<L.length) (x:Ent):
  iA Ent.enc 3 e (w.setCells b (i*3) x.enc) base (.slice (some ⟨b,0,none⟩) n c) (L.set i x)/\w.grownBy (w.setCells b (i*3) x.enc) (some b)/\(w.setCells b (i*3) x.enc).heap.size=w.heap.size:=by
 obtain⟨ao,cap,e0,_⟩:=h.sl;obtain⟨_,hn,_⟩:=Value.slice.inj e0;have h0:w.ownsRow base e 3 (.slice (some ⟨b,0,none⟩) n c) n (flat Ent.enc L):=by have:=h;unfold iA at this;rw[<-hn]at this;exact this
 obtain⟨h1,g1⟩:=World.ownsRow.stored h0 (i*3) (.int .i64 x.place);obtain⟨h2,g2⟩:=World.ownsRow.stored h1 (i*3+1) (.int .i64 x.order);obtain⟨h3,g3⟩:=World.ownsRow.stored h2 (i*3+2) (.int .i64 x.out);rw[aDT hi x]at h3;refine⟨?_,g1.trans (g2.trans g3),by simp[World.setCells,Ent.enc]⟩;unfold iA;rw[List.length_set,<-hn];exact h3
theorem Ent.free {e:TypeId} {w:World} {base b n c:Nat} {L:List Ent} (h:iA Ent.enc 3 e w base (.slice (some ⟨b,0,none⟩) n c) L) (o:Nat):w.frozen? ⟨b,o,none⟩=false:=by
 obtain⟨ao,cap,e0,_⟩:=h.sl;obtain⟨_,hn,_⟩:=Value.slice.inj e0;have h0:w.ownsRow base e 3 (.slice (some ⟨b,0,none⟩) n c) n (flat Ent.enc L):=by have:=h;unfold iA at this;rw[<-hn]at this;exact this
 exact World.ownsRow.frozenAt h0 _
theorem mY {L:List Ent} (h:fF L) {i j:Nat} (hi:i<L.length) (hj:j<L.length):fF (swp L i j):=by
 intro p q hp hq he;rw[jC]at hp hq;rw[F7 p hi hj,F7 q hi hj]at he;have hP:=h p q hp hq;have h1:=h i q hi hq;have h2:=h j q hj hq;have h3:=h p i hp hi;have h4:=h p j hp hj;have h5:=h i j hi hj;have h6:=h j i hj hi;split at he<;>split at he<;>(try split at he)<;>(try split at he)<;>first | omega | (have:=h1 he;omega) | (have:=h2 he;omega) | (have:=h3 he;omega) | (have:=h4 he;omega) | (have:=h5 he;omega) | (have:=h6 he;omega) | (have:=hP he;omega)
theorem atL_swp {L:List Ent} (h:fF L) {i j:Nat} (hi:i<L.length) (hj:j<L.length) (p:Int):
  atL (swp L i j) p=if p=(en L i).place then some (j:Int)else if p=(en L j).place then some (i:Int)else atL L p:=by
 have hS:=mY h hi hj;have hE:=fun k=>F7 (L:=L) (i:=i) (j:=j) k hi hj
 split
 ·rename_i e;rw[vC hS,jC];exact⟨hj,by rw[hE j,if_pos rfl,e]⟩
 ·rename_i e1;split
  ·rename_i e;rw[vC hS,jC];refine⟨hi,?_⟩;rw[hE i]
   by_cases e2:i=j
   ·subst e2;exact absurd e e1
   ·rw[if_neg e2,if_pos rfl,e]
  ·rename_i e2
   cases hL:atL L p with
   | none=>
    rw[iH]at hL |-;intro k hk;rw[jC]at hk;rw[hE k];split
    ·exact fun e=>e1 e.symm
    ·split
     ·exact fun e=>e2 e.symm
     ·exact hL k hk
   | some c=>
    obtain⟨k,rfl⟩:∃k:Nat,c=(k:Int):=by
     unfold atL at hL;rw[Option.map_eq_some_iff]at hL;obtain⟨k,_,e⟩:=hL;exact⟨k,e.symm⟩
    rw[vC h]at hL;rw[vC hS,jC];refine⟨hL.1,?_⟩;rw[hE k,if_neg (fun e=>e2 (by rw[<-hL.2,e])),if_neg (fun e=>e1 (by rw[<-hL.2,e]))];exact hL.2
theorem aCm {L:List Ent} {i j:Nat} (hi:i<L.length) (hj:j<L.length) {e:Ent} (h:e∈swp L i j):e∈L:=by
 obtain⟨k,hk,rfl⟩:=List.getElem_of_mem h;rw[gD hk];rw[jC]at hk;rw[F7 k hi hj];split
 ·exact List.mem_of_getElem? (dE hi)
 ·split
  ·exact List.mem_of_getElem? (dE hj)
  ·exact List.mem_of_getElem? (dE hk)
theorem Trod.row {w W:World} {g mb b n c:Nat} (h:w.grownBy W (some b)):Trod w W g mb (.slice (some ⟨b,0,none⟩) n c) (.slice (some ⟨b,0,none⟩) n c):=
 ⟨h.os,h.tape,h.output,h.size,fun q hq _ _ hne=>h.block q hq (fun e=>hne e.symm),fun q hq=> .inl hq⟩
theorem Trod.setMap {w W:World} {g mb:Nat} {v v':Value} (h:Trod w W g mb v v') (o:Obj):Trod w (ChangeMaps.setBlock W mb o) g mb v v':=
 ⟨h.os,h.tape,h.output,by have:=h.size;simp[ChangeMaps.setBlock];exact this,fun q hq h1 h2 h3=>by
  rw[<-h.block q hq h1 h2 h3];show(W.heap.setIfInBounds mb o)[q]?=_
  rw[Array.getElem?_setIfInBounds_ne (fun e=>h2 e.symm)],h.new⟩
structure Half (w W:World) (base g mb b rc:Nat) (L:List Ent) (i j:Nat):Prop where
 row:iA Ent.enc 3 256 W base (.slice (some ⟨b,0,none⟩) L.length rc) (swp L i j)
 trod:Trod w W g mb (.slice (some ⟨b,0,none⟩) L.length rc) (.slice (some ⟨b,0,none⟩) L.length rc)
 box:W.heap[g]?=w.heap[g]?
 map_:W.heap[mb]?=w.heap[mb]?
theorem half {w:World} {base g mb b rc:Nat} {L:List Ent} (h:aB w base g mb (.slice (some ⟨b,0,none⟩) L.length rc) L) {i j:Nat} (hi:i<L.length) (hj:j<L.length) {x y:Ent} (hx:en L i=x) (hy:en L j=y):
  Half w ((w.setCells b (i*3) y.enc).setCells b (j*3) x.enc).drew base g mb b rc L i j:=by
 obtain⟨hA,hAg,hAs⟩:=Ent.put h.row hi y;obtain⟨hB,hBg,hBs⟩:=Ent.put hA (i:=j) (by simpa using hj) x;have hf:=h.far b rfl;have hgl:=(Array.getElem?_eq_some_iff.1 h.box).1;have hml:=h.at_.lt;have hT:=hAg.trans hBg;generalize (w.setCells b (i*3) y.enc).setCells b (j*3) x.enc=W0 at hB hT |-;have hT':Trod w W0 g mb (.slice (some ⟨b,0,none⟩) L.length rc) (.slice (some ⟨b,0,none⟩) L.length rc):=Trod.row hT;have h1:W0.heap[g]?=w.heap[g]? :=hT.block g hgl (fun e=>hf.1 (Option.some.inj e).symm)
 have h2:W0.heap[mb]?=w.heap[mb]? :=hT.block mb hml (fun e=>hf.2 (Option.some.inj e).symm)
 have h3:iA Ent.enc 3 256 W0.drew base (.slice (some ⟨b,0,none⟩) L.length rc) (swp L i j):=by
  have:=iA.drewN hB 1;unfold swp;rw[hx,hy];exact this
 exact⟨h3,hT'.drew,h1,h2⟩
theorem swapped {w W W2:World} {base g mb b rc:Nat} {L:List Ent} (h:aB w base g mb (.slice (some ⟨b,0,none⟩) L.length rc) L) {i j:Nat} (hi:i<L.length) (hj:j<L.length) (hH:Half w W base g mb b rc L i j)
  {f:Int->Option Int} (hM:A0 iV 3 W2 mb L.length f) (hf:∀p,f p=atL (swp L i j) p) (hW:∀q,q≠mb->W2.heap[q]?=W.heap[q]?):aB W2 base g mb (.slice (some ⟨b,0,none⟩) L.length rc) (swp L i j):=by
 have hfar:=h.far b rfl;refine⟨(hW g h.lo.2.2).trans (hH.box.trans h.box),jA hH.row (fun q hq=> ?_),?_,mY h.once hi hj,fun e he=>h.ok e (aCm hi hj he),h.far,h.lo,by rw[jC];exact h.small⟩
 ·obtain rfl:b=q:=by simpa[Value.ownBlock]using hq
  exact hW _ hfar.2
 ·rw[jC];exact hM.congr rfl (fun s _=>hf s)
theorem aAw {w W:World} {base g mb b rc:Nat} {L:List Ent} (h:aB w base g mb (.slice (some ⟨b,0,none⟩) L.length rc) L) {i j:Nat} (hi:i<L.length) (hj:j<L.length) {x y:Ent} (hx:en L i=x) (hy:en L j=y) (hH:Half w W base g mb b rc L i j):
  W.cell? ⟨g,0,none⟩=some (.slice (some ⟨b,0,none⟩) L.length rc)/\W.cell? ⟨g,1,none⟩=some (.map (some mb))/\W.cell? ⟨b,j*3,none⟩=some (.int .i64 x.place)/\W.cell? ⟨b,i*3,none⟩=some (.int .i64 y.place):=by
 obtain⟨b0,b1,_⟩:=yH (hH.box.trans h.box);obtain⟨ro,rc',e,hsl⟩:=hH.row.sl;obtain⟨e1,_,e2⟩:=Value.slice.inj e;subst e1 e2;obtain⟨b',o',hao',hci⟩:=hsl.elem Ent.enc_len (by omega) (dE (L:=swp L i j) (i:=i) (by rw[jC];exact hi));simp only[Option.some.injEq,Addr.mk.injEq,and_true]at hao';obtain⟨rfl,rfl⟩:=hao';obtain⟨b',o',hao',hcj⟩:=hsl.elem Ent.enc_len (by omega) (dE (L:=swp L i j) (i:=j) (by rw[jC];exact hj));simp only[Option.some.injEq,Addr.mk.injEq,and_true]at hao';obtain⟨rfl,rfl⟩:=hao';have d:=hci 0 _ rfl;have e:=hcj 0 _ rfl;simp only[Nat.zero_add,Nat.add_zero]at d e;rw[F7 _ hi hj]at d e;refine⟨b0,b1,by rw[if_pos rfl,hx]at e;exact e,?_⟩
 by_cases e2:i=j
 ·subst e2;rw[if_pos rfl,hx]at d;rw[<-hy,hx];exact d
 ·rw[if_neg e2,if_pos rfl,hy]at d;exact d
theorem aDb {w W:World} {base g mb b rc:Nat} {L:List Ent} (h:aB w base g mb (.slice (some ⟨b,0,none⟩) L.length rc) L) {i j:Nat} (hi:i<L.length) (hj:j<L.length) {x y:Ent} (hx:en L i=x) (hy:en L j=y) (hH:Half w W base g mb b rc L i j):
  ∃sy sx W1 W2,(Instr.mapEntry 281 (.map (some mb)) (.int .i64 y.place)).run Tryz.prog W.drew= .ok (.tuple #[.int .i64 j,sy]) W.drew
   /\(Instr.mapEntry 281 (.map (some mb)) (.int .i64 x.place)).run Tryz.prog W.drew= .ok (.tuple #[.int .i64 i,sx]) W.drew
   /\(Instr.entryStore 281 (.map (some mb)) sy (.int .i64 i)).run Tryz.prog W.drew= .ok () W1
   /\(Instr.mapEntry 281 (.map (some mb)) (.int .i64 x.place)).run Tryz.prog W1= .ok (.tuple #[.int .i64 i,sx]) W1
   /\(Instr.entryStore 281 (.map (some mb)) sx (.int .i64 j)).run Tryz.prog W1= .ok () W2
   /\(∀q,q≠mb->W1.heap[q]?=W.heap[q]?)/\(∀q,q≠mb->W2.heap[q]?=W.heap[q]?)
   /\aB W2 base g mb (.slice (some ⟨b,0,none⟩) L.length rc) (swp L i j)/\Trod w W2 g mb (.slice (some ⟨b,0,none⟩) L.length rc) (.slice (some ⟨b,0,none⟩) L.length rc):=by
 have hsm:=h.small;have hxk:(iV).ok x.place:=gC.2 (h.ok x (by rw[<-hx];exact List.mem_of_getElem? (dE hi)));have hyk:(iV).ok y.place:=gC.2 (h.ok y (by rw[<-hy];exact List.mem_of_getElem? (dE hj)));have hwi:(Lit.int .i64 (i:Int)).wf=true:=gC.2 (by omega);have hwj:(Lit.int .i64 (j:Int)).wf=true:=gC.2 (by omega);have hM:A0 iV 3 W.drew mb L.length (atL L):=h.at_.stay hH.map_;obtain⟨st,hS⟩:=A0.stamped Tryz.underlying281 Tryz.underlying3 gU hM;have fx:atL L x.place=some (i:Int):=(vC h.once).2 ⟨hi,by rw[hx]⟩;have fy:atL L y.place=some (j:Int):=(vC h.once).2 ⟨hj,by rw[hy]⟩;have r1:=dG.entry Tryz.underlying281 Tryz.underlying3 gU hS hyk fy;have r2:=dG.entry Tryz.underlying281 Tryz.underlying3 gU hS hxk fx;obtain⟨o1,r3,hS1⟩:=dG.store Tryz.underlying281 Tryz.underlying3 hS hyk (by rw[fy];rfl) hwi (by unfold maxLen;omega);have fx1:(fun t=>if t=y.place then some (i:Int)else atL L t) x.place=some (i:Int):=by
  simp only;split
  ·rfl
  ·exact fx
 have r4:=dG.entry Tryz.underlying281 Tryz.underlying3 gU hS1 hxk fx1;obtain⟨o2,r5,hS2⟩:=dG.store Tryz.underlying281 Tryz.underlying3 hS1 hxk (by simp only at fx1 |-;rw[fx1];rfl) hwj (by unfold maxLen;omega);refine⟨_,_,_,_,r1,r2,r3,r4,r5,fun q hq=> ?_,fun q hq=> ?_,swapped h hi hj hH hS2.rep (fun p=> ?_) (fun q hq=> ?_),((hH.trod.drew).setMap o1).setMap o2⟩
 ·simp only[ChangeMaps.setBlock];rw[Array.getElem?_setIfInBounds_ne (fun e=>hq e.symm)];rfl
 ·simp only[ChangeMaps.setBlock];rw[Array.getElem?_setIfInBounds_ne (fun e=>hq e.symm),Array.getElem?_setIfInBounds_ne (fun e=>hq e.symm)];rfl
 ·rw[atL_swp h.once hi hj,hx,hy]
 ·simp only[ChangeMaps.setBlock];rw[Array.getElem?_setIfInBounds_ne (fun e=>hq e.symm),Array.getElem?_setIfInBounds_ne (fun e=>hq e.symm)];rfl
theorem sC {base g mb:Nat} {v:Value} {L:List Ent} (i j:Nat) (w:World) (h:aB w base g mb v L) (hi:i<L.length) (hj:j<L.length):
  Calls Tryz.prog 280 #[.pointer (some ⟨g,0,none⟩), .int .i64 i, .int .i64 j] w fun e w'=>e= .returned (.tuple #[])/\aB w' base g mb v (swp L i j)/\Trod w w' g mb v v:=by
 obtain⟨b,rc,rfl,hbb,hbl⟩:=h.row.at0 (by omega);obtain⟨b0,b1,bf⟩:=yH h.box;have hrow:=h.row;obtain⟨ro,rc',e,hsl⟩:=h.row.sl;obtain⟨e1,_,e2⟩:=Value.slice.inj e;subst e1 e2;obtain⟨b',o',hao',hci⟩:=hsl.elem Ent.enc_len (by omega) (dE hi);simp only[Option.some.injEq,Addr.mk.injEq,and_true]at hao';obtain⟨rfl,rfl⟩:=hao';obtain⟨b',o',hao',hcj⟩:=hsl.elem Ent.enc_len (by omega) (dE hj);simp only[Option.some.injEq,Addr.mk.injEq,and_true]at hao';obtain⟨rfl,rfl⟩:=hao';have hsm:=h.small;obtain⟨x,hx⟩:∃x,en L i=x:=⟨_,rfl⟩;obtain⟨y,hy⟩:∃y,en L j=y:=⟨_,rfl⟩;rw[hx]at hci;rw[hy]at hcj;simp only[Nat.zero_add]at hci hcj;have d0:=hci 0 _ rfl;have d1:=hci 1 _ rfl;have d2:=hci 2 _ rfl;have e0:=hcj 0 _ rfl;have e1:=hcj 1 _ rfl;have e2:=hcj 2 _ rfl;rw[Nat.add_zero]at d0 e0;have gi:(i:Int)<(L.length:Int):=by omega
 have gj:(j:Int)<(L.length:Int):=by omega
 have gi0:(0:Int)<=(i:Int):=by omega
 have gj0:(0:Int)<=(j:Int):=by omega
 have hfr:=Ent.free hrow;have hHalf:=half h hi hj hx hy;obtain⟨W,hW⟩:∃W,((w.setCells b (i*3) y.enc).setCells b (j*3) x.enc).drew=W:=⟨_,rfl⟩;rw[hW]at hHalf;obtain⟨c0,c1,c2,c3⟩:=aAw h hi hj hx hy hHalf;obtain⟨sy,sx,W1,W2,r1,r2,r3,r4,r5,u1,u2,hP,hT⟩:=aDb h hi hj hx hy hHalf;have hgm:=h.lo.2.2;have hbm:=(h.far b rfl).2;have U1:W1.cell? ⟨g,0,none⟩=some (.slice (some ⟨b,0,none⟩) L.length rc)/\W1.cell? ⟨g,1,none⟩=some (.map (some mb))/\W1.cell? ⟨b,j*3,none⟩=some (.int .i64 x.place)/\W1.cell? ⟨b,i*3,none⟩=some (.int .i64 y.place):=by
  refine⟨?_,?_,?_,?_⟩<;>rw[World.cell?_of_block (w:=W) (u1 _ (by assumption))]<;>assumption
 have U2:W2.cell? ⟨g,0,none⟩=some (.slice (some ⟨b,0,none⟩) L.length rc)/\W2.cell? ⟨g,1,none⟩=some (.map (some mb))/\W2.cell? ⟨b,j*3,none⟩=some (.int .i64 x.place)/\W2.cell? ⟨b,i*3,none⟩=some (.int .i64 y.place):=by
  refine⟨?_,?_,?_,?_⟩<;>rw[World.cell?_of_block (w:=W) (u2 _ (by assumption))]<;>assumption
 have HP:=hW_ hP;have HT:=hW_ hT;have HW:=hW_ hW;have HXY:Hid (i=j->x=y):=hW_ (fun e=>by rw[<-hx,<-hy,e]);obtain⟨n,hn⟩:∃n,L.length=n:=⟨_,rfl⟩;rw[hn]at gi gj b0 hsm c0 HP HT U1 U2 |-;clear u1 u2 hgm hbm h hsl hci hcj hx hy hi hj hn hrow hHalf hP hT hW;go_enter Tryz.func280,Tryz.ntmps280;go_wp2_with (fail);refine dR ?keyP ?keyF ?keyH
 case keyF=>
  intro key
  by_cases hij:¬i=j
  ·have p00:¬(j*3=i*3):=by omega
   have p01:¬(j*3=i*3+1):=by omega
   have p02:¬(j*3=i*3+2):=by omega
   have p10:¬(j*3+1=i*3):=by omega
   have p12:¬(j*3+1=i*3+2):=by omega
   have p20:¬(j*3+2=i*3):=by omega
   have p21:¬(j*3+2=i*3+1):=by omega
   have q00:¬(i*3=j*3):=by omega
   have q01:¬(i*3=j*3+1):=by omega
   have q02:¬(i*3=j*3+2):=by omega
   have q10:¬(i*3+1=j*3):=by omega
   have q12:¬(i*3+1=j*3+2):=by omega
   have q20:¬(i*3+2=j*3):=by omega
   have q21:¬(i*3+2=j*3+1):=by omega
   have hji:¬j=i:=fun e=>hij e.symm
   go_big_region;change Exit.then _ _ _ _ ((w.setCells b (i*3) y.enc).setCells b (j*3) x.enc).drew;rw[HW.out];exact key.out
  ·have hij':i=j:=Classical.not_not.1 hij;obtain rfl:=HXY.out hij';subst hij';clear hij e0 e1 e2;go_big_region;change Exit.then _ _ _ _ ((w.setCells b (i*3) x.enc).setCells b (i*3) x.enc).drew;rw[HW.out];exact key.out
 clear b0 b1 d0 d1 d2 e0 e1 e2 hfr;go_wp2_with (fail)
 go_region_held3 (fun w'=>w'.cell? ⟨g,0,none⟩=some (.slice (some ⟨b,0,none⟩) n rc)/\w'.cell? ⟨g,1,none⟩=some (.map (some mb))/\w'.cell? ⟨b,j*3,none⟩=some (.int .i64 x.place)/\w'.cell? ⟨b,i*3,none⟩=some (.int .i64 y.place)) (first | assumption | go_keep) (fail)
 all_goals(go_wp2_with (fail);go_end0)
 all_goals exact⟨rfl,HP.out,HT.out⟩
end Go.Proofs.YtahiballegpbgaaGreatDoor
