/- Walk: pair.Table.Find: the merge of two tokens. -/
import Derived.Test.YtahiballegpbgaaGreatDoorR13
import Derived.Test.YtahiballegpbgaaGreatDoorR6
import Derived.Test.YtahiballegpbgaaGreatDoorR12
set_option linter.unusedVariables false
set_option maxHeartbeats 2000000
set_option maxRecDepth 100000
namespace Go.Proofs.YtahiballegpbgaaGreatDoor
open Go.RowKit
def vY (m:Mg):Value:= .agg #[.int .i64 m.left, .int .i64 m.right, .int .i64 m.out, .int .i64 m.order]
theorem aBs {M:List Mg} {a b:Int} (h:atM M M.length (a,b)=none):dD M a b=none:=by
 unfold dD;rw[List.find?_eq_none];intro m hm;obtain⟨i,hi,rfl⟩:=List.getElem_of_mem hm;have h1:=aAe h i hi;have h2:M[i]=mg M i:=by have:=F2 hi;rw[List.getElem?_eq_getElem hi]at this;exact Option.some.inj this
 rw[h2];simp only[Bool.and_eq_true,decide_eq_true_eq];rintro⟨rfl,rfl⟩;exact h1 rfl
theorem aBr {M:List Mg} (hp:M.Pairwise cG) {a b i:Int} (h:atM M M.length (a,b)=some i):∃k:Nat,i=k/\k<M.length/\dD M a b=some (mg M k):=by
 obtain⟨k,hk,rfl,e⟩:=aAd h;simp only[Prod.mk.injEq]at e;obtain⟨rfl,rfl⟩:=e;refine⟨k,rfl,hk,?_⟩;have hg:∀j (hj:j<M.length),M[j]=mg M j:=fun j hj=>by
  have:=F2 hj;rw[List.getElem?_eq_getElem hj]at this;exact Option.some.inj this
 unfold dD;rw[List.find?_eq_some_iff_getElem];refine⟨by simp,k,hk,hg k hk,fun j hj=> ?_⟩;rw[hg j (by omega)];have h1:=List.pairwise_iff_getElem.1 hp j k (by omega) hk hj;rw[hg j (by omega),hg k hk]at h1;unfold cG at h1;simp only[Bool.not_eq_true',Bool.and_eq_false_iff,decide_eq_false_iff_not];exact Decidable.not_and_iff_or_not.1 h1
def FindP (M:List Mg) (a b:Int) (w:World) (e:Ending) (w':World):Prop:=
 (∃m,e= .returned (.tuple #[vY m, .bool (dD M a b).isSome])/\∀m',dD M a b=some m'->m=m')/\Below w.heap.size w w'
theorem aBq {base pg:Nat} {M:List Mg} (a b:Int) (w:World) (h:mO w base pg M) (hp:M.Pairwise cG) (hl:M.length<=16384) (ha:(Lit.int .i64 a).wf=true) (hb:(Lit.int .i64 b).wf=true):
  Calls Tryz.prog 187 #[.pointer (some ⟨pg,0,none⟩), .int .i64 a, .int .i64 b] w (FindP M a b w):=by
 obtain⟨lo,mo,mc,mb,sz,hx,ho,hm,hmb⟩:=h;obtain⟨w1,hw1⟩:∃w1,w.alloc (.cells #[.int .i64 0, .int .i64 0, .int .i64 0, .int .i64 0] 170)=w1:=⟨_,rfl⟩;have hb1:Below w.heap.size w w1:=hw1▸aA w _;have hx1:w1.heap[w.heap.size]?=some (.cells #[.int .i64 0, .int .i64 0, .int .i64 0, .int .i64 0] 170):=by rw[<-hw1];exact heap_alloc_new w _
 obtain⟨b0,b1⟩:w1.cell? ⟨pg,0,none⟩=some (.slice mo M.length mc)/\w1.cell? ⟨pg,1,none⟩=some (.map (some mb)):=by
  have:=(hb1.block pg (Array.getElem?_eq_some_iff.1 hx).1).trans hx;simp[World.cell?,this]
 obtain⟨x0,x1,x2,x3⟩:=fH hx1;have hfr:∀o,w1.frozen? ⟨w.heap.size,o,none⟩=false:=fun o=>by simp[World.frozen?,hx1]
 have hlk:(Instr.lookup 208 (.map (some mb)) (.agg #[.int .i64 a, .int .i64 b]) true).run Tryz.prog w1= .ok (.tuple #[.int .i64 ((atM M M.length (a,b)).getD 0), .bool (atM M M.length (a,b)).isSome]) w1:=
  A0.getOk (V:=M7) (s:=(a,b)) Tryz.underlying208 Tryz.underlying3 zE (hm.below hb1) ⟨ha,hb⟩
 have ho1:=iA.below ho hb1;have HW1:=hW_ hw1;have HB1:=hW_ hb1
 cases hat:atM M M.length (a,b)with
 | none=>
  have HF:=hW_ (aBs hat);rw[hat]at hlk;simp only[Option.getD_none,Option.isSome_none]at hlk;rw[<-hw1]at b0 b1 x0 x1 x2 x3 hlk;simp only[<-hw1]at hfr;clear ho1 ho hm hx hx1 hw1 hb1 hat hp hl;go_enter Tryz.func187,Tryz.ntmps187;go_wp2_with (fail);refine bodyPost_ret (v:= .tuple #[vY ⟨0,0,0,0⟩, .bool false]) ?_ rfl ⟨⟨⟨0,0,0,0⟩,by rw[HF.out];rfl,fun m' hm'=>by rw[HF.out]at hm';cases hm'⟩,by rw[HW1.out];exact HB1.out⟩
  simp[results,Tryz.results187,go_sem,x0,x1,x2,x3,vY]
 | some i=>
  obtain⟨k,rfl,hk,hfm⟩:=aBr hp hat;have HF:=hW_ hfm;rw[hat]at hlk;simp only[Option.getD_some,Option.isSome_some]at hlk;obtain⟨ro,rc,e0,hsl⟩:=ho1.sl;obtain⟨rfl,_,rfl⟩:=Value.slice.inj e0;obtain⟨bq,o,hao,hci⟩:=hsl.elem Mg.enc_len (by omega) (F2 hk);subst hao;obtain⟨⟨l,r,od,d⟩,hmk⟩:∃m,mg M k=m:=⟨_,rfl⟩;rw[hmk]at hci HF;have d0:=hci 0 _ rfl;have d1:=hci 1 _ rfl;have d2:=hci 2 _ rfl;have d3:=hci 3 _ rfl;rw[Nat.add_zero]at d0;simp only at d0 d1 d2 d3;have gk:(k:Int)<(M.length:Int):=by omega
  have gk0:(0:Int)<=(k:Int):=by omega
  obtain⟨n,hn⟩:∃n,M.length=n:=⟨_,rfl⟩;rw[hn]at gk b0;rw[<-hw1]at b0 b1 x0 x1 x2 x3 hlk d0 d1 d2 d3;simp only[<-hw1]at hfr;clear ho1 ho hm hx hx1 hw1 hb1 hat hp hl hsl hci hk hmk hn hfm e0;go_enter Tryz.func187,Tryz.ntmps187;go_wp2_with (fail);refine bodyPost_ret (v:= .tuple #[vY ⟨l,r,od,d⟩, .bool true]) ?_ rfl ⟨⟨⟨l,r,od,d⟩,by rw[HF.out];rfl,fun m' hm'=>by rw[HF.out]at hm';exact Option.some.inj hm'⟩,aA w _⟩
  obtain⟨y0,y1,y2,y3⟩:=fH (heap_alloc_new w (.cells #[.int .i64 l, .int .i64 r, .int .i64 od, .int .i64 d] 170));simp[results,Tryz.results187,go_sem,y0,y1,y2,y3,vY]
open Go.RowKit Go.ChangeMaps
abbrev J5 (w:World) (base b n c:Nat) (A:List Int):Prop:=w.ownsRow base 3 1 (.slice (some ⟨b,0,none⟩) n c) n (A.map (.int .i64))
theorem J5.len {w:World} {base b n c:Nat} {A:List Int} (h:J5 w base b n c A):A.length=n:=by have:=h.1;simpa using this
theorem J5.cell {w:World} {base b n c:Nat} {A:List Int} (h:J5 w base b n c A) {i:Nat} {x:Int} (hi:A[i]?=some x):w.cell? ⟨b,i,none⟩=some (.int .i64 x):=by
 have hl:=h.len;have:=(List.getElem?_eq_some_iff.1 hi).1;rw[World.ownsRow.cellAt h i (by omega),List.getElem?_map,hi];rfl
theorem J5.frozen {w:World} {base b n c:Nat} {A:List Int} (h:J5 w base b n c A) (o:Nat):w.frozen? ⟨b,o,none⟩=false:=World.ownsRow.frozenAt h o
theorem J5.set {w:World} {base b n c:Nat} {A:List Int} (h:J5 w base b n c A) (i:Nat) (x:Int):J5 (w.setCell ⟨b,i,none⟩ (.int .i64 x)) base b n c (A.set i x):=by
 have:=(World.ownsRow.stored h i (.int .i64 x)).1;unfold J5;rw[List.map_set];exact this
theorem J5.stay {w w':World} {base b n c:Nat} {A:List Int} (h:J5 w base b n c A) (hk:w'.heap[b]?=w.heap[b]?):J5 w' base b n c A:=jA h (fun q hq=>by
 obtain rfl:b=q:=by simpa[Value.ownBlock]using hq
 exact hk)
theorem J5.lt {w:World} {base b n c:Nat} {A:List Int} (h:J5 w base b n c A):base<=b/\b<w.heap.size:=World.ownsRow.lt h b rfl
structure Cx where
 base:Nat
 n:Nat
 kb:Nat
 g:Nat
 mb:Nat
 rb:Nat
 lb:Nat
 tb:Nat
 rc:Nat
 lc:Nat
 tc:Nat
 pg:Nat
structure Apart (c:Cx):Prop where
 kg:c.kb≠c.g
 km:c.kb≠c.mb
 kr:c.kb≠c.rb
 kl:c.kb≠c.lb
 kt:c.kb≠c.tb
 rg:c.rb≠c.g
 rm:c.rb≠c.mb
 lg:c.lb≠c.g
 lm:c.lb≠c.mb
 tg:c.tb≠c.g
 tm:c.tb≠c.mb
 rl:c.rb≠c.lb
 rt:c.rb≠c.tb
 lt:c.lb≠c.tb
structure ChV (w:World) (c:Cx) (va:Value) (Rw Lf Rt:List Int) (L:List Ent):Prop where
 box:w.heap[c.kb]?=some (.cells #[.slice (some ⟨c.rb,0,none⟩) c.n c.rc, .slice (some ⟨c.lb,0,none⟩) c.n c.lc, .slice (some ⟨c.tb,0,none⟩) c.n c.tc, .func (.func 187) #[.pointer (some ⟨c.pg,0,none⟩)] #[], .pointer (some ⟨c.g,0,none⟩)] 253)
 row:J5 w c.base c.rb c.n c.rc Rw
 left:J5 w c.base c.lb c.n c.lc Lf
 right:J5 w c.base c.tb c.n c.tc Rt
 ag:AgV w c.base c.g c.mb va L
 lo:c.base<=c.kb
 ne:Apart c
 far:∀q,va.ownBlock=some q->q≠c.kb/\q≠c.rb/\q≠c.lb/\q≠c.tb
section
variable {w w':World} {c:Cx} {va va':Value} {Rw Lf Rt:List Int} {L L':List Ent}
theorem ChV.stay (h:ChV w c va Rw Lf Rt L) (hk:∀q,q<w.heap.size->w'.heap[q]?=w.heap[q]?):ChV w' c va Rw Lf Rt L:=
 ⟨(hk _ (Array.getElem?_eq_some_iff.1 h.box).1).trans h.box,h.row.stay (hk _ h.row.lt.2),h.left.stay (hk _ h.left.lt.2),h.right.stay (hk _ h.right.lt.2),h.ag.stay hk,h.lo,h.ne,h.far⟩
theorem ChV.below (h:ChV w c va Rw Lf Rt L) (hb:Below w.heap.size w w'):ChV w' c va Rw Lf Rt L:=h.stay (fun q hq=>hb.block q hq)
theorem ChV.cells (h:ChV w c va Rw Lf Rt L):w.cell? ⟨c.kb,0,none⟩=some (.slice (some ⟨c.rb,0,none⟩) c.n c.rc)/\w.cell? ⟨c.kb,1,none⟩=some (.slice (some ⟨c.lb,0,none⟩) c.n c.lc)/\w.cell? ⟨c.kb,2,none⟩=some (.slice (some ⟨c.tb,0,none⟩) c.n c.tc)/\
  w.cell? ⟨c.kb,3,none⟩=some (.func (.func 187) #[.pointer (some ⟨c.pg,0,none⟩)] #[])/\w.cell? ⟨c.kb,4,none⟩=some (.pointer (some ⟨c.g,0,none⟩)):=by
 simp[World.cell?,h.box]
theorem ChV.turn (h:ChV w c va Rw Lf Rt L) (hA:AgV w' c.base c.g c.mb va' L') (hT:Trod w w' c.g c.mb va va'):ChV w' c va' Rw Lf Rt L':=by
 have hne:=h.ne;have hfar:=h.far;have hkb:=(Array.getElem?_eq_some_iff.1 h.box).1;refine⟨(hT.block _ hkb hne.kg hne.km (fun e=>(hfar _ e).1 rfl)).trans h.box,h.row.stay (hT.block _ h.row.lt.2 hne.rg hne.rm (fun e=>(hfar _ e).2.1 rfl)),h.left.stay (hT.block _ h.left.lt.2 hne.lg hne.lm (fun e=>(hfar _ e).2.2.1 rfl)),
  h.right.stay (hT.block _ h.right.lt.2 hne.tg hne.tm (fun e=>(hfar _ e).2.2.2 rfl)),hA,h.lo,hne,fun q hq=> ?_⟩
 rcases hT.new q hq with h1 | h1
 ·exact hfar q h1
 ·have:=h.row.lt.2;have:=h.left.lt.2;have:=h.right.lt.2;exact⟨by omega,by omega,by omega,by omega⟩
theorem ChV.setOther (h:ChV w c va Rw Lf Rt L) {b:Nat} (hk:c.kb≠b) (hg:c.g≠b) (hm:c.mb≠b) (hf:∀q,va.ownBlock=some q->q≠b) (i:Nat) (u:Value):AgV (w.setCell ⟨b,i,none⟩ u) c.base c.g c.mb va L/\(w.setCell ⟨b,i,none⟩ u).heap[c.kb]?=w.heap[c.kb]? :=by
 have hs:∀q,q≠b->(w.setCell ⟨b,i,none⟩ u).heap[q]?=w.heap[q]? :=fun q hq=>heap_setCell_other w ⟨b,i,none⟩ q u hq
 refine⟨h.ag.other (fun q hq=> ?_),hs _ hk⟩;rcases hq with rfl | rfl | hq
 ·exact hs _ hg
 ·exact hs _ hm
 ·exact hs _ (hf q hq)
theorem ChV.setRow (h:ChV w c va Rw Lf Rt L) (i:Nat) (x:Int):ChV (w.setCell ⟨c.rb,i,none⟩ (.int .i64 x)) c va (Rw.set i x) Lf Rt L:=by
 have hne:=h.ne;obtain⟨h1,h2⟩:=h.setOther hne.kr hne.rg.symm hne.rm.symm (fun q hq=>(h.far q hq).2.1) i (.int .i64 x);have hk:∀q,q≠c.rb->(w.setCell ⟨c.rb,i,none⟩ (.int .i64 x)).heap[q]?=w.heap[q]? :=fun q hq=>heap_setCell_other w ⟨c.rb,i,none⟩ q _ hq
 exact⟨h2.trans h.box,h.row.set i x,h.left.stay (hk _ hne.rl.symm),h.right.stay (hk _ hne.rt.symm),h1,h.lo,h.ne,h.far⟩
theorem ChV.setLeft (h:ChV w c va Rw Lf Rt L) (i:Nat) (x:Int):ChV (w.setCell ⟨c.lb,i,none⟩ (.int .i64 x)) c va Rw (Lf.set i x) Rt L:=by
 have hne:=h.ne;obtain⟨h1,h2⟩:=h.setOther hne.kl hne.lg.symm hne.lm.symm (fun q hq=>(h.far q hq).2.2.1) i (.int .i64 x);have hk:∀q,q≠c.lb->(w.setCell ⟨c.lb,i,none⟩ (.int .i64 x)).heap[q]?=w.heap[q]? :=fun q hq=>heap_setCell_other w ⟨c.lb,i,none⟩ q _ hq
 exact⟨h2.trans h.box,h.row.stay (hk _ hne.rl),h.left.set i x,h.right.stay (hk _ hne.lt.symm),h1,h.lo,h.ne,h.far⟩
theorem ChV.setRight (h:ChV w c va Rw Lf Rt L) (i:Nat) (x:Int):ChV (w.setCell ⟨c.tb,i,none⟩ (.int .i64 x)) c va Rw Lf (Rt.set i x) L:=by
 have hne:=h.ne;obtain⟨h1,h2⟩:=h.setOther hne.kt hne.tg.symm hne.tm.symm (fun q hq=>(h.far q hq).2.2.2) i (.int .i64 x);have hk:∀q,q≠c.tb->(w.setCell ⟨c.tb,i,none⟩ (.int .i64 x)).heap[q]?=w.heap[q]? :=fun q hq=>heap_setCell_other w ⟨c.tb,i,none⟩ q _ hq
 exact⟨h2.trans h.box,h.row.stay (hk _ hne.rt),h.left.stay (hk _ hne.lt),h.right.set i x,h1,h.lo,h.ne,h.far⟩
theorem fR (hA:AgV w c.base c.g c.mb va L) (hT:Trod w w' c.g c.mb va va') (hb:c.base<=w.heap.size):Below c.base w w':=
 ⟨hT.os,hT.tape,hT.output,hT.size,fun q hq=>hT.block q (by omega) (by have:=hA.pile.lo;omega) (by have:=hA.pile.lo;omega) (fun e=>by have:=(World.ownsRow.lt hA.pile.row q e).1;omega)⟩
theorem ChV.base (h:ChV w c va Rw Lf Rt L):c.base<=w.heap.size:=by
 have:=h.row.lt;omega
end
structure Tb (W:World) (c:Cx) (M:List Mg):Prop where
 tab:∃pb,mO W pb c.pg M
 parts:M.Pairwise cG
 len:M.length<=16384
 base:c.base=W.heap.size
theorem mO.below {w w':World} {base g:Nat} {M:List Mg} (h:mO w base g M) (hb:Below w.heap.size w w'):mO w' base g M:=h.keep (fun q _ hq=>hb.block q hq) hb.size
theorem aCp (kb:Nat) (w:World):
  Calls Tryz.prog 189 #[.pointer (some ⟨kb,0,none⟩), .int .i64 (-1)] w fun e w'=>e= .returned (.tuple #[])/\w=w':=by
 go_enter Tryz.func189,Tryz.ntmps189;go_wp2_with (fail);refine bodyPost_ret (results_none rfl _ _ _) rfl ⟨rfl,rfl⟩
def pV (w:World) (c:Cx) (va:Value) (Rw Lf Rt:List Int) (L:List Ent) (p:Nat) (o:Option (Int×Int)) (e:Ending) (w':World):Prop:=
 e= .returned (.tuple #[])/\∃va' L',ChV w' c va' Rw Lf Rt L'/\(∀x,agL L' x=if x=(p:Int)then o else agL L x)/\L'.length<=L.length+1/\Trod w w' c.g c.mb va va'
theorem aDD {W0:World} {c:Cx} {va:Value} {Rw Lf Rt:List Int} {L:List Ent} (p:Nat) (w:World) (h:ChV w c va Rw Lf Rt L) (hp:p<c.n) (hn:c.n<=1048576) (hr:Rt[p]?=some (-1)):
  Calls Tryz.prog 189 #[.pointer (some ⟨c.kb,0,none⟩), .int .i64 p] w (pV w c va Rw Lf Rt L p none):=by
 have HD:=hW_ (aI (p:Int) w h.ag (by omega));obtain⟨b0,b1,b2,b3,b4⟩:=h.cells;have t0:=h.right.cell hr;have gp:(p:Int)<(c.n:Int):=by omega
 have gp0:(0:Int)<=(p:Int):=by omega
 have gn:¬(p:Int)= -1:=by omega
 have H:=hW_ h;clear h hp hr;obtain⟨base,n,kb,g,mb,rb,lb,tb,rc,lc,tc,pg⟩:=c;simp only at *;go_enter Tryz.func189,Tryz.ntmps189;go_wp2_with (fail);go_at_call 218;refine HD.out.mono ?_
 rintro e w2 ⟨⟨t,rfl⟩,v2,L2,hA2,hg2,hl2,hT2⟩;have HA2:=hW_ hA2;have HG2:=hW_ hg2;have HL2:=hW_ hl2;have HT2:=hW_ hT2;clear hA2 hg2 hl2 hT2;go_wp2_with (fail)
 go_end0
 exact⟨rfl,v2,L2,H.out.turn HA2.out HT2.out,HG2.out,Nat.le_succ_of_le HL2.out,HT2.out⟩
structure FrC (w w':World) (c:Cx) (va va':Value):Prop where
 os:w'.os=w.os
 tape:w'.tape=w.tape
 output:w'.output=w.output
 size:w.heap.size<=w'.heap.size
 block:∀q,q<w.heap.size->q≠c.g->q≠c.mb->q≠c.rb->q≠c.lb->q≠c.tb->va.ownBlock≠some q->w'.heap[q]?=w.heap[q]?
 new:∀q,va'.ownBlock=some q->va.ownBlock=some q\/w.heap.size<=q
theorem FrC.trans {w w1 w2:World} {c:Cx} {v v1 v2:Value} (h:FrC w w1 c v v1) (h2:FrC w1 w2 c v1 v2):FrC w w2 c v v2:=
 ⟨h2.os.trans h.os,h2.tape.trans h.tape,h2.output.trans h.output,Nat.le_trans h.size h2.size,fun q hq a b d e f g=>(h2.block q (Nat.lt_of_lt_of_le hq h.size) a b d e f (fun e=>by
  rcases h.new q e with h3 | h3
  ·exact g h3
  ·omega)).trans (h.block q hq a b d e f g),fun q hq=>by
  rcases h2.new q hq with h3 | h3
  ·exact h.new q h3
  ·exact .inr (Nat.le_trans h.size h3)⟩
theorem FrC.trod {w w':World} {c:Cx} {v v':Value} (h:Trod w w' c.g c.mb v v'):FrC w w' c v v':=⟨h.os,h.tape,h.output,h.size,fun q hq a b _ _ _ f=>h.block q hq a b f,h.new⟩
theorem FrC.below {w w':World} {c:Cx} {v:Value} (h:Below w.heap.size w w'):FrC w w' c v v:=FrC.trod (Trod.of h)
theorem FrC.set {w:World} {c:Cx} {v:Value} {b:Nat} (hb:b=c.rb\/b=c.lb\/b=c.tb) (i:Nat) (u:Value):FrC w (w.setCell ⟨b,i,none⟩ u) c v v:=
 ⟨rfl,rfl,rfl,by simp,fun q _ _ _ h1 h2 h3 _=>heap_setCell_other w ⟨b,i,none⟩ q u (by
  show q≠b;rcases hb with rfl | rfl | rfl
  ·exact h1
  ·exact h2
  ·exact h3),fun q hq=> .inl hq⟩
theorem FrC.base {w w':World} {c:Cx} {va va':Value} {Rw Lf Rt:List Int} {L:List Ent} (h:FrC w w' c va va') (hC:ChV w c va Rw Lf Rt L):Below c.base w w':=
 ⟨h.os,h.tape,h.output,h.size,fun q hq=>h.block q (by have:=hC.base;omega) (by have:=hC.ag.pile.lo.1;omega) (by have:=hC.ag.pile.lo.2.1;omega) (by have:=hC.row.lt;omega) (by have:=hC.left.lt;omega) (by have:=hC.right.lt;omega) (fun e=>by have:=(World.ownsRow.lt hC.ag.pile.row q e).1;omega)⟩
end Go.Proofs.YtahiballegpbgaaGreatDoor
