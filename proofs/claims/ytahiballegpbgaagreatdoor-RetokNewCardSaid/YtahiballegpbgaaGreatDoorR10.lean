/- Walk: the pile's Push. -/
import Derived.Test.YtahiballegpbgaaGreatDoorR9
import Derived.Deep.RegionLaw
import Derived.Deep.AppendLies
set_option linter.unusedVariables false
set_option maxHeartbeats 2000000
set_option maxRecDepth 100000
namespace Go.Proofs.YtahiballegpbgaaGreatDoor
open Go.RowKit
theorem nE {L:List Ent} {x:Ent} {k:Nat} (hk:k<L.length):en (L++ [x]) k=en L k:=by simp[en,List.getD,List.getElem?_append,hk]
theorem pD {L:List Ent} {x:Ent}:en (L++ [x]) L.length=x:=by simp[en,List.getD]
theorem oY {L:List Ent} {x:Ent} (h:fF L) (hx:∀i,i<L.length->(en L i).place≠x.place):fF (L++ [x]):=by
 intro i j hi hj e;simp only[List.length_append,List.length_cons,List.length_nil]at hi hj
 by_cases h1:i<L.length
 ·by_cases h2:j<L.length
  ·rw[nE h1,nE h2]at e;exact h i j h1 h2 e
  ·obtain rfl:j=L.length:=by omega
   rw[nE h1,pD]at e;exact absurd e (hx i h1)
 ·obtain rfl:i=L.length:=by omega
  by_cases h2:j<L.length
  ·rw[nE h2,pD]at e;exact absurd e.symm (hx j h2)
  ·omega
theorem aCH {L:List Ent} {x:Ent} (h:fF L) (hx:∀i,i<L.length->(en L i).place≠x.place) (p:Int):atL (L++ [x]) p=if p=x.place then some (L.length:Int)else atL L p:=by
 have hA:=oY h hx;split
 ·rename_i e;rw[vC hA];exact⟨by simp,by rw[pD,e]⟩
 ·rename_i e
  cases hL:atL L p with
  | none=>
   rw[iH]at hL |-;intro k hk;simp only[List.length_append,List.length_cons,List.length_nil]at hk
   by_cases h1:k<L.length
   ·rw[nE h1];exact hL k h1
   ·obtain rfl:k=L.length:=by omega
    rw[pD];exact fun e2=>e e2.symm
  | some c=>
   obtain⟨k,rfl⟩:∃k:Nat,c=(k:Int):=by
    unfold atL at hL;rw[Option.map_eq_some_iff]at hL;obtain⟨k,_,e⟩:=hL;exact⟨k,e.symm⟩
   rw[vC h]at hL;rw[vC hA];exact⟨by simp;omega,by rw[nE hL.1];exact hL.2⟩
theorem bC {w:World} {g:Nat} {x y z:Value} {t:TypeId} (h:w.heap[g]?=some (.cells #[x,y,z] t)):w.cell? ⟨g,0,none⟩=some x/\w.cell? ⟨g,1,none⟩=some y/\w.cell? ⟨g,2,none⟩=some z:=by
 simp[World.cell?,h]
theorem aDk (v:Value) (xT:TypeId) (w:World):(Instr.typeAssert (.iface 256 v) xT 256 true).run Tryz.prog w= .ok (.tuple #[v, .bool true]) w:=by
 simp[Instr.typeAssert,run_underlying Tryz.underlying256,go_sem,Result.andThen]
theorem pushed {w wa w1 w2:World} {base g mb gg cap:Nat} {v:Value} {L:List Ent} {x:Ent} {o o2:Obj} (hPa:aB wa base g mb v L) (hx:∀i,i<L.length->(en L i).place≠x.place) (hp: -9223372036854775808<=x.place/\x.place<=9223372036854775807) (hn:L.length+1<=1048576)
  (hwa:w.alloc o=wa) (hM:A0 iV 3 w1 mb (if(none:Option Int).isSome=true then L.length else L.length+1) (fun t=>if t=x.place then some (L.length:Int)else atL L t)) (hg1:wa.drew.grownBy w1 (some mb))
  (hown:w2.ownsRow base 256 3 (.slice (some ⟨gg,0,none⟩) (L.length+1) cap) (L.length+1) (flat Ent.enc L++ [.int .i64 x.place, .int .i64 x.order, .int .i64 x.out]))
  (hgrow:(w1.alloc o2).drew.grownBy w2 v.ownBlock) (hat:v.ownBlock=some gg\/gg=w1.heap.size+1):
  aB (w2.setCell ⟨g,0,none⟩ (.slice (some ⟨gg,0,none⟩) (L.length+1) cap)) base g mb (.slice (some ⟨gg,0,none⟩) (L.length+1) cap) (L++ [x])/\Trod w (w2.setCell ⟨g,0,none⟩ (.slice (some ⟨gg,0,none⟩) (L.length+1) cap)) g mb v (.slice (some ⟨gg,0,none⟩) (L.length+1) cap):=by
 have hgl:=(Array.getElem?_eq_some_iff.1 hPa.box).1;have hml:=hPa.at_.lt;have hgm:=hPa.lo.2.2;have hs1:wa.heap.size<=w1.heap.size:=hg1.size;have hs2:w1.heap.size+1<=w2.heap.size:=by have:=hgrow.size;simpa using this
 have hwl:w.heap.size+1=wa.heap.size:=by rw[<-hwa];simp
 have k1:∀q,q<wa.heap.size->q≠mb->w1.heap[q]?=wa.heap[q]? :=fun q hq hne=>hg1.block q hq (fun e=>hne (Option.some.inj e))
 have k2:∀q,q<w1.heap.size->v.ownBlock≠some q->w2.heap[q]?=w1.heap[q]? :=fun q hq hne=>(hgrow.block q (by simp;omega) (fun e=>hne e.symm)).trans (Below.heap_alloc _ _ _ hq)
 have k3:∀q,q≠g->(w2.setCell ⟨g,0,none⟩ (.slice (some ⟨gg,0,none⟩) (L.length+1) cap)).heap[q]?=w2.heap[q]? :=fun q hq=>Below.heap_setCell _ _ _ _ hq
 have hgg:gg≠g/\gg≠mb:=by
  rcases hat with h | h
  ·exact hPa.far gg h
  ·omega
 have hx2:w2.heap[g]?=some (.cells #[v, .map (some mb)] 288):=(k2 g (by omega) (fun e=>(hPa.far g e).1 rfl)).trans ((k1 g hgl hgm).trans hPa.box)
 have hrow:iA Ent.enc 3 256 w2 base (.slice (some ⟨gg,0,none⟩) (L.length+1) cap) (L++ [x]):=by
  unfold iA;rw[cB,cE,List.length_append];exact hown
 refine⟨⟨?_,jA hrow (fun q hq=> ?_),?_,oY hPa.once hx,fun e he=> ?_,fun q hq=> ?_,hPa.lo,by simpa using hn⟩,⟨?_,?_,?_,?_,fun q hq h1 h2 h3=> ?_,fun q hq=> ?_⟩⟩
 ·rw[heap_setCell_same w2 g 0 _ _ _ hx2];rfl
 ·obtain rfl:gg=q:=by simpa[Value.ownBlock]using hq
  exact k3 _ hgg.1
 ·have h1:A0 iV 3 (w2.setCell ⟨g,0,none⟩ (.slice (some ⟨gg,0,none⟩) (L.length+1) cap)) mb _ _:=hM.stay ((k3 mb (fun e=>hgm e.symm)).trans (k2 mb (by omega) (fun e=>(hPa.far mb e).2 rfl)));exact h1.congr (by simp) (fun p _=>(aCH hPa.once hx p).symm)
 ·rcases List.mem_append.1 he with h | h
  ·exact hPa.ok e h
  ·obtain rfl:=List.mem_singleton.1 h;exact hp
 ·obtain rfl:gg=q:=by simpa[Value.ownBlock]using hq
  exact hgg
 ·show w2.os=w.os;rw[hgrow.os];show w1.os=_;rw[hg1.os];show wa.os=_;rw[<-hwa];rfl
 ·show w2.tape=w.tape;rw[hgrow.tape];show w1.tape=_;rw[hg1.tape];show wa.tape=_;rw[<-hwa];rfl
 ·show w2.output=w.output;rw[hgrow.output];show w1.output=_;rw[hg1.output];show wa.output=_;rw[<-hwa];rfl
 ·simp[World.setCell];omega
 ·rw[k3 q h1,k2 q (by omega) h3,k1 q (by omega) h2,<-hwa];exact Below.heap_alloc _ _ _ hq
 ·obtain rfl:gg=q:=by simpa[Value.ownBlock]using hq
  rcases hat with h | h
  ·exact .inl h
  ·exact .inr (by omega)
theorem R2 {base g mb:Nat} {v:Value} {L:List Ent} (x:Ent) (w:World) (h:aB w base g mb v L) (hx:∀i,i<L.length->(en L i).place≠x.place) (hp: -9223372036854775808<=x.place/\x.place<=9223372036854775807) (hn:L.length+1<=1048576) (hb:base<=w.heap.size):
  Calls Tryz.prog 279 #[.pointer (some ⟨g,0,none⟩), .iface 256 (.agg #[.int .i64 x.place, .int .i64 x.order, .int .i64 x.out])] w fun e w'=>e= .returned (.tuple #[])/\∃v',aB w' base g mb v' (L++ [x])/\Trod w w' g mb v v':=by
 obtain⟨b0,b1,bf⟩:=yH h.box;have hgl:=(Array.getElem?_eq_some_iff.1 h.box).1;have H:=hW_ h;have HX:=hW_ hx;have hta:=aDk;have hglH:w.heap[g]?=some (.cells #[v, .map (some mb)] 288):=h.box
 obtain⟨wa,hwa⟩:∃wa,w.alloc (.cells #[.int .i64 x.place, .int .i64 x.order, .int .i64 x.out] 256)=wa:=⟨_,rfl⟩;have HWA:=hW_ hwa;have hbw:Below w.heap.size w wa:=by rw[<-hwa];exact aA _ _
 have hPa:=h.below hbw;have hxb:=heap_alloc_new w (.cells #[.int .i64 x.place, .int .i64 x.order, .int .i64 x.out] 256);rw[hwa]at hxb;obtain⟨x0,x1,x2⟩:=bC hxb;obtain⟨b0,b1,bf⟩:=yH hPa.box;obtain⟨ro,rc,hv,hsl⟩:=hPa.row.sl;have hxk:(iV).ok x.place:=gC.2 hp;have hnone:atL L x.place=none:=iH.2 hx;obtain⟨w1,r1,hM,hg1⟩:=A0.update (w:=wa.drew) Tryz.underlying281 Tryz.underlying3 (hPa.at_.drewN 1) hxk (c:=(L.length:Int)) (gC.2 (by omega)) (by have:=h.small;unfold maxLen;omega);rw[hnone]at hM;have r1':(Instr.mapUpdate 281 (.map (some mb)) (.int .i64 x.place) (.int .i64 (L.length:Int))).run Tryz.prog wa.drew= .ok () w1:=r1;have hgm:=hPa.lo.2.2;have hml:=hPa.at_.lt;have hwl:w.heap.size<wa.heap.size:=by rw[<-hwa];simp
 have hwm:w.heap.size≠mb:=by have:=h.at_.lt;omega
 have hx1:w1.heap[w.heap.size]?=some (.cells #[.int .i64 x.place, .int .i64 x.order, .int .i64 x.out] 256):=(hg1.block _ (by simpa using hwl) (fun e=>hwm (Option.some.inj e))).trans hxb
 obtain⟨y0,y1,y2⟩:=bC hx1;have hb1:w1.heap[g]?=some (.cells #[v, .map (some mb)] 288):=(hg1.block _ (by have:=(Array.getElem?_eq_some_iff.1 hPa.box).1;simpa using this) (fun e=>hgm (Option.some.inj e))).trans hPa.box
 obtain⟨a0,a1,af⟩:=yH hb1;have hr1:iA Ent.enc 3 256 w1 base v L:=jA hPa.row (fun q hq=>(hg1.block _ (by have:=(World.ownsRow.lt hPa.row q hq).2;simpa using this) (fun e=>(hPa.far q hq).2 (Option.some.inj e))).trans rfl);have hlt:=World.ownsRow.lt hr1;have hs1:wa.heap.size<=w1.heap.size:=hg1.size;clear h hx hwa r1;subst hv;obtain⟨i0,z0,hi,hz0,hz1,hz2,hz3⟩:=B6 infoEnt;have HFAR:Hid (∀q,(Value.slice ro L.length rc).ownBlock=some q->q≠g/\q≠mb):=hW_ hPa.far;have HLT:=hW_ hlt;have HB1:=hW_ hb1;have HX1:=hW_ hx1;have HR1:=hW_ hr1;have HM:=hW_ hM;have HG1:=hW_ hg1;have HPA:=hW_ hPa;clear hM hg1 hPa hsl hnone hxb hglH hx1 hb1 hr1 hlt hgm;go_enter Tryz.func279,Tryz.ntmps279;go_wp2_with (fail);rw[HWA.out];have f0:=eA (aA w1 (.cells #[.int .i64 x.place, .int .i64 x.order, .int .i64 x.out] 256)) _ _ a0;go_region;go_wp2_with (fail)
 go_region_law (refine step_append_lies _ (by rfl) _ _ _ (by rfl) base 256 i0 z0 3 24 Tryz.underlying284 hi hz0 hz1 hz2 hz3 (by omega) _ L.length _ (by rfl) (World.ownsRow.alloc HR1.out _) ⟨w1.heap.size,0,none⟩ 1 1 [.int .i64 x.place, .int .i64 x.order, .int .i64 x.out] (by rfl) (by rfl) (World.news_of_block (cs:=#[.int .i64 x.place, .int .i64 x.order, .int .i64 x.out]) (heap_alloc_new w1 _)) (by simp[Value.oneCell']) (by omega) (by unfold maxLen;omega) (by omega) (by simp;omega) (w1.heap.size+1) (by simp) ?_;intro gg cap w2 hown2 hgrow hat hlt2;have hx2:=(hgrow.block g (by simp;omega) (fun e=>(HFAR.out g e.symm).1 rfl)).trans ((Below.heap_alloc _ _ _ (by omega)).trans HB1.out);obtain⟨k0,k1,kf⟩:=yH hx2)
 all_goals(
  have HF:=pushed HPA.out HX.out hp hn HWA.out HM.out HG1.out hown2 hgrow hat;have HF1:=hW_ HF.1;have HF2:=hW_ HF.2;clear HF hown2 hgrow hat hlt2 hx2;go_wp2_with (fail)
  go_end0
  exact⟨rfl,_,HF1.out,HF2.out⟩)
open Go.RowKit Go.ChangeMaps
theorem zX {P:Program} {k t e:TypeId} {α:Type} [DecidableEq α] {V:B4 P k α} {ops:Array Oper} {o:Oper} {a:Act} {w:World} {K:Act->World->Prop} {Q:Exit->Act->World->Prop} {E:Prop} (hgd:o.guard=none) (m x:Operand)
  (hop:o.op=Op.call {callee:=Callee.builtin Builtin.delete,args:=#[m,x],argTypes:=#[t,k]}) (ht:P.underlying t=some (.map k e)) {mb sz:Nat} {f:α->Option Int} (hm:a.eval m= .map (some mb)) (h:A0 V e w mb sz f)
  {s:α} (hx:a.eval x=V.val s) (hs:V.ok s)
  (hK:∀w',A0 V e w' mb (if(f s).isSome then sz-1 else sz) (fun t=>if t=s then none else f t)->w.mapTurned w' mb->K (a.put o.dst (.tuple #[])) w'):
  if Region.wanted o (yielded ops a.tmps)=true then Oper.wp P o a w K Q else E:=by
 have hw:Region.wanted o (yielded ops a.tmps)=true:=by simp[Region.wanted,hgd]
 rw[if_pos hw];obtain⟨w',hrun,r1,r2⟩:=A0.del ht h hs o.type;unfold Oper.wp;simp[execOp,hop,resolve,invoke,builtin,hm,hx,hrun,Result.andThen];exact hK w' r1 r2
theorem iA.pre {e:TypeId} {w:World} {base b n c:Nat} {M:List Ent} {x:Ent} (h:iA Ent.enc 3 e w base (.slice (some ⟨b,0,none⟩) n c) (M++ [x])):iA Ent.enc 3 e w base (.slice (some ⟨b,0,none⟩) M.length c) M:=by
 obtain⟨h1,h2⟩:=h;rcases h2 with⟨h3,_⟩ | ⟨g,cap,cur,hv,hg,hh,hn,hm,hs,ht⟩
 ·cases h3
 ·simp only[Value.slice.injEq,Option.some.injEq,Addr.mk.injEq,and_true]at hv;obtain⟨rfl,_,rfl⟩:=hv;have hl:(M++ [x]).length=M.length+1:=by simp
  refine⟨lB Ent.enc_len M, .inr ⟨b,c,cur,rfl,hg,hh,by omega,hm,hs,?_⟩⟩;have h4:(flat Ent.enc (M++ [x])).take (M.length*3)=flat Ent.enc M:=by
   rw[cB];exact List.take_left' (lB Ent.enc_len M)
  rw[<-h4,<-ht,List.take_take];congr 1;rw[hl];omega
theorem atL_pre {M:List Ent} {x:Ent} (h:fF (M++ [x])) (p:Int):(if p=x.place then none else atL (M++ [x]) p)=atL M p:=by
 have hM:fF M:=fun i j hi hj e=>h i j (by simp;omega) (by simp;omega) (by rw[nE hi,nE hj];exact e)
 have hx:∀i,i<M.length->(en M i).place≠x.place:=fun i hi e=>by
  have:=h i M.length (by simp;omega) (by simp) (by rw[nE hi,pD];exact e);omega
 rw[aCH hM hx];split
 ·rename_i e;rw[e];exact(iH.2 hx).symm
 ·rfl
theorem popped {w wa wb w3:World} {base g mb b n rc:Nat} {M:List Ent} {x:Ent} {o:Obj} (hPa:aB wa base g mb (.slice (some ⟨b,0,none⟩) (n+1) rc) (M++ [x])) (hn:M.length=n) (hwa:(w.alloc o).drew=wa)
  (hwb:(wa.setCell ⟨g,0,none⟩ (.slice (some ⟨b,0,none⟩) n rc)).drew=wb)
  (hM:A0 iV 3 w3 mb (if(atL (M++ [x]) x.place).isSome then n+1-1 else n+1) (fun t=>if t=x.place then none else atL (M++ [x]) t)) (hT:wb.drew.mapTurned w3 mb):
  aB w3 base g mb (.slice (some ⟨b,0,none⟩) n rc) M/\Trod w w3 g mb (.slice (some ⟨b,0,none⟩) (n+1) rc) (.slice (some ⟨b,0,none⟩) n rc):=by
 have hgl:=(Array.getElem?_eq_some_iff.1 hPa.box).1;have hgm:=hPa.lo.2.2;have hfb:=hPa.far b rfl;obtain⟨es,clock,es',clock',_,hw3⟩:=hT;have k3:∀q,q≠mb->w3.heap[q]?=wb.heap[q]? :=fun q hq=>by
  rw[hw3];show(wb.heap.setIfInBounds mb _)[q]?=_
  rw[Array.getElem?_setIfInBounds_ne (fun e=>hq e.symm)]
 have k2:∀q,q≠g->wb.heap[q]?=wa.heap[q]? :=fun q hq=>by
  rw[<-hwb];exact Below.heap_setCell _ _ _ _ hq
 have hs3:w3.heap.size=wa.heap.size:=by
  rw[hw3,<-hwb];simp[ChangeMaps.setBlock,World.setCell]
 have hsome:atL (M++ [x]) x.place=some (M.length:Int):=(vC hPa.once).2 ⟨by simp,by rw[pD]⟩;have hrow:iA Ent.enc 3 256 wa base (.slice (some ⟨b,0,none⟩) n rc) M:=by
  have:=iA.pre hPa.row;rw[hn]at this;exact this
 have hsm:=hPa.small;refine⟨⟨?_,jA hrow (fun q hq=> ?_),?_,fun i j hi hj e=>hPa.once i j (by simp;omega) (by simp;omega) (by rw[nE hi,nE hj];exact e),fun e he=>hPa.ok e (List.mem_append_left _ he),fun q hq=> ?_,hPa.lo,by simp at hsm;omega⟩,⟨?_,?_,?_,?_,fun q hq h1 h2 h3=> ?_,fun q hq=> ?_⟩⟩
 ·rw[k3 g hgm,<-hwb];show(wa.setCell _ _).heap[g]?=_
  rw[heap_setCell_same wa g 0 _ _ _ hPa.box];rfl
 ·obtain rfl:b=q:=by simpa[Value.ownBlock]using hq
  rw[k3 _ hfb.2,k2 _ hfb.1]
 ·refine hM.congr (by rw[hsome];simp;omega) (fun p _=>atL_pre hPa.once p)
 ·exact hPa.far q hq
 ·rw[hw3,<-hwb,<-hwa];rfl
 ·rw[hw3,<-hwb,<-hwa];rfl
 ·rw[hw3,<-hwb,<-hwa];rfl
 ·rw[hs3,<-hwa];simp
 ·rw[k3 q h2,k2 q h1,<-hwa];exact Below.heap_alloc _ _ _ hq
 ·exact .inl hq
theorem vF {base g mb:Nat} {v:Value} {M:List Ent} (x:Ent) (w:World) (h:aB w base g mb v (M++ [x])):
  Calls Tryz.prog 278 #[.pointer (some ⟨g,0,none⟩)] w fun e w'=>e= .returned (.iface 256 (.agg #[.int .i64 x.place, .int .i64 x.order, .int .i64 x.out]))/\∃v',aB w' base g mb v' M/\Trod w w' g mb v v':=by
 have hln:(M++ [x]).length=M.length+1:=by simp
 obtain⟨b,rc,rfl,hbb,hbl⟩:=h.row.at0 (by omega);have hsm:=h.small;obtain⟨ro,rc',e,hsl⟩:=h.row.sl;obtain⟨e1,_,e2⟩:=Value.slice.inj e;subst e1 e2;have hle:=hsl.le;obtain⟨b',o',hao',hci⟩:=hsl.elem Ent.enc_len (by omega) (dE (L:=M++ [x]) (i:=M.length) (by omega));simp only[Option.some.injEq,Addr.mk.injEq,and_true]at hao';obtain⟨rfl,rfl⟩:=hao';rw[pD]at hci;simp only[Nat.zero_add]at hci;have d0:=hci 0 _ rfl;have d1:=hci 1 _ rfl;have d2:=hci 2 _ rfl;rw[Nat.add_zero]at d0;rw[hln]at h hsm hle |-;obtain⟨b0,b1,bf⟩:=yH h.box;have gn:(M.length:Int)<(M.length:Int)+1:=by omega
 have gn0:(0:Int)<=(M.length:Int):=by omega
 have gc:(M.length:Int)<=(rc:Int):=by omega
 have H:=hW_ h;obtain⟨n,hn⟩:∃n,M.length=n:=⟨_,rfl⟩;rw[hn]at gn gn0 gc b0 d0 d1 d2 hsm hle hln H |-;have HN:=hW_ hn;have HLN:=hW_ hln;clear h hsl hci hn hln;go_enter Tryz.func278,Tryz.ntmps278;go_wp2_with (fail);have hwr:IntKind.i64.wrap (n:Int)=(n:Int):=by rw[IntKind.wrap_i64];omega
 go_region_held3 (fun w'=>w'.cell? ⟨g,0,none⟩=some (.slice (some ⟨b,0,none⟩) (n+1) rc)/\w'.cell? ⟨b,n*3,none⟩=some (.int .i64 x.place)/\w'.cell? ⟨b,n*3+1,none⟩=some (.int .i64 x.order)/\w'.cell? ⟨b,n*3+2,none⟩=some (.int .i64 x.out)) (first | assumption | go_keep) (fail)
 go_wp2_with (fail);obtain⟨wa,hwa⟩:∃wa,(w.alloc (.cells #[.int .i64 x.place, .int .i64 x.order, .int .i64 x.out] 256)).drew=wa:=⟨_,rfl⟩;rw[hwa];have hbw:Below w.heap.size w wa:=by rw[<-hwa];exact(aA _ _).drew
 have hxa:wa.heap[w.heap.size]?=some (.cells #[.int .i64 x.place, .int .i64 x.order, .int .i64 x.out] 256):=by rw[<-hwa];exact heap_alloc_new w _
 have hPa:=H.out.below hbw;have HWA:=hW_ hwa;have HPA:=hW_ hPa;have HXA:=hW_ hxa;clear b0 b1 bf d0 d1 d2;obtain⟨b0,b1,bf⟩:=yH hPa.box;obtain⟨x0,x1,x2⟩:=bC hxa;clear hwa hPa hxa hbw;go_region;obtain⟨wb,hwb⟩:∃wb,(wa.setCell ⟨g,0,none⟩ (.slice (some ⟨b,0,none⟩) n rc)).drew=wb:=⟨_,rfl⟩;rw[hwb];have hgH:g≠w.heap.size:=fun e=>by have:=(Array.getElem?_eq_some_iff.1 H.out.box).1;omega
 have hbb1:wb.heap[g]?=some (.cells #[.slice (some ⟨b,0,none⟩) n rc, .map (some mb)] 288):=by
  rw[<-hwb];show(wa.setCell _ _).heap[g]?=_
  rw[heap_setCell_same wa g 0 _ _ _ HPA.out.box];rfl
 have hxb1:wb.heap[w.heap.size]?=some (.cells #[.int .i64 x.place, .int .i64 x.order, .int .i64 x.out] 256):=by
  rw[<-hwb];exact(Below.heap_setCell _ _ _ _ (fun e=>hgH e.symm)).trans HXA.out
 have hmb1:wb.heap[mb]?=wa.heap[mb]? :=by
  rw[<-hwb];exact Below.heap_setCell _ _ _ _ (fun e=>HPA.out.lo.2.2 e.symm)
 have hxk:(iV).ok x.place:=gC.2 (HPA.out.ok x (by simp));have hMb:A0 iV 3 wb.drew mb (M++ [x]).length (atL (M++ [x])):=HPA.out.at_.stay hmb1;rw[HLN.out]at hMb;have HMB:=hW_ hMb;have HXK:=hW_ hxk;have HWB:=hW_ hwb;clear b0 b1 bf x0 x1 x2;obtain⟨b0,b1,bf⟩:=yH hbb1;obtain⟨x0,x1,x2⟩:=bC hxb1;clear hbb1 hxb1 hmb1 hMb hxk hwb hgH;go_wp2_with (fail)
 go_region_law (refine zX (by rfl) _ _ (by rfl) Tryz.underlying281 (by rfl) HMB.out (s:=x.place) (by rfl) HXK.out ?_;intro w3 hM3 hT3)
 all_goals(
  have HF:=popped HPA.out HN.out HWA.out HWB.out hM3 hT3;have hx3:w3.heap[w.heap.size]?=some (.cells #[.int .i64 x.place, .int .i64 x.order, .int .i64 x.out] 256):=by
   obtain⟨es,clock,es',clock',_,hw3⟩:=hT3;rw[hw3];show(wb.heap.setIfInBounds mb _)[w.heap.size]?=_
   rw[Array.getElem?_setIfInBounds_ne (fun e=>by have:=H.out.at_.lt;omega),<-HWB.out];exact(Below.heap_setCell _ _ _ _ (fun e=>by have:=(Array.getElem?_eq_some_iff.1 H.out.box).1;simp at e;omega)).trans HXA.out
  obtain⟨z0,z1,z2⟩:=bC hx3;have HF1:=hW_ HF.1;have HF2:=hW_ HF.2;clear HF hx3 hM3 hT3 b0 b1 bf x0 x1 x2;go_wp2_with (fail);go_ret;exact⟨rfl,_,HF1.out,HF2.out⟩)
structure pI (L L':List Ent) (n:Nat):Prop where
 len:L'.length=L.length
 mem:∀e,e∈L'↔e∈L
 tail:∀k,n<=k->en L' k=en L k
theorem pI.refl (L:List Ent) (n:Nat):pI L L n:=⟨rfl,fun _=>Iff.rfl,fun _ _=>rfl⟩
theorem pI.trans {A B C:List Ent} {n:Nat} (h:pI A B n) (h2:pI B C n):pI A C n:=⟨h2.len.trans h.len,fun e=>(h2.mem e).trans (h.mem e),fun k hk=>(h2.tail k hk).trans (h.tail k hk)⟩
theorem pI.swp {L:List Ent} {n i j:Nat} (hi:i<n) (hj:j<n) (hn:n<=L.length):pI L (swp L i j) n:=by
 refine⟨jC L i j,fun e=>⟨fun h=>aCm (by omega) (by omega) h,fun h=> ?_⟩,fun k hk=> ?_⟩
 ·obtain⟨k,hk,rfl⟩:=List.getElem_of_mem h;rw[gD hk];have hE:=fun q=>F7 (L:=L) (i:=i) (j:=j) q (by omega) (by omega)
  have key:∀q,q<L.length->∀e,en (Go.Proofs.YtahiballegpbgaaGreatDoor.swp L i j) q=e->e∈Go.Proofs.YtahiballegpbgaaGreatDoor.swp L i j:=fun q hq e he=>he▸List.mem_of_getElem? (dE (by rw[jC];exact hq))
  by_cases e1:k=i
  ·exact key j (by omega) _ (by rw[hE j,if_pos rfl,e1])
  ·by_cases e2:k=j
   ·refine key i (by omega) _ ?_
    rw[hE i]
    by_cases e3:i=j
    ·rw[if_pos e3,e2,e3]
    ·rw[if_neg e3,if_pos rfl,e2]
   ·exact key k hk _ (by rw[hE k,if_neg e2,if_neg e1])
 ·rw[F7 k (by omega) (by omega),if_neg (by omega),if_neg (by omega)]
theorem m_less (n:Nat) (a:Addr) (w:World):(method (n+1) 291 (.pointer (some a)) "Less").run Tryz.prog w= .ok (277, .pointer (some a)) w:=by kernel_rfl
theorem mW (n:Nat) (a:Addr) (w:World):(method (n+1) 291 (.pointer (some a)) "Swap").run Tryz.prog w= .ok (280, .pointer (some a)) w:=by kernel_rfl
theorem eR {base g mb:Nat} {v:Value} {L:List Ent} (n j:Nat) (w:World) (h:aB w base g mb v L) (hj:j<n) (hn:n<=L.length) (hU:fQ L n j):
  Calls Tryz.prog 250 #[.iface 291 (.pointer (some ⟨g,0,none⟩)), .int .i64 j] w fun e w'=>e= .returned (.tuple #[])/\∃L',aB w' base g mb v L'/\pE L' n/\pI L L' n/\Trod w w' g mb v v:=by
 have H:=hW_ h;have HU:=hW_ hU;have hsm:=h.small;have ml:=m_less;have ms:=mW;clear h hU;go_enter Tryz.func250,Tryz.ntmps250;go_wp2_with (fail);go_loopw [1] (fun jv wr=>∃(k:Nat) (L':List Ent),jv= .int .i64 k/\k<n/\Hid (aB wr base g mb v L')/\Hid (fQ L' n k)/\Hid (pI L L' n)/\Hid (Trod w wr g mb v v)) (fun jv _=>(intOf jv).toNat)
 case atStart=>exact⟨j,L,rfl,hj,H,HU,hW_ (pI.refl L n),hW_ (Trod.of (Below.refl _ _))⟩
 case round=>
  obtain⟨k,L',rfl,hk,HP',HU',HR',HT'⟩:=hrel
  by_cases hk0:k=0
  ·subst hk0;go_wp2_with (fail)
   go_end0
   exact⟨rfl,L',HP'.out,tV HU'.out (.inl rfl),HR'.out,HT'.out⟩
  ·have hlp:=nD (i:=k) (by omega);have hl':=HR'.out.len;have hC:=dK k (par k) wr HP'.out (by omega) (by omega);obtain⟨p,hp⟩:∃p,par k=p:=⟨_,rfl⟩;have hp2:(k-1) / 2=p:=hp;rw[hp]at hC hlp;have q1:IntKind.i64.wrap ((k:Int)-1)=(k:Int)-1:=by rw[IntKind.wrap_i64];omega
   have q2:((k:Int)-1).tdiv 2=(p:Int):=by rw[Int.tdiv_eq_ediv_of_nonneg (by omega)];omega
   have q3:IntKind.i64.wrap (p:Int)=(p:Int):=by rw[IntKind.wrap_i64];omega
   have q4:¬(p:Int)=(k:Int):=by omega
   have HLP:=hW_ hlp;have HL:=hW_ hl';have HPE:=hW_ hp;obtain⟨t,ht⟩:∃t,(en L' k).less (en L' p)=t:=⟨_,rfl⟩;rw[ht]at hC;have HC:=hW_ hC;have HT:=hW_ ht;clear hC hlp hl' hp hp2 ht
   cases t with
   | false=>
    go_wp2_with (go_at_call 277;refine HC.out.mono ?_;rintro e w1 ⟨rfl,hb1⟩)
    go_end0
    exact⟨rfl,L',HP'.out.below hb1,tV HU'.out (.inr (by rw[HPE.out,HT.out];simp)),HR'.out,HT'.out.trans (Trod.of hb1)⟩
   | true=>
    go_wp2_with (first
     | (go_at_call 277;refine HC.out.mono ?_;rintro e w1 ⟨rfl,hb1⟩)
     | (go_at_call 280;refine(sC p k _ (HP'.out.below hb1) (by have:=HL.out;have:=HLP.out;omega) (by have:=HL.out;omega)).mono ?_;rintro e w2 ⟨rfl,hP2,hT2⟩))
    go_roundw
    case rel=>
     have hlp:=HLP.out;have hl:=HL.out;have hst:=up_step HU'.out (by omega) hk (by omega) (by rw[HPE.out];exact HT.out);rw[HPE.out]at hst;exact⟨p,swp L' p k,rfl,by omega,hW_ hP2,hW_ hst,hW_ (HR'.out.trans (pI.swp (by omega) hk (by omega))),hW_ (HT'.out.trans ((Trod.of hb1).trans hT2))⟩
    case measure=>have:=HLP.out;simp[intOf];omega
end Go.Proofs.YtahiballegpbgaaGreatDoor
