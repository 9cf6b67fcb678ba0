/- Walks: the chain's merge. -/
import Derived.Test.YtahiballegpbgaaGreatDoorR15
set_option linter.unusedVariables false
set_option maxHeartbeats 2000000
set_option maxRecDepth 100000
namespace Go.Proofs.YtahiballegpbgaaGreatDoor
open Go.RowKit Go.ChangeMaps
def WfR (A:List Int):Prop:=∀x∈A,(Lit.int .i64 x).wf=true
theorem WfR.set {A:List Int} (h:WfR A) (i:Nat) {x:Int} (hx:(Lit.int .i64 x).wf=true):WfR (A.set i x):=fun y hy=>by
 rcases List.mem_or_eq_of_mem_set hy with h1 | h1
 ·exact h y h1
 ·rw[h1];exact hx
theorem yG {W0:World} {c:Cx} {M:List Mg} {va:Value} {Rw Lf Rt:List Int} {L:List Ent} {C:Ch} (i p:Nat) (a:Int) (w:World) (hT:Tb W0 c M) (hb:Below c.base W0 w) (h:ChV w c va Rw Lf Rt L) (hn:c.n<=1048576) (hL:L.length+1<=1048576)
  (hK:Lnk c.n C Rw Lf Rt) (hW:WfR Rw) (hi:C[i]?=some (p,a)):
  Calls Tryz.prog 189 #[.pointer (some ⟨c.kb,0,none⟩), .int .i64 p] w (pV w c va Rw Lf Rt L p (agF M C p)):=by
 have hp:=hK.lt _ (List.mem_of_getElem? hi);have hr:=hK.right i p a hi;have ha:=hK.row i p a hi;unfold fK at hr
 cases hj:C[i+1]? with
 | none=>
  rw[hj]at hr;rw[agF_last hK.ok hi hj];exact aDD (W0:=W0) p w h hp hn hr
 | some d=>
  obtain⟨q,b⟩:=d;rw[hj]at hr;rw[fX hK.ok hi hj];have hq:=hK.lt _ (List.mem_of_getElem? hj);have hbq:=hK.row (i+1) q b hj;exact aDC p q a b w hT hb h hn hL hp hq hr ha hbq (hW _ (List.mem_of_getElem? ha)) (hW _ (List.mem_of_getElem? hbq))
theorem aBC {M:List Mg} {pre post:Ch} {p q:Nat} {a b o:Int} (hc:I7 (pre++(p,a)::(q,b)::post)) (x:Int) (hp:x≠p) (hr:∀c,pre.getLast?=some c->(c.1:Int)≠x):
  agI M (pre++(p,o)::post) x=if x=q then none else agI M (pre++(p,a)::(q,b)::post) x:=by
 unfold agI
 by_cases h0:0<=x
 ·obtain⟨y,rfl⟩:∃y:Nat,x=y:=⟨x.toNat,by omega⟩;rw[if_pos h0,if_pos h0,Int.toNat_natCast,aBE hc y (by omega) (fun c h=>by have:=hr c h;omega)]
  by_cases hq:y=q
  ·rw[if_pos hq,if_pos (by omega)]
  ·rw[if_neg hq,if_neg (by omega)]
 ·rw[if_neg h0,if_neg h0,if_neg (by omega)]
theorem dX {M:List Mg} {pre post:Ch} {p q:Nat} {a b o:Int} (hc:I7 (pre++(p,a)::(q,b)::post)) {X:Int} (hr:∀c,pre.getLast?=some c->(c.1:Int)≠X) (x:Int) (hX:X=x:=by rfl):
  (if x=(p:Int)then agF M (pre++(p,o)::post) p else if x=(q:Int)then none else if x=(p:Int)then none else agI M (pre++(p,a)::(q,b)::post) x)=agI M (pre++(p,o)::post) x:=by
 subst hX
 by_cases hp:X=(p:Int)
 ·rw[if_pos hp,hp,qJ]
 ·rw[if_neg hp,if_neg hp,aBC hc X hp hr]
def MergeP (w:World) (c:Cx) (M:List Mg) (va:Value) (C':Ch) (L:List Ent) (e:Ending) (w':World):Prop:=
 e= .returned (.tuple #[])/\∃va' Rw Lf Rt L',ChV w' c va' Rw Lf Rt L'/\Lnk c.n C' Rw Lf Rt/\WfR Rw/\(∀x,agL L' x=agI M C' x)/\L'.length<=L.length+2/\FrC w w' c va va'
theorem xY {W0:World} {c:Cx} {M:List Mg} {va:Value} {Rw Lf Rt:List Int} {L:List Ent} {pre post:Ch} (p q:Nat) (a b od d:Int) (w:World) (hT:Tb W0 c M) (hb:Below c.base W0 w) (h:ChV w c va Rw Lf Rt L) (hn:c.n<=1048576) (hL:L.length+2<=1048576)
  (hK:Lnk c.n (pre++(p,a)::(q,b)::post) Rw Lf Rt) (hW:WfR Rw) (hd:(Lit.int .i64 d).wf=true) (hA:∀x,agL L x=if x=(p:Int)then none else agI M (pre++(p,a)::(q,b)::post) x):
  Calls Tryz.prog 191 #[.pointer (some ⟨c.kb,0,none⟩), .agg #[.int .i64 p, .int .i64 od, .int .i64 d]] w (MergeP w c M va (pre++(p,d)::post) L):=by
 obtain⟨w0,hw0⟩:∃w0,w.alloc (.cells #[.int .i64 p, .int .i64 od, .int .i64 d] 256)=w0:=⟨_,rfl⟩;have hb0:Below w.heap.size w w0:=hw0▸aA w _;have hx0:w0.heap[w.heap.size]?=some (.cells #[.int .i64 p, .int .i64 od, .int .i64 d] 256):=by rw[<-hw0];exact heap_alloc_new w _
 have h0:=h.below hb0;obtain⟨k1,k2,k3,k4,k5,k6,k7⟩:=hK.at0;obtain⟨nx,hnx⟩:∃nx,fK (pre++(p,a)::(q,b)::post) (pre.length+1)=nx:=⟨_,rfl⟩;rw[hnx]at k6;obtain⟨b0,b1,b2,b3,b4⟩:=h0.cells;obtain⟨x0,x1,x2⟩:=bC hx0;have t0:=h0.right.cell k2;have t1:=h0.right.cell k6;have r0:=h0.row.cell k1;have rf:=h0.row.frozen;have gp:(p:Int)<(c.n:Int):=by omega
 have gp0:(0:Int)<=(p:Int):=by omega
 have gq:(q:Int)<(c.n:Int):=by omega
 have gq0:(0:Int)<=(q:Int):=by omega
 have H:=hW_ h;have H0:=hW_ h0;have HW0:=hW_ hw0;have HB0:=hW_ hb0;have HX0:=hW_ hx0;have HK:=hW_ hK;have HNX:=hW_ hnx;have HT:=hW_ hT;have HB:=hW_ hb;have HWF:=hW_ hW;have HA:=hW_ hA;have HU:Hid (w.heap.size≠c.kb/\w.heap.size≠c.rb/\w.heap.size≠c.lb/\w.heap.size≠c.tb):=hW_ (by
  have:=(Array.getElem?_eq_some_iff.1 h.box).1;have:=h.row.lt.2;have:=h.left.lt.2;have:=h.right.lt.2;exact⟨by omega,by omega,by omega,by omega⟩)
 have HQ2:=hW_ k2;have HQ3:=hW_ k3;clear h h0 hw0 hb0 hx0 hK hnx hT hb hW hA k1 k2 k3 k4 k5 k6 k7;obtain⟨base,n,kb,g,mb,rb,lb,tb,rc,lc,tc,pg⟩:=c;simp only at *;go_enter Tryz.func191,Tryz.ntmps191;go_wp2_with (fail);rw[HW0.out];go_quiet (fail);go_wp2_with (fail);go_region;obtain⟨W3,hW3⟩:∃W3,(w0.drewN (nq+1)).setCell ⟨rb,p,none⟩ (.int .i64 d)=W3:=⟨_,rfl⟩;have hC3:ChV W3 ⟨base,n,kb,g,mb,rb,lb,tb,rc,lc,tc,pg⟩ va (Rw.set p d) Lf Rt L:=hW3▸(H0.out.below (bA (Below.refl _ _) (nq+1))).setRow p d;have hF3:FrC w W3 ⟨base,n,kb,g,mb,rb,lb,tb,rc,lc,tc,pg⟩ va va:=hW3▸((FrC.below HB0.out).trans (FrC.below (w:=w0) (bA (Below.refl _ _) (nq+1)))).trans (FrC.set (c:=⟨base,n,kb,g,mb,rb,lb,tb,rc,lc,tc,pg⟩) (b:=rb) (.inl rfl) p _);have hx3:W3.heap[w.heap.size]?=some (.cells #[.int .i64 p, .int .i64 od, .int .i64 d] 256):=by
  rw[<-hW3,heap_setCell_other _ ⟨rb,p,none⟩ w.heap.size _ HU.out.2.1];exact HX0.out
 rw[hW3];have HC3:=hW_ hC3;have HF3:=hW_ hF3;have HX3:=hW_ hx3;clear b0 b1 b2 b3 b4 x0 x1 x2 t0 t1 r0 rf hW3 hF3;obtain⟨b0,b1,b2,b3,b4⟩:=hC3.cells;obtain⟨x0,x1,x2⟩:=bC hx3;have t0:=hC3.right.cell HQ2.out;have tf:=hC3.right.frozen;clear hC3 hx3;simp only at b0 b1 b2 b3 b4 tf;have HGL:Hid (g<w.heap.size/\mb<w.heap.size/\∀y,va.ownBlock=some y->y<w.heap.size):=hW_ ⟨(Array.getElem?_eq_some_iff.1 H.out.ag.pile.box).1,H.out.ag.pile.at_.lt,fun y hy=>(World.ownsRow.lt H.out.ag.pile.row y hy).2⟩;have HSZ:Hid (w.heap.size<W3.heap.size):=hW_ (Array.getElem?_eq_some_iff.1 HX3.out).1;have HWF2:Hid (WfR (Rw.set p d)):=hW_ (HWF.out.set p hd)
 by_cases hx:nx= -1
 ·subst hx;have HLK:Hid (Lnk n (pre++(p,d)::post) (Rw.set p d) Lf (Rt.set p (-1))):=hW_ (by have:=HK.out.merged d (-1) HNX.out.symm;unfold aQ at this;rw[if_pos rfl]at this;exact this);go_wp2_with (fail);go_region;obtain⟨W6,hW6⟩:∃W6,(W3.setCell ⟨tb,p,none⟩ (.int .i64 (-1))).drew=W6:=⟨_,rfl⟩;have HC6:Hid (ChV W6 ⟨base,n,kb,g,mb,rb,lb,tb,rc,lc,tc,pg⟩ va (Rw.set p d) Lf (Rt.set p (-1)) L):=hW_ (hW6▸(HC3.out.setRight p (-1)).below (Below.drew (Below.refl _ _)));have HF6:Hid (FrC w W6 ⟨base,n,kb,g,mb,rb,lb,tb,rc,lc,tc,pg⟩ va va):=hW_ (hW6▸(HF3.out.trans (FrC.set (c:=⟨base,n,kb,g,mb,rb,lb,tb,rc,lc,tc,pg⟩) (b:=tb) (.inr (.inr rfl)) p _)).trans (FrC.below (Below.drew (Below.refl _ _))));have HX6:Hid (W6.heap[w.heap.size]?=some (.cells #[.int .i64 p, .int .i64 od, .int .i64 d] 256)):=hW_ (by
   rw[<-hW6];exact(heap_setCell_other W3 ⟨tb,p,none⟩ w.heap.size _ HU.out.2.2.2).trans HX3.out)
  have HS6:Hid (W3.heap.size<=W6.heap.size):=hW_ (by rw[<-hW6];simp);rw[hW6];clear hW6 b0 b1 b2 b3 b4 x0 x1 x2 t0 tf;obtain⟨x0,x1,x2⟩:=bC HX6.out;obtain⟨b0,b1,b2,b3,b4⟩:=HC6.out.cells;simp only at b0 b1 b2 b3 b4;go_wp2_with (fail);go_at_call 218;refine(aI (q:Int) W6 HC6.out.ag (by omega)).mono ?_
  rintro e w7 ⟨⟨t7,rfl⟩,v7,L7,hA7,hg7,hl7,hT7⟩;have HC7:=hW_ (HC6.out.turn hA7 hT7);have HF7:=hW_ (HF6.out.trans (FrC.trod hT7));have HX7:Hid (w7.heap[w.heap.size]?=some (.cells #[.int .i64 p, .int .i64 od, .int .i64 d] 256)):=hW_ ((hT7.block w.heap.size (Nat.lt_of_lt_of_le HSZ.out HS6.out) (by have:=HGL.out;simp only;omega) (by have:=HGL.out;simp only;omega) (fun e=>by have:=HGL.out.2.2 _ e;omega)).trans HX6.out);have HV7:Hid (∀y,v7.ownBlock=some y->y≠w.heap.size):=hW_ (fun y hy e=>by
   rcases hT7.new y hy with h1 | h1
   ·have:=HGL.out.2.2 _ h1;omega
   ·have:=HSZ.out;have:=HS6.out;omega)
  have HS7:=hW_ (Nat.le_trans HS6.out hT7.size);have HG7:=hW_ hg7;have HL7:=hW_ hl7;clear hA7 hg7 hl7 hT7 b0 b1 b2 b3 b4 x0 x1 x2;obtain⟨b0,b1,b2,b3,b4⟩:=HC7.out.cells;simp only at b0 b1 b2 b3 b4;obtain⟨x0,x1,x2⟩:=bC HX7.out;go_wp2_with (fail);go_at_call 189;refine(yG (c:=⟨base,n,kb,g,mb,rb,lb,tb,rc,lc,tc,pg⟩) (C:=pre++(p,d)::post) pre.length p d w7 HT.out (HB.out.trans (HF7.out.base H.out)) HC7.out hn (by have:=HL7.out;omega) HLK.out HWF2.out (by simp)).mono ?_
  rintro e w8 ⟨rfl,v8,L8,hC8,hg8,hl8,hT8⟩;have HC8:=hW_ hC8;have HF8:=hW_ (HF7.out.trans (FrC.trod hT8));have HX8:Hid (w8.heap[w.heap.size]?=some (.cells #[.int .i64 p, .int .i64 od, .int .i64 d] 256)):=hW_ ((hT8.block w.heap.size (Nat.lt_of_lt_of_le HSZ.out HS7.out) (by have:=HGL.out;simp only;omega) (by have:=HGL.out;simp only;omega) (fun e=>HV7.out _ e rfl)).trans HX7.out);have HG8:=hW_ hg8;have HL8:=hW_ hl8;clear hC8 hg8 hl8 hT8 b0 b1 b2 b3 b4 x0 x1 x2;obtain⟨b0,b1,b2,b3,b4⟩:=HC8.out.cells;simp only at b0 b1 b2 b3 b4;obtain⟨x0,x1,x2⟩:=bC HX8.out;have l0:=HC8.out.left.cell (HLK.out.left pre.length p d (by simp));simp only at l0;rcases List.eq_nil_or_concat pre with hpre | ⟨pr,ru,hpre⟩
  ·have hp0:jH (pre++(p,d)::post) pre.length= -1:=by rw[hpre];rfl
   rw[hp0]at l0;have HPRE:=hW_ hpre;clear hp0 hpre;go_wp2_with (fail)
   go_region_with (go_at_call 189;refine(aCp kb _).mono ?_;rintro e w9 ⟨rfl,rfl⟩)
   all_goals(
    go_wp2_with (fail)
    first | go_end0 | refine bodyPost_ret (results_none rfl _ _ _) rfl ?_
    refine⟨rfl,v8,_,_,_,L8,HC8.out.below (by exact bA (Below.refl _ _) _),HLK.out,HWF2.out,fun x=> ?_,by have:=HL7.out;have:=HL8.out;omega,HF8.out.trans (FrC.below (by exact bA (Below.refl _ _) _))⟩;rw[HG8.out,HG7.out,HA.out];exact dX HK.out.ok (fun c hc=>by rw[HPRE.out]at hc;cases hc) x)
  ·obtain⟨r,u⟩:=ru;have hpr:pre=pr++ [(r,u)]:=by rw[hpre,List.concat_eq_append]
   have hrl:pre.length=pr.length+1:=by rw[hpr];simp
   have hat:(pre++(p,d)::post)[pr.length]?=some (r,u):=by rw[hpr];simp
   have hp0:jH (pre++(p,d)::post) pre.length=(r:Int):=by
    unfold jH;rw[if_neg (by omega),show pre.length-1=pr.length by omega,hat]
   have hrn:=HLK.out.lt _ (List.mem_of_getElem? hat);rw[hp0]at l0;have HPRE:=hW_ hpr;have HAT:=hW_ hat;have HLR:Hid (∀W,Ge w8 W->Calls Tryz.prog 189 #[.pointer (some ⟨kb,0,none⟩), .int .i64 r] W (pV W ⟨base,n,kb,g,mb,rb,lb,tb,rc,lc,tc,pg⟩ v8 _ _ _ L8 r (agF M (pre++(p,d)::post) r))):=hW_ (fun W hW=>yG (c:=⟨base,n,kb,g,mb,rb,lb,tb,rc,lc,tc,pg⟩) pr.length r u W HT.out ((HB.out.trans (HF8.out.base H.out)).trans (hW.mono HC8.out.base)) (HC8.out.below hW) hn (by have:=HL7.out;have:=HL8.out;omega) HLK.out HWF2.out hat);clear hp0 hpre hpr hrl hat hrn;go_wp2_with (fail)
   go_region_with (go_at_call 189;refine(HLR.out _ (by exact bA (Below.refl _ _) _)).mono ?_;rintro e w9 ⟨rfl,v9,L9,hC9,hg9,hl9,hT9⟩;have HC9:=hW_ hC9;have HG9:=hW_ hg9;have HL9:=hW_ hl9;have HT9:=hW_ hT9;clear hC9 hg9 hl9 hT9)
   all_goals(
    go_wp2_with (fail)
    first | go_end0 | refine bodyPost_ret (results_none rfl _ _ _) rfl ?_
    refine⟨rfl,v9,_,_,_,L9,HC9.out,HLK.out,HWF2.out,fun x=> ?_,by have:=HL7.out;have:=HL8.out;have:=HL9.out;omega,(HF8.out.trans (FrC.below (by exact bA (Below.refl _ _) _))).trans (FrC.trod HT9.out)⟩;rw[HG9.out]
    by_cases hxr:x=(r:Int)
    ·rw[if_pos hxr,hxr,qJ]
    ·rw[if_neg hxr,HG8.out,HG7.out,HA.out];exact dX HK.out.ok (fun c hc=>by
      rw[HPRE.out]at hc;simp at hc;rw[<-hc];exact fun e=>hxr e.symm) x)
 ·have gx:(nx== -1)=false:=by simpa using hx
  obtain⟨s,hs,hsn⟩:∃s:Nat,nx=(s:Int)/\s<n:=by
   have h1:=HNX.out;unfold fK at h1
   cases hc:(pre++(p,a)::(q,b)::post)[pre.length+1+1]? with
   | none=>rw[hc]at h1;exact absurd h1.symm hx
   | some c=>rw[hc]at h1;exact⟨c.1,h1.symm,HK.out.lt c (List.mem_of_getElem? hc)⟩
  subst hs;have HLK:Hid (Lnk n (pre++(p,d)::post) (Rw.set p d) (Lf.set s p) (Rt.set p s)):=hW_ (by have:=HK.out.merged d (s:Int) HNX.out.symm;unfold aQ at this;rw[if_neg hx,Int.toNat_natCast]at this;exact this);have gs:(s:Int)<(n:Int):=by omega
  have gs0:(0:Int)<=(s:Int):=by omega
  go_wp2_with (fail);go_region;obtain⟨W4,hW4⟩:∃W4,(W3.setCell ⟨tb,p,none⟩ (.int .i64 (s:Int))).drew=W4:=⟨_,rfl⟩;have HC4:Hid (ChV W4 ⟨base,n,kb,g,mb,rb,lb,tb,rc,lc,tc,pg⟩ va (Rw.set p d) Lf (Rt.set p s) L):=hW_ (hW4▸(HC3.out.setRight p s).below (Below.drew (Below.refl _ _)));have HF4:Hid (FrC w W4 ⟨base,n,kb,g,mb,rb,lb,tb,rc,lc,tc,pg⟩ va va):=hW_ (hW4▸(HF3.out.trans (FrC.set (c:=⟨base,n,kb,g,mb,rb,lb,tb,rc,lc,tc,pg⟩) (b:=tb) (.inr (.inr rfl)) p _)).trans (FrC.below (Below.drew (Below.refl _ _))));have HX4:Hid (W4.heap[w.heap.size]?=some (.cells #[.int .i64 p, .int .i64 od, .int .i64 d] 256)):=hW_ (by
   rw[<-hW4];exact(heap_setCell_other W3 ⟨tb,p,none⟩ w.heap.size _ HU.out.2.2.2).trans HX3.out)
  have HS4:Hid (W3.heap.size<=W4.heap.size):=hW_ (by rw[<-hW4];simp);rw[hW4];clear hW4 b0 b1 b2 b3 b4 x0 x1 x2 t0 tf;obtain⟨b0,b1,b2,b3,b4⟩:=HC4.out.cells;simp only at b0 b1 b2 b3 b4;obtain⟨x0,x1,x2⟩:=bC HX4.out;obtain⟨lo,hlo⟩:∃lo,Lf[s]?=some lo:=⟨_,List.getElem?_eq_getElem (by rw[HC4.out.left.len];exact hsn)⟩
  have t0:=HC4.out.left.cell hlo;have tf:=HC4.out.left.frozen;simp only at t0 tf;clear hlo;go_wp2_with (fail);go_region;obtain⟨W6,hW6⟩:∃W6,(W4.setCell ⟨lb,s,none⟩ (.int .i64 (p:Int))).drew=W6:=⟨_,rfl⟩;have HC6:Hid (ChV W6 ⟨base,n,kb,g,mb,rb,lb,tb,rc,lc,tc,pg⟩ va (Rw.set p d) (Lf.set s p) (Rt.set p s) L):=hW_ (hW6▸(HC4.out.setLeft s p).below (Below.drew (Below.refl _ _)));have HF6:Hid (FrC w W6 ⟨base,n,kb,g,mb,rb,lb,tb,rc,lc,tc,pg⟩ va va):=hW_ (hW6▸(HF4.out.trans (FrC.set (c:=⟨base,n,kb,g,mb,rb,lb,tb,rc,lc,tc,pg⟩) (b:=lb) (.inr (.inl rfl)) s _)).trans (FrC.below (Below.drew (Below.refl _ _))));have HX6:Hid (W6.heap[w.heap.size]?=some (.cells #[.int .i64 p, .int .i64 od, .int .i64 d] 256)):=hW_ (by
   rw[<-hW6];exact(heap_setCell_other W4 ⟨lb,s,none⟩ w.heap.size _ HU.out.2.2.1).trans HX4.out)
  have HS6:Hid (W3.heap.size<=W6.heap.size):=hW_ (by rw[<-hW6];simp;exact HS4.out);rw[hW6];clear hW6 b0 b1 b2 b3 b4 x0 x1 x2 t0 tf;obtain⟨x0,x1,x2⟩:=bC HX6.out;obtain⟨b0,b1,b2,b3,b4⟩:=HC6.out.cells;simp only at b0 b1 b2 b3 b4;go_wp2_with (fail);go_at_call 218;refine(aI (q:Int) W6 HC6.out.ag (by omega)).mono ?_
  rintro e w7 ⟨⟨t7,rfl⟩,v7,L7,hA7,hg7,hl7,hT7⟩;have HC7:=hW_ (HC6.out.turn hA7 hT7);have HF7:=hW_ (HF6.out.trans (FrC.trod hT7));have HX7:Hid (w7.heap[w.heap.size]?=some (.cells #[.int .i64 p, .int .i64 od, .int .i64 d] 256)):=hW_ ((hT7.block w.heap.size (Nat.lt_of_lt_of_le HSZ.out HS6.out) (by have:=HGL.out;simp only;omega) (by have:=HGL.out;simp only;omega) (fun e=>by have:=HGL.out.2.2 _ e;omega)).trans HX6.out);have HV7:Hid (∀y,v7.ownBlock=some y->y≠w.heap.size):=hW_ (fun y hy e=>by
   rcases hT7.new y hy with h1 | h1
   ·have:=HGL.out.2.2 _ h1;omega
   ·have:=HSZ.out;have:=HS6.out;omega)
  have HS7:=hW_ (Nat.le_trans HS6.out hT7.size);have HG7:=hW_ hg7;have HL7:=hW_ hl7;clear hA7 hg7 hl7 hT7 b0 b1 b2 b3 b4 x0 x1 x2;obtain⟨b0,b1,b2,b3,b4⟩:=HC7.out.cells;simp only at b0 b1 b2 b3 b4;obtain⟨x0,x1,x2⟩:=bC HX7.out;go_wp2_with (fail);go_at_call 189;refine(yG (c:=⟨base,n,kb,g,mb,rb,lb,tb,rc,lc,tc,pg⟩) (C:=pre++(p,d)::post) pre.length p d w7 HT.out (HB.out.trans (HF7.out.base H.out)) HC7.out hn (by have:=HL7.out;omega) HLK.out HWF2.out (by simp)).mono ?_
  rintro e w8 ⟨rfl,v8,L8,hC8,hg8,hl8,hT8⟩;have HC8:=hW_ hC8;have HF8:=hW_ (HF7.out.trans (FrC.trod hT8));have HX8:Hid (w8.heap[w.heap.size]?=some (.cells #[.int .i64 p, .int .i64 od, .int .i64 d] 256)):=hW_ ((hT8.block w.heap.size (Nat.lt_of_lt_of_le HSZ.out HS7.out) (by have:=HGL.out;simp only;omega) (by have:=HGL.out;simp only;omega) (fun e=>HV7.out _ e rfl)).trans HX7.out);have HG8:=hW_ hg8;have HL8:=hW_ hl8;clear hC8 hg8 hl8 hT8 b0 b1 b2 b3 b4 x0 x1 x2;obtain⟨b0,b1,b2,b3,b4⟩:=HC8.out.cells;simp only at b0 b1 b2 b3 b4;obtain⟨x0,x1,x2⟩:=bC HX8.out;have l0:=HC8.out.left.cell (HLK.out.left pre.length p d (by simp));simp only at l0;rcases List.eq_nil_or_concat pre with hpre | ⟨pr,ru,hpre⟩
  ·have hp0:jH (pre++(p,d)::post) pre.length= -1:=by rw[hpre];rfl
   rw[hp0]at l0;have HPRE:=hW_ hpre;clear hp0 hpre;go_wp2_with (fail)
   go_region_with (go_at_call 189;refine(aCp kb _).mono ?_;rintro e w9 ⟨rfl,rfl⟩)
   all_goals(
    go_wp2_with (fail)
    first | go_end0 | refine bodyPost_ret (results_none rfl _ _ _) rfl ?_
    refine⟨rfl,v8,_,_,_,L8,HC8.out.below (by exact bA (Below.refl _ _) _),HLK.out,HWF2.out,fun x=> ?_,by have:=HL7.out;have:=HL8.out;omega,HF8.out.trans (FrC.below (by exact bA (Below.refl _ _) _))⟩;rw[HG8.out,HG7.out,HA.out];exact dX HK.out.ok (fun c hc=>by rw[HPRE.out]at hc;cases hc) x)
  ·obtain⟨r,u⟩:=ru;have hpr:pre=pr++ [(r,u)]:=by rw[hpre,List.concat_eq_append]
   have hrl:pre.length=pr.length+1:=by rw[hpr];simp
   have hat:(pre++(p,d)::post)[pr.length]?=some (r,u):=by rw[hpr];simp
   have hp0:jH (pre++(p,d)::post) pre.length=(r:Int):=by
    unfold jH;rw[if_neg (by omega),show pre.length-1=pr.length by omega,hat]
   have hrn:=HLK.out.lt _ (List.mem_of_getElem? hat);rw[hp0]at l0;have HPRE:=hW_ hpr;have HAT:=hW_ hat;have HLR:Hid (∀W,Ge w8 W->Calls Tryz.prog 189 #[.pointer (some ⟨kb,0,none⟩), .int .i64 r] W (pV W ⟨base,n,kb,g,mb,rb,lb,tb,rc,lc,tc,pg⟩ v8 _ _ _ L8 r (agF M (pre++(p,d)::post) r))):=hW_ (fun W hW=>yG (c:=⟨base,n,kb,g,mb,rb,lb,tb,rc,lc,tc,pg⟩) pr.length r u W HT.out ((HB.out.trans (HF8.out.base H.out)).trans (hW.mono HC8.out.base)) (HC8.out.below hW) hn (by have:=HL7.out;have:=HL8.out;omega) HLK.out HWF2.out hat);clear hp0 hpre hpr hrl hat hrn;go_wp2_with (fail)
   go_region_with (go_at_call 189;refine(HLR.out _ (by exact bA (Below.refl _ _) _)).mono ?_;rintro e w9 ⟨rfl,v9,L9,hC9,hg9,hl9,hT9⟩;have HC9:=hW_ hC9;have HG9:=hW_ hg9;have HL9:=hW_ hl9;have HT9:=hW_ hT9;clear hC9 hg9 hl9 hT9)
   all_goals(
    go_wp2_with (fail)
    first | go_end0 | refine bodyPost_ret (results_none rfl _ _ _) rfl ?_
    refine⟨rfl,v9,_,_,_,L9,HC9.out,HLK.out,HWF2.out,fun x=> ?_,by have:=HL7.out;have:=HL8.out;have:=HL9.out;omega,(HF8.out.trans (FrC.below (by exact bA (Below.refl _ _) _))).trans (FrC.trod HT9.out)⟩;rw[HG9.out]
    by_cases hxr:x=(r:Int)
    ·rw[if_pos hxr,hxr,qJ]
    ·rw[if_neg hxr,HG8.out,HG7.out,HA.out];exact dX HK.out.ok (fun c hc=>by
      rw[HPRE.out]at hc;simp at hc;rw[<-hc];exact fun e=>hxr e.symm) x)
end Go.Proofs.YtahiballegpbgaaGreatDoor
