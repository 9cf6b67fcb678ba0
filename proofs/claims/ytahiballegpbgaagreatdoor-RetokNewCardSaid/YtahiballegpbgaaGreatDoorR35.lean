/- Walks: a ring: Push. -/
import Derived.Test.YtahiballegpbgaaGreatDoorR34
import Derived.Deep.CutBlock
set_option linter.unusedVariables false
set_option maxHeartbeats 2000000
set_option maxRecDepth 100000
namespace Go.Proofs.YtahiballegpbgaaGreatDoor
open Go.RowKit
def RgQ (w:World) (base g:Nat) (from_:Int) (L:List (Int×Int)) (Q:Nat->Prop):Prop:=
 ∃o m c h B,RgB w base g o m c h L.length from_ B/\(∀i (hi:i<L.length),B[(h+i) % m]?=some L[i])/\Q g/\∀q,(Value.slice o m c).ownBlock=some q->Q q
theorem RgQ.v {w:World} {base g:Nat} {from_:Int} {L:List (Int×Int)} {Q:Nat->Prop} (h:RgQ w base g from_ L Q):RgV w base g from_ L:=by
 obtain⟨o,m,c,hh,B,hb,hat,-⟩:=h;exact⟨o,m,c,hh,B,hb,hat⟩
theorem RgQ.stay {w w':World} {base g:Nat} {from_:Int} {L:List (Int×Int)} {Q:Nat->Prop} (h:RgQ w base g from_ L Q) (hk:∀q,Q q->w'.heap[q]?=w.heap[q]?):RgQ w' base g from_ L Q:=by
 obtain⟨o,m,c,hh,B,hb,hat,hg,hq⟩:=h;exact⟨o,m,c,hh,B,⟨(hk g hg).trans hb.box,jA hb.own (fun q e=>hk q (hq q e)),hb.len,hb.far,hb.lo,hb.hd,hb.fits,hb.most⟩,hat,hg,hq⟩
theorem RgQ.below {w w':World} {base g:Nat} {from_:Int} {L:List (Int×Int)} {Q:Nat->Prop} (h:RgQ w base g from_ L Q) (k:Below w.heap.size w w'):RgQ w' base g from_ L Q:=by
 obtain⟨o,m,c,hh,B,hb,hat,hg,hq⟩:=h;exact⟨o,m,c,hh,B,hb.below k,hat,hg,hq⟩
theorem lN {w:World} {g:Nat} {o:Option Addr} {m c h n:Nat} {from_:Int} (hx:w.heap[g]?=some (.cells #[.slice o m c, .int .i64 h, .int .i64 n, .int .i64 from_, .int .i64 1048576] 187)) (hh:h<m) (hmm:m<=1048576) {i:Nat} (hi:i<=1048576):
  Calls Tryz.prog 162 #[.pointer (some ⟨g,0,none⟩), .int .i64 i] w fun E w'=>E= .returned (.int .i64 (((h+i) % m:Nat):Int))/\∃q,w'=w.drewN q:=by
 obtain⟨c0,c1,c2,c3,c4,cf⟩:=uC hx;have hw1:IntKind.i64.wrap ((h:Int)+(i:Int))=((h+i:Nat):Int):=by rw[IntKind.wrap_i64];omega
 have hw2:Int.tmod ((h+i:Nat):Int) (m:Int)=(((h+i) % m:Nat):Int):=by rw[Int.tmod_eq_emod_of_nonneg (by omega)];rfl
 have hw3:((h:Int)+(i:Int)) % (m:Int)=(((h+i) % m:Nat):Int):=rfl;have hz:((m:Int)==0)=false:=by simp;omega
 have hz2:¬(m:Int)=0:=by omega
 clear hx;go_enter Tryz.func162,Tryz.ntmps162;go_wp2_with (fail);go_quiet (fail);go_wp2_with (fail);go_ret;exact⟨rfl,_,rfl⟩
theorem aDY (w:World) (a b:Nat):(w.drewN a).drewN b=w.drewN (a+b):=by unfold World.drewN;simp[Nat.add_assoc]
def PuR (w wx:World) (base g n:Nat) (from_:Int) (L:List (Int×Int)) (Q:Nat->Prop) (x:Int×Int):Prop:=
 ∃bb m c h B,RgB wx base g (some ⟨bb,0,none⟩) m c h n from_ B/\n<m/\(∀i (hi:i<L.length),B[(h+i) % m]?=some L[i])/\bb≠g/\(Q bb\/w.heap.size<=bb)/\dA Q w wx/\wx.heap[w.heap.size]?=some (.cells #[.int .i64 x.1, .int .i64 x.2] 140)
theorem V9 {w:World} {base g:Nat} {from_:Int} {L:List (Int×Int)} {Q:Nat->Prop} (x:Int×Int) (hq:RgQ w base g from_ L Q) (hL:L.length<1048576):
  Calls Tryz.prog 159 #[.pointer (some ⟨g,0,none⟩),plV x] w fun E w'=>E= .returned (.bool true)/\
   ∃Q',RgQ w' base g from_ (L++ [x]) Q'/\(∀q,Q' q->Q q\/w.heap.size<=q)/\dA Q w w':=by
 obtain⟨x1,x2⟩:=x;obtain⟨n,hn⟩:∃n,L.length=n:=⟨_,rfl⟩;rw[hn]at hL;have HQ:=hW_ hq;have HN:=hW_ hn;obtain⟨o,m,c,h,B,hb,hat,hQg,hQb⟩:=hq;rw[hn]at hb;have hgl:=(Array.getElem?_eq_some_iff.1 hb.box).1;obtain⟨w1,hw1⟩:∃w1,w.alloc (.cells #[.int .i64 x1, .int .i64 x2] 140)=w1:=⟨_,rfl⟩;have hb1:Below w.heap.size w w1:=hw1▸aA w _;have hbb:=hb.below hb1;obtain⟨c0,c1,c2,c3,c4,cf⟩:=uC hbb.box;have hx1:w1.heap[w.heap.size]?=some (.cells #[.int .i64 x1, .int .i64 x2] 140):=by rw[<-hw1];exact heap_alloc_new w _
 have g1:((n:Int)==1048576)=false:=by simp;omega
 have g1':¬(n:Int)=1048576:=by omega
 have hwn:IntKind.i64.wrap ((n:Int)+1)=((n+1:Nat):Int):=by rw[IntKind.wrap_i64];omega
 have hnm:=hb.fits;have HW1:=hW_ hw1;have HB1:=hW_ hb1;have HBB:=hW_ hbb;have HX1:=hW_ hx1;have HQQ:=hW_ (And.intro hQg (And.intro hQb (And.intro hat hgl)));unfold plV;clear hb hb1 hbb hw1 hx1 hn hat hQg hQb;go_enter Tryz.func159,Tryz.ntmps159;go_wp2_with (fail);rw[HW1.out];go_quiet (fail);obtain⟨n1,hn1⟩:∃n1,n1=nq:=⟨_,rfl⟩;rw[<-hn1];clear hn1;go_wp2_with (fail);go_quiet (fail);go_upto_if 27 with(fail)
 go_cut [] from 27 (fun wx=>Hid (PuR w wx base g n from_ L Q (x1,x2)))
 case first=>
  obtain⟨w2,hw2⟩:∃w2,(w1.drewN n1).drewN nq=w2:=⟨_,rfl⟩;have hb2:Below w1.heap.size w1 w2:=hw2▸bA (bA (Below.refl _ _) _) _;have hbb:=HBB.out.below hb2;have hz1:w.heap.size<w1.heap.size:=(Array.getElem?_eq_some_iff.1 HX1.out).1
  by_cases hlt:n<m
  ·have g2:((n:Int)==(m:Int))=false:=by simp;omega
   have g2':¬(n:Int)=(m:Int):=by omega
   have g2n:¬n=m:=by omega
   have hfin:PuR w w2 base g n from_ L Q (x1,x2):=by
    obtain⟨bb,c',hv,-,-⟩:=iA.at0 hbb.own (by rw[hbb.len];omega);obtain⟨rfl,-,rfl⟩:=Value.slice.inj hv;exact⟨bb,m,c,h,B,hbb,hlt,HQQ.out.2.2.1,fun e=>hbb.far (by rw[e];rfl), .inl (HQQ.out.2.1 bb rfl),dA.of_below (HB1.out.trans (hb2.mono HB1.out.size)),(hb2.block _ hz1).trans HX1.out⟩
   have HF:=hW_ hfin;have HW2:=hW_ hw2;clear hfin hw2 hb2 hbb hz1;go_wp2_with (fail);go_meet;rw[HW2.out];exact HF
  ·obtain rfl:n=m:=by omega
   have g2:((n:Int)==(n:Int))=true:=by simp
   have HG:=hW_ (aW hbb (by omega));have HBB2:=hW_ hbb;rw[aDY]at hw2;have HW2:=hW_ hw2;have HB2:=hW_ hb2;have HZ1:=hW_ hz1;clear hw2 hb2 hbb hz1;go_wp2_with (fail);rw[HW2.out];go_at_call 197;refine HG.out.mono ?_
   rintro E w3 ⟨rfl,m',B',hb3,hm3,hat3,hk3⟩;have hs2:=HB2.out.size;have hs1:=HB1.out.size;have hz:=HZ1.out;have hfin:PuR w w3 base g n from_ L Q (x1,x2):=by
    refine⟨w2.heap.size,m',m',0,B',hb3,hm3,fun i hi=> ?_,by omega, .inr (by omega),?_,?_⟩
    ·rw[Nat.zero_add,Nat.mod_eq_of_lt (by have:=HN.out;omega),hat3 i (by have:=HN.out;omega)];exact HQQ.out.2.2.1 i hi
    ·exact(dA.of_below (HB1.out.trans (HB2.out.mono HB1.out.size))).trans (hk3.mono (fun q _ e=>e▸HQQ.out.1))
    ·exact(hk3.block _ (by omega) (fun e=>by omega)).trans ((HB2.out.block _ hz).trans HX1.out)
   have HF:=hW_ hfin;clear hfin hb3 hm3 hat3 hk3 hs2 hs1 hz;go_wp2_with (fail);go_meet;exact HF
 obtain⟨bb,m',c',h',B',hb5,hn5,hat5,hbg,hbb5,hk5,hx5⟩:=hcut.out;obtain⟨k,hk⟩:∃k,(h'+n) % m'=k:=⟨_,rfl⟩;have hmost:=hb5.most;have hhm:h'<m':=by rcases hb5.hd with h0 | h0<;>omega
 have hkm:k<m':=by rw[<-hk];exact Nat.mod_lt _ (by omega)
 have gk:(k:Int)<(m':Int):=by omega
 obtain⟨w5,hw5⟩:∃w5,w5=wc:=⟨_,rfl⟩;subst hw5;obtain⟨p,hp⟩:∃p,B'[k]?=some p:=⟨B'[k]'(by have:=hb5.len;omega),List.getElem?_eq_getElem _⟩
 obtain⟨y0,y1,yf⟩:=qN hb5.own hp;obtain⟨d0,d1,d2,d3,d4,df⟩:=uC hb5.box;obtain⟨e0,e1,ef⟩:=iF hx5;have HPL:=hW_ (fun W (hW:Below w5.heap.size w5 W)=>lN ((hW.block g (Array.getElem?_eq_some_iff.1 hb5.box).1).trans hb5.box) hhm hmost (i:=n) (by omega));have HB5:=hW_ hb5;have H5:=hW_ (And.intro hbb5 (And.intro hk5 hat5));have hbl:bb<w5.heap.size:=(World.ownsRow.lt hb5.own bb rfl).2;have HBL:=hW_ hbl;clear hb5 hat5 hk5 hx5 hp df ef hcut c0 c1 c2 c3 c4 cf hbb5 hbl;go_wp2_with (fail);refine dR ?kyP ?kfP ?khP
 case kfP=>
  intro key
  go_region_with (go_at_call 162;refine(HPL.out _ (by first | exact(Below.refl _ _).drew | exact Below.refl _ _)).mono ?_;rintro E w9 ⟨rfl,q9,rfl⟩;rw[hk])
  all_goals(revert q9;exact key.out)
 intro q9;have hx5:=HB5.out.box;have ho5:=iA.drewN HB5.out.own (1+q9);obtain⟨w6,hw6⟩:∃w6,((w5.drewN (1+q9)).setCell ⟨bb,k*2,none⟩ (.int .i64 x1)).setCell ⟨bb,k*2+1,none⟩ (.int .i64 x2)=w6:=⟨_,rfl⟩;have ho6:iA plE 2 140 w6 base (.slice (some ⟨bb,0,none⟩) m' c') (B'.set k (x1,x2)):=by
  rw[<-hw6];exact pl_put ho5 (by have:=HB5.out.len;omega) (x1,x2)
 have hx6:w6.heap[g]?=some (.cells #[.slice (some ⟨bb,0,none⟩) m' c', .int .i64 h', .int .i64 n, .int .i64 from_, .int .i64 1048576] 187):=by
  rw[<-hw6,cA (fun e=>hbg e.symm),cA (fun e=>hbg e.symm)];exact hx5
 have hk6:dA Q w w6:=by
  rw[<-hw6];have hk:=H5.out.2.1;refine⟨hk.os,hk.tape,hk.output,by have:=hk.size;simp;omega,fun q hq hz=> ?_⟩;have hne:q≠bb:=fun e=>by
   subst e;rcases H5.out.1 with h | h
   ·exact hz h
   ·omega
  rw[cA hne,cA hne];exact hk.block q hq hz
 have hs6:w6.heap.size=w5.heap.size:=by rw[<-hw6];simp
 have HO6:=hW_ ho6;have HX6:=hW_ hx6;have HK6:=hW_ hk6;have HS6:=hW_ hs6;rw[hw6];clear hx5 ho5 ho6 hx6 hk6 hw6 hs6 d0 d1 d2 d3 d4 e0 e1 y0 y1 yf;obtain⟨d0,d1,d2,d3,d4,df⟩:=uC HX6.out;have dg:=fun o=>Option.some.inj (df o)
 clear df;go_wp2_with (fail);go_ret;have hbl:=HB5.out.len;have hn:=HN.out;refine⟨rfl,fun q=>Q q\/w.heap.size<=q,⟨_,m',c',h',B'.set k (x1,x2),⟨?_,jA HO6.out (fun q hq=> ?_),by rw[List.length_set];exact hbl,HB5.out.far,HB5.out.lo,HB5.out.hd,by simp;omega,hmost⟩,fun i hi=> ?_, .inl HQQ.out.1,fun q e=> ?_⟩,fun q h=>h,HK6.out.set HQQ.out.1 _⟩
 ·have:=rA (i:=2) (v:= .int .i64 ((n+1:Nat):Int)) HX6.out;rw[show(L++ [(x1,x2)]).length=n+1 by simp[hn]];exact this
 ·obtain rfl:bb=q:=by simpa[Value.ownBlock]using hq
  exact cA hbg
 ·simp only[List.length_append,List.length_singleton]at hi
  by_cases hin:i<n
  ·rw[List.getElem?_set_ne (fun e=>aBa (m:=m') (h:=h') (i:=i) (j:=n) hin (by omega) (by rw[hk,e])),H5.out.2.2 i (by omega)];simp[hn,hin]
  ·obtain rfl:i=n:=by omega
   rw[hk,List.getElem?_set_self (by omega)];simp[hn]
 ·obtain rfl:bb=q:=by simpa[Value.ownBlock]using e
  exact H5.out.1
end Go.Proofs.YtahiballegpbgaaGreatDoor
