/- Walks: a ring: a place is emptied; Pop, Cut, Shift. -/
import Derived.Test.YtahiballegpbgaaGreatDoorR35
set_option linter.unusedVariables false
set_option maxHeartbeats 2000000
set_option maxRecDepth 100000
namespace Go.Proofs.YtahiballegpbgaaGreatDoor
open Go.RowKit
theorem kN {w:World} {base g bb:Nat} {m c h n i:Nat} {from_:Int} {B:List (Int×Int)} {p:Int×Int} (hb:RgB w base g (some ⟨bb,0,none⟩) m c h n from_ B) (hi:i<m) (hm:0<m) (hp:B[(h+i) % m]?=some p) (hbg:bb≠g):
  Calls Tryz.prog 161 #[.pointer (some ⟨g,0,none⟩), .int .i64 i] w fun E w'=>E= .returned (plV p)/\
   RgB w' base g (some ⟨bb,0,none⟩) m c h n from_ (B.set ((h+i) % m) (0,0))/\dA (fun q=>q=bb) w w':=by
 obtain⟨p1,p2⟩:=p;have hgl:=(Array.getElem?_eq_some_iff.1 hb.box).1;have hmost:=hb.most;have hhm:h<m:=by rcases hb.hd with h0 | h0<;>omega
 have hbl:=hb.len;obtain⟨bl,-⟩:bb<w.heap.size/\True:=⟨(World.ownsRow.lt hb.own bb rfl).2,trivial⟩;obtain⟨w1,hw1⟩:∃w1,(w.alloc (.cells #[.int .i64 0, .int .i64 0] 140)).alloc (.cells #[.int .i64 0, .int .i64 0] 140)=w1:=⟨_,rfl⟩;have hb1:Below w.heap.size w w1:=hw1▸(aA w _).alloc (by simp) _;have hs1:w1.heap.size=w.heap.size+2:=by rw[<-hw1];simp
 have hbb:=hb.below hb1;have hn0:w1.heap[w.heap.size]?=some (.cells #[.int .i64 0, .int .i64 0] 140):=by
  rw[<-hw1];exact(Below.heap_alloc _ _ _ (by simp)).trans (heap_alloc_new w _)
 have hn1:w1.heap[w.heap.size+1]?=some (.cells #[.int .i64 0, .int .i64 0] 140):=by
  rw[<-hw1];have:=heap_alloc_new (w.alloc (.cells #[.int .i64 0, .int .i64 0] 140)) (.cells #[.int .i64 0, .int .i64 0] 140);simpa using this
 have HPL:=hW_ (lN hbb.box hhm hmost (i:=i) (by omega));obtain⟨k,hk⟩:∃k,(h+i) % m=k:=⟨_,rfl⟩;rw[hk]at HPL hp |-;have hkm:k<m:=by rw[<-hk];exact Nat.mod_lt _ hm
 have gk:(k:Int)<(m:Int):=by omega
 have HW1:=hW_ hw1;have HBB:=hW_ hbb;have HB1:=hW_ hb1;have HB:=hW_ hb;have HP:=hW_ hp;unfold plV;have HN:=hW_ (And.intro hn0 hn1);have HS1:=hW_ hs1;clear hb hbb hw1 hb1 hp hn0 hn1 hs1;go_enter Tryz.func161,Tryz.ntmps161;go_wp2_with (fail);rw[HW1.out];refine HPL.out.mono ?_
 rintro E w2 ⟨rfl,q2,rfl⟩;obtain⟨w2,hw2⟩:∃w2,w1.drewN q2=w2:=⟨_,rfl⟩;rw[hw2];have hb2:Below w1.heap.size w1 w2:=hw2▸bA (Below.refl _ _) _;have hz2:w2.heap.size=w1.heap.size:=by rw[<-hw2];rfl
 have hp2:=HBB.out.below hb2;obtain⟨y0,y1,yf⟩:=qN hp2.own HP.out;obtain⟨c0,c1,c2,c3,c4,cf⟩:=uC hp2.box;obtain⟨w3,hw3⟩:∃w3,w2.alloc (.cells #[.int .i64 p1, .int .i64 p2] 140)=w3:=⟨_,rfl⟩;have hb3:Below w2.heap.size w2 w3:=hw3▸aA w2 _;have hp3:=hp2.below hb3;obtain⟨z0,z1,zf⟩:=qN hp3.own HP.out;obtain⟨d0,d1,d2,d3,d4,df⟩:=uC hp3.box;obtain⟨n0,n1,nf⟩:=iF ((hb3.block _ (by have:=HS1.out;omega)).trans ((hb2.block _ (by have:=HS1.out;omega)).trans HN.out.1));obtain⟨m0,m1,mf⟩:=iF ((hb3.block _ (by have:=HS1.out;omega)).trans ((hb2.block _ (by have:=HS1.out;omega)).trans HN.out.2));obtain⟨l0,l1,lf⟩:=iF (show w3.heap[w2.heap.size]?=some (.cells #[.int .i64 p1, .int .i64 p2] 140) by rw[<-hw3];exact heap_alloc_new w2 _);have q0:¬bb=w.heap.size:=by omega
 have q1:¬bb=w.heap.size+1:=by omega
 have q2':¬bb=w2.heap.size:=by have:=HS1.out;omega
 have ng:=fun o=>Option.some.inj (nf o)
 have HW3:=hW_ hw3;have HP3:=hW_ hp3;have HB3:=hW_ (hb2.trans (hb3.mono hb2.size));have q3:¬w.heap.size=w2.heap.size:=by have:=HS1.out;omega
 have hz3:=HS1.out;clear hp2 hp3 hw2 hb2 hb3 hw3 df cf nf mf lf hz2;go_wp2_with (fail);rw[HW3.out];go_region;go_wp2_with (fail);have ho4:=pl_put HP3.out.own (i:=k) (by rw[hbl];exact hkm) (0,0);have hs3:w3.heap.size=w2.heap.size+1:=by rw[<-HW3.out];simp
 refine bodyPost_ret (v:= .agg #[.int .i64 p1, .int .i64 p2]) ?_ rfl ⟨rfl,⟨?_,?_,by rw[List.length_set];exact hbl,HB.out.far,HB.out.lo,HB.out.hd,HB.out.fits,hmost⟩,?_⟩
 ·simp[results,Tryz.results161,go_sem,n0,n1]
 ·show(World.setCell _ _ _).heap[g]?=_
  rw[cA (by omega),cA (by omega),cA (fun e=>hbg e.symm),cA (fun e=>hbg e.symm)];exact HP3.out.box
 ·refine jA ho4 (fun q hq=> ?_);obtain rfl:bb=q:=by simpa[Value.ownBlock]using hq
  show(World.setCell _ _ _).heap[bb]?=_
  rw[cA q0,cA q0]
 ·refine dA.drew ?_
  refine⟨HB1.out.os.symm▸HB3.out.os,HB1.out.tape.symm▸HB3.out.tape,HB1.out.output.symm▸HB3.out.output,?_,fun q hq hz=> ?_⟩
  ·have:=HB3.out.size;simp;omega
  ·rw[cA (by omega),cA (by omega),cA hz,cA hz];exact(HB3.out.block q (by omega)).trans (HB1.out.block q hq)
theorem X8 {w:World} {base g:Nat} {from_:Int} {L:List (Int×Int)} {p:Int×Int} {Q:Nat->Prop} (h:RgQ w base g from_ (L++ [p]) Q):
  Calls Tryz.prog 192 #[.pointer (some ⟨g,0,none⟩)] w fun E w'=>E= .returned (.tuple #[plV p, .bool true])/\RgQ w' base g from_ L Q/\dA Q w w':=by
 obtain⟨o,m,c,hh,B,hb,hat,hQg,hQ⟩:=h;obtain⟨n,hn⟩:∃n,L.length=n:=⟨_,rfl⟩;have hLn:(L++ [p]).length=n+1:=by simp[hn]
 rw[hLn]at hb;have hgl:=(Array.getElem?_eq_some_iff.1 hb.box).1;have hmost:=hb.most;have hfit:=hb.fits;have hbl:=hb.len;obtain⟨bb,c',hv,-,-⟩:=iA.at0 hb.own (by omega);obtain⟨rfl,-,rfl⟩:=Value.slice.inj hv;have hbg:bb≠g:=fun e=>hb.far (by rw[e];rfl)
 have hp:B[(hh+n) % m]?=some p:=by
  have:=hat n (by omega);rw[this];simp[hn]
 obtain⟨w1,hw1⟩:∃w1,w.alloc (.cells #[.int .i64 0, .int .i64 0] 140)=w1:=⟨_,rfl⟩;have hb1:Below w.heap.size w w1:=hw1▸aA w _;have hb2:=hb.below hb1;obtain⟨w2,hw2⟩:∃w2,w1.setCell ⟨g,2,none⟩ (.int .i64 n)=w2:=⟨_,rfl⟩;have hb3:RgB w2 base g (some ⟨bb,0,none⟩) m c hh n from_ B:=by
  rw[<-hw2];exact⟨rA (i:=2) hb2.box,jA hb2.own (fun q e=>by
   obtain rfl:bb=q:=by simpa[Value.ownBlock]using e
   exact cA hbg),hbl,hb2.far,hb2.lo,hb2.hd,by omega,hmost⟩
 have hT:=kN hb3 (i:=n) (by omega) (by omega) hp hbg;have hLenC:Calls Tryz.prog 76 #[.pointer (some ⟨g,0,none⟩)] w1 fun E w'=>E= .returned (.int .i64 ((n+1:Nat):Int))/\w'=w1:=by
  have:=sH (w:=w1) (g:=g) (base:=base) (from_:=from_) (L:=L++ [p]) ⟨_,m,c,hh,B,by rw[hLn];exact hb2,hat⟩;rw[hLn]at this;exact this
 obtain⟨c0,c1,c2,c3,c4,cf⟩:=uC hb2.box;have cg:=fun o=>Option.some.inj (cf o)
 obtain⟨d0,d1,d2,d3,d4,df⟩:=uC hb3.box;have hs1:w1.heap.size=w.heap.size+1:=by rw[<-hw1];simp
 have hs2:w2.heap.size=w1.heap.size:=by rw[<-hw2];simp
 have hr1:w2.heap[w.heap.size]?=some (.cells #[.int .i64 0, .int .i64 0] 140):=by
  rw[<-hw2,cA (by omega),<-hw1];exact heap_alloc_new w _
 have hk2:dA Q w w2:=by rw[<-hw2];exact(dA.of_below hb1).set hQg _
 have hwn:wrap64 (n:Int)=(n:Int):=by unfold wrap64;omega
 have g0:(((n+1:Nat):Int)==0)=false:=by simp;omega
 have g0':¬(((n+1:Nat):Int)=0):=by omega
 have HT:=hW_ hT;have HLC:=hW_ hLenC;have HW1:=hW_ hw1;have HW2:=hW_ hw2;have HR:=hW_ (And.intro hr1 (And.intro hs2 (And.intro hs1 hgl)));have HK:=hW_ hk2;have HAT:=hW_ hat;have HQ:=hW_ (And.intro hQg hQ);have HH:=hW_ hn;have HBL:Hid (bb<w.heap.size):=hW_ (World.ownsRow.lt hb.own bb rfl).2;have HM:=hW_ hfit;clear hb hb1 hb2 hb3 hT hLenC hw1 hw2 hr1 hs1 hs2 hgl hk2 hat hQg hQ cf df hn hLn hp hv hfit;go_enter Tryz.func192,Tryz.ntmps192;go_wp2_with (fail);rw[HW1.out];go_at_call 76;refine HLC.out.mono ?_
 rintro E w9 ⟨rfl,rfl⟩;go_wp2_with (fail);rw[HW2.out];go_at_call 161;refine HT.out.mono ?_
 rintro E w3 ⟨rfl,hb4,hk4⟩;obtain⟨hr1,hs2,hs1,hgl⟩:=HR.out;have hr3:=(hk4.block w.heap.size (by omega) (fun e=>by have:=(World.ownsRow.lt hb4.own bb rfl).2;have:=HK.out.size;have hx:=HK.out;have:bb<w.heap.size:=HBL.out;omega)).trans hr1;obtain⟨e0,e1,ef⟩:=iF hr3;have eg:=fun o=>Option.some.inj (ef o)
 have HB4:=hW_ hb4;have HK4:=hW_ hk4;obtain⟨p1,p2⟩:=p;unfold plV;clear hb4 hk4 hr3 ef hr1 hs2 hs1 hgl;go_wp2_with (fail);refine bodyPost_ret (v:= .tuple #[.agg #[.int .i64 p1, .int .i64 p2], .bool true]) ?_ rfl ⟨rfl,?_,?_⟩
 ·simp[results,Tryz.results192,go_sem,e0,e1]
 ·have hgl:=HR.out.2.2.2;have hL:=HH.out;have hM:=HM.out;refine⟨_,m,c,hh,_,⟨?_,jA HB4.out.own (fun q e=> ?_),HB4.out.len,HB4.out.far,HB4.out.lo,HB4.out.hd,by omega,hmost⟩,fun i hi=> ?_,HQ.out.1,HQ.out.2⟩
  ·show(World.setCell _ _ _).heap[g]?=_
   rw[cA (by omega),cA (by omega),hL];exact HB4.out.box
  ·obtain rfl:bb=q:=by simpa[Value.ownBlock]using e
   have:=HBL.out;show(World.setCell _ _ _).heap[bb]?=_
   rw[cA (by omega),cA (by omega)]
  ·have:=HAT.out i (by simp;omega);rw[List.getElem?_set_ne (fun e=>aBa (m:=m) (h:=hh) (i:=i) (j:=n) (by omega) (by omega) e.symm),this];simp[hi]
 ·have hk:=HK.out.trans (HK4.out.mono (T:=Q) (fun q _ e=>e▸HQ.out.2 bb rfl));refine⟨hk.os,hk.tape,hk.output,by have:=hk.size;simp;omega,fun q hq hz=> ?_⟩;rw[cA (by omega),cA (by omega)];exact hk.block q hq hz
def rgN (w:World) (g:Nat):Nat:=(intOf ((w.cell? ⟨g,2,none⟩).getD (.bool false))).toNat
theorem rgN_eq {w:World} {base g:Nat} {from_:Int} {L:List (Int×Int)} {Q:Nat->Prop} (h:RgQ w base g from_ L Q):rgN w g=L.length:=by
 obtain⟨o,m,c,hh,B,hb,-⟩:=h;obtain⟨c0,c1,c2,c3,c4,cf⟩:=uC hb.box;unfold rgN;rw[c2];simp[intOf]
theorem X9 {w:World} {base g:Nat} {from_ z:Int} {k:Nat} {L:List (Int×Int)} {Q:Nat->Prop} (h:RgQ w base g from_ L Q) (hf:0<=from_/\from_<=1099511627776) (hz:z=from_+k) (hk:k<=L.length):
  Calls Tryz.prog 155 #[.pointer (some ⟨g,0,none⟩), .int .i64 z] w fun E w'=>E= .returned (.bool true)/\RgQ w' base g from_ (L.take k) Q/\dA Q w w':=by
 subst hz;have hl:L.length<=1048576:=by obtain⟨o,m,c,hh,B,hb,-⟩:=h;have:=hb.fits;have:=hb.most;omega
 obtain⟨n,hn⟩:∃n,L.length=n:=⟨_,rfl⟩;rw[hn]at hk hl;have g1:decide (from_+(k:Int)<from_)=false:=by simp;omega
 have hw1:IntKind.i64.wrap (from_+(k:Int)-from_)=(k:Int):=by rw[IntKind.wrap_i64];omega
 have g2:decide ((k:Int)>(n:Int))=false:=by simp;omega
 have g2':decide ((n:Int)<(k:Int))=false:=by simp;omega
 have g2n:¬n<k:=by omega
 have HQ:=hW_ h;have HN:=hW_ (And.intro hn (And.intro hk hl));obtain⟨o,m,c,hh,B,hb,-⟩:=h;rw[hn]at hb;obtain⟨c0,c1,c2,c3,c4,cf⟩:=uC hb.box;clear hb hn hk;go_enter Tryz.func155,Tryz.ntmps155;go_wp2_with (fail);go_quiet (fail);go_wp2_with (fail);go_loopw [] (fun wr=>∃j:Nat,k<=j/\j<=n/\Hid (RgQ wr base g from_ (L.take j) Q/\dA Q w wr)) (fun wr=>rgN wr g)
 case atStart=>exact⟨n,HN.out.2.1,Nat.le_refl _,hW_ ⟨by rw[<-HN.out.1,List.take_length];exact HQ.out.stay (fun _ _=>rfl),(dA.refl _ _).drewN _⟩⟩
 case round=>
  obtain⟨j,hj1,hj2,HR⟩:=hrel;have hlj:(L.take j).length=j:=by rw[List.length_take];have:=HN.out.1;omega
  obtain⟨o,m,c,hh,B,hb,-⟩:=HR.out.1;rw[hlj]at hb;clear c0 c1 c2 c3 c4 cf;obtain⟨c0,c1,c2,c3,c4,cf⟩:=uC hb.box;clear hb
  by_cases hlt:k<j
  ·have g3:decide ((j:Int)>(k:Int))=true:=by simp;omega
   have g3':decide ((k:Int)<(j:Int))=true:=by simp;omega
   have gk:(k:Int)<(j:Int):=by omega
   obtain⟨i,rfl⟩:∃i,j=i+1:=⟨j-1,by omega⟩;have hs:∃p,L.take (i+1)=L.take i++ [p]:=⟨L[i]'(by have:=HN.out.1;omega),by rw[List.take_succ_eq_append_getElem]⟩;obtain⟨p,hs⟩:=hs;have hP:=HR.out.1;rw[hs]at hP;have HPC:=hW_ (fun W (hW:Below wr.heap.size wr W)=>X8 (hP.below hW));go_wp2_with (fail);go_quiet (fail);go_wp2_with (fail);refine(HPC.out _ (bA (Below.refl _ _) _)).mono ?_
   rintro E w2 ⟨rfl,hQ2,hK2⟩;have HQ2:=hW_ (And.intro hQ2 hK2);have hz2:=rgN_eq hQ2;have hz1:=rgN_eq HR.out.1;rw[hlj]at hz1;have hz3:rgN w2 g=i:=by rw[hz2,List.length_take];have:=HN.out.1;omega
   have HZ:=hW_ (And.intro hz1 hz3);clear hQ2 hK2 hz2 hz1 hz3 hs hP;go_wp2_with (fail);go_roundw
   case rel=>exact⟨i,by omega,by omega,hW_ ⟨HQ2.out.1,HR.out.2.trans ((dA.of_below (bA (Below.refl _ _) _)).trans HQ2.out.2)⟩⟩
   case measure=>rw[HZ.out.1,HZ.out.2];omega
  ·obtain rfl:j=k:=by omega
   have g3:decide ((j:Int)>(j:Int))=false:=by simp
   have g3':decide ((j:Int)<(j:Int))=false:=by simp
   have g4:¬(j:Int)<(j:Int):=by omega
   go_wp2_with (fail);go_quiet (fail);go_wp2_with (fail);go_ret;exact⟨rfl,HR.out.1.below (bA (Below.refl _ _) _),HR.out.2.drewN _⟩
theorem wrapN {n:Nat} (h:n<=1048576):wrap64 (n:Int)=(n:Int):=by unfold wrap64;omega
theorem pT {w:World} {base g:Nat} {from_:Int} {L:List (Int×Int)} {p:Int×Int} {Q:Nat->Prop} (h:RgQ w base g from_ (p::L) Q) (hf:0<=from_/\from_<=1099511627776):
  Calls Tryz.prog 123 #[.pointer (some ⟨g,0,none⟩)] w fun E w'=>E= .returned (.tuple #[plV p, .bool true])/\RgQ w' base g (from_+1) L Q/\dA Q w w':=by
 obtain⟨o,m,c,hh,B,hb,hat,hQg,hQ⟩:=h;obtain⟨n,hn⟩:∃n,L.length=n:=⟨_,rfl⟩;have hLn:(p::L).length=n+1:=by simp[hn]
 rw[hLn]at hb;have hgl:=(Array.getElem?_eq_some_iff.1 hb.box).1;have hmost:=hb.most;have hfit:=hb.fits;have hwn:wrap64 (n:Int)=(n:Int):=wrapN (by omega);have hwf:IntKind.i64.wrap (from_+1)=from_+1:=by rw[IntKind.wrap_i64];omega
 have hbl:=hb.len;have hhm:hh<m:=by rcases hb.hd with h0 | h0<;>omega
 obtain⟨bb,c',hv,-,-⟩:=iA.at0 hb.own (by omega);obtain⟨rfl,-,rfl⟩:=Value.slice.inj hv;have hbg:bb≠g:=fun e=>hb.far (by rw[e];rfl)
 have hp:B[(hh+0) % m]?=some p:=hat 0 (by simp)
 obtain⟨w1,hw1⟩:∃w1,w.alloc (.cells #[.int .i64 0, .int .i64 0] 140)=w1:=⟨_,rfl⟩;have hb1:Below w.heap.size w w1:=hw1▸aA w _;have hb2:=hb.below hb1;have hT:=kN hb2 (i:=0) (by omega) (by omega) hp hbg;have hLenC:Calls Tryz.prog 76 #[.pointer (some ⟨g,0,none⟩)] w1 fun E w'=>E= .returned (.int .i64 ((n+1:Nat):Int))/\w'=w1:=by
  have:=sH (w:=w1) (g:=g) (base:=base) (from_:=from_) (L:=p::L) ⟨_,m,c,hh,B,by rw[hLn];exact hb2,hat⟩;rw[hLn]at this;exact this
 have hs1:w1.heap.size=w.heap.size+1:=by rw[<-hw1];simp
 have hr1:w1.heap[w.heap.size]?=some (.cells #[.int .i64 0, .int .i64 0] 140):=by rw[<-hw1];exact heap_alloc_new w _
 have g0:(((n+1:Nat):Int)==0)=false:=by simp;omega
 have g0':¬(((n+1:Nat):Int)=0):=by omega
 have HT:=hW_ hT;have HLC:=hW_ hLenC;have HW1:=hW_ hw1;have HB1:=hW_ hb1;have HR:=hW_ (And.intro hr1 (And.intro hs1 hgl));have HAT:=hW_ hat;have HQ:=hW_ (And.intro hQg hQ);have HH:=hW_ hn;have HBL:Hid (bb<w.heap.size):=hW_ (World.ownsRow.lt hb.own bb rfl).2;have HM:=hW_ (And.intro hfit hhm);clear hb hb1 hb2 hT hLenC hw1 hr1 hs1 hgl hat hQg hQ hn hLn hp hv hfit hhm;go_enter Tryz.func123,Tryz.ntmps123;go_wp2_with (fail);rw[HW1.out];go_at_call 76;refine HLC.out.mono ?_
 rintro E w9 ⟨rfl,rfl⟩;go_wp2_with (fail);go_at_call 161;refine HT.out.mono ?_
 rintro E w2 ⟨rfl,hb4,hk4⟩;obtain⟨p1,p2⟩:=p;unfold plV;obtain⟨hr1,hs1,hgl⟩:=HR.out;have hbl2:=HBL.out;have hr2:=(hk4.block w.heap.size (by omega) (by omega)).trans hr1;have hs2:=hk4.size;obtain⟨w3,hw3⟩:∃w3,w2.alloc (.cells #[.int .i64 p1, .int .i64 p2] 140)=w3:=⟨_,rfl⟩;have hb3:Below w2.heap.size w2 w3:=hw3▸aA w2 _;have hx3:=(hb3.block g (by omega)).trans hb4.box;obtain⟨d0,d1,d2,d3,d4,df⟩:=uC hx3;have dg:=fun o=>Option.some.inj (df o)
 obtain⟨n0,n1,nf⟩:=iF ((hb3.block _ (by omega)).trans hr2);have ng:=fun o=>Option.some.inj (nf o)
 obtain⟨l0,l1,lf⟩:=iF (show w3.heap[w2.heap.size]?=some (.cells #[.int .i64 p1, .int .i64 p2] 140) by rw[<-hw3];exact heap_alloc_new w2 _);have HPL:=hW_ (lN hx3 HM.out.2 hmost (i:=1) (by omega));obtain⟨k,hk⟩:∃k,(hh+1) % m=k:=⟨_,rfl⟩;rw[hk]at HPL;have q1:¬g=w2.heap.size:=by omega
 have q2:¬g=w.heap.size:=by omega
 have q3:¬w.heap.size=w2.heap.size:=by omega
 have q4:¬w2.heap.size=g:=by omega
 have q5:¬w.heap.size=g:=by omega
 have HW3:=hW_ hw3;have HB3:=hW_ hb3;have HB4:=hW_ hb4;have HK4:=hW_ hk4;have HS:=hW_ (And.intro hs1 (And.intro hs2 hgl));clear hw3 hb3 hb4 hk4 hx3 df nf lf hr1 hs1 hgl hr2 hs2 hbl2;go_wp2_with (fail);rw[HW3.out];go_at_call 162;refine HPL.out.mono ?_
 rintro E w4 ⟨rfl,q6,rfl⟩;go_wp2_with (fail);refine bodyPost_ret (v:= .tuple #[.agg #[.int .i64 p1, .int .i64 p2], .bool true]) ?_ rfl ⟨rfl,?_,?_⟩
 ·simp[results,Tryz.results123,go_sem,n0,n1]
 ·obtain⟨hs1,hs2,hgl⟩:=HS.out;have hbl2:=HBL.out;have hx3:=(HB3.out.block g (by omega)).trans HB4.out.box;have hM:=HM.out;have hL:=HH.out;refine⟨_,m,c,k,_,⟨?_,jA HB4.out.own (fun q e=> ?_),HB4.out.len,HB4.out.far,HB4.out.lo, .inr (by rw[<-hk];exact Nat.mod_lt _ (by omega)),by omega,hmost⟩,fun i hi=> ?_,HQ.out.1,HQ.out.2⟩
  ·rw[hL]
   repeat rw[cA (by omega)]
   exact rA (i:=3) (rA (i:=2) (rA (i:=1) hx3))
  ·obtain rfl:bb=q:=by simpa[Value.ownBlock]using e
   repeat rw[cA (by omega)]
   exact HB3.out.block bb (by omega)
  ·have:=HAT.out (i+1) (by simp;omega);have e1:(k+i) % m=(hh+(i+1)) % m:=by rw[<-hk,Nat.mod_add_mod];congr 1;omega
   rw[e1,List.getElem?_set_ne (fun e=>aBa (m:=m) (h:=hh) (i:=0) (j:=i+1) (by omega) (by omega) e),this];simp
 ·obtain⟨hs1,hs2,hgl⟩:=HS.out;have hk:=(dA.of_below HB1.out).trans (HK4.out.mono (T:=Q) (fun q _ e=>e▸HQ.out.2 bb rfl));have hk3:=hk.trans (dA.of_below HB3.out);exact⟨hk3.os,hk3.tape,hk3.output,by have:=hk3.size;simp;omega,fun q hq hz=>by
   have hqg:q≠g:=fun e=>hz (e▸HQ.out.1)
   rw[cA (by omega),cA (by omega),cA hqg,cA hqg,cA hqg];exact hk3.block q hq hz⟩
end Go.Proofs.YtahiballegpbgaaGreatDoor
