/- Walks: a ring: All. -/
import Derived.Test.YtahiballegpbgaaGreatDoorR36
set_option linter.unusedVariables false
set_option maxHeartbeats 4000000
set_option maxRecDepth 100000
namespace Go.Proofs.YtahiballegpbgaaGreatDoor
open Go.RowKit
theorem aY {w:World} {base g:Nat} {from_:Int} {L:List (Int×Int)} (h:RgV w base g from_ L):
  Calls Tryz.prog 152 #[.pointer (some ⟨g,0,none⟩)] w fun E w'=>∃v,E= .returned v/\iA plE 2 140 w' w.heap.size v L/\Below w.heap.size w w':=by
 have HLC:=hW_ (sH h);obtain⟨o,m,c,hh,B,hb,hat⟩:=h;obtain⟨n,hn⟩:∃n,L.length=n:=⟨_,rfl⟩;rw[hn]at hb HLC;have hmost:=hb.most;have hfit:=hb.fits;have hgl:=(Array.getElem?_eq_some_iff.1 hb.box).1;have HB:=hW_ hb;have HN:=hW_ (And.intro hn (And.intro hat (And.intro hfit hgl)));obtain⟨i0,hi,hz0,hz1,hz2⟩:=info_parts infoPl;have hz3:(Value.agg #[.int .i64 0, .int .i64 0]).cells.size=2:=by decide
 obtain⟨c0,c1,c2,c3,c4,cf⟩:=uC hb.box;clear hb hat hn hgl;go_enter Tryz.func152,Tryz.ntmps152;go_wp2_with (fail);go_at_call 76;refine HLC.out.mono ?_
 rintro E w9 ⟨rfl,rfl⟩;go_wp2_with (fail);go_loopw [3,7] (fun s i wr=>∃j:Nat,j<=n/\i= .int .i64 j/\Hid (iA plE 2 140 wr w9.heap.size s (L.take j)/\Below w9.heap.size w9 wr)) (fun _ i _=>n-(intOf i).toNat)
 case atStart=>exact⟨0,Nat.zero_le _,rfl,hW_ ⟨iA.nil _ _,Below.refl _ _⟩⟩
 case round=>
  obtain⟨j,hj,rfl,HR⟩:=hrel;clear c0 c1 c2 c3 c4 cf
  by_cases hlt:j<n
  ·obtain⟨hn,hat,hfit,hgl⟩:=HN.out;have hbr:=HB.out;have gj:(j:Int)<(n:Int):=by omega
   obtain⟨k,hk⟩:∃k,(hh+j) % m=k:=⟨_,rfl⟩;have hkm:k<m:=by rw[<-hk];exact Nat.mod_lt _ (by omega)
   have gk:(k:Int)<(m:Int):=by omega
   have hhm:hh<m:=by rcases hbr.hd with h0 | h0<;>omega
   have hp:=hat j (by omega);rw[hk]at hp;obtain⟨⟨p1,p2⟩,hpp⟩:∃p,L[j]=p:=⟨_,rfl⟩;rw[hpp]at hp;obtain⟨bb,c',hv,-,-⟩:=iA.at0 hbr.own (by rw[hbr.len];omega);obtain⟨rfl,-,rfl⟩:=Value.slice.inj hv;obtain⟨y0,y1,yf⟩:=qN hbr.own hp;obtain⟨c0,c1,c2,c3,c4,cf⟩:=uC hbr.box;have HPL:Hid (∀W,Below w9.heap.size w9 W->Calls Tryz.prog 162 #[.pointer (some ⟨g,0,none⟩), .int .i64 j] W fun E w'=>E= .returned (.int .i64 (k:Int))/\∃q,w'=W.drewN q):=hW_ (fun W hW=>by
    have:=lN ((hW.block g hgl).trans hbr.box) hhm hmost (i:=j) (by omega);rw[hk]at this;exact this)
   have hlj:(L.take j).length=j:=by rw[List.length_take];omega
   have HL:=hW_ (And.intro hlj (show L.take j++ [(p1,p2)]=L.take (j+1) by rw[List.take_succ_eq_append_getElem (by omega),hpp]));have G0:=fun w' (hg:Below w9.heap.size w9 w')=>eA hg _ _ c0
   have Y0:=fun w' (hg:Below w9.heap.size w9 w')=>eA hg _ _ y0
   have Y1:=fun w' (hg:Below w9.heap.size w9 w')=>eA hg _ _ y1
   have br:=HR.out.2;have HO:Hid (∀q,(wr.drewN q).ownsRow w9.heap.size 140 2 u3 j (flat plE (L.take j))):=hW_ (fun q=>by
    have:=iA.drewN HR.out.1 q;unfold iA at this;rw[hlj]at this;exact this)
   have HLT:=hW_ (World.ownsRow.lt HR.out.1);have hj1:j+1<=1048576:=by omega
   clear hn hat hfit hgl hbr hp hpp hv cf yf hlj c0 c1 c2 c3 c4 y0 y1;go_wp2_with (fail)
   go_region_held3 (Below w9.heap.size w9) (first | (with_reducible assumption) | exact br.drew | exact bA br _ | exact(bA br _).alloc (bA br _).size _) (first
    | (go_at_call 162;refine(HPL.out _ (by first | exact br.drew | exact bA br _ | exact br)).mono ?_;rintro E w8 ⟨rfl,q8,rfl⟩)
    | (refine step_append_lies _ (by rfl) _ _ _ (by rfl) w9.heap.size 140 i0 _ 2 16 Tryz.underlying185 hi hz0 hz1 hz2 hz3 (by omega) u3 j (flat plE (L.take j)) (by rfl) (by exact World.ownsRow.alloc (HO.out _) _) ⟨wr.heap.size,0,none⟩ 1 1 [.int .i64 p1, .int .i64 p2] (by rfl) (by rfl) (by exact World.news_of_block (cs:=#[.int .i64 p1, .int .i64 p2]) (heap_alloc_new (wr.drewN _) _)) (by simp[Value.oneCell']) (by omega) (by unfold maxLen;omega) (by omega) (by simp;have:=br.size;omega) wr.heap.size.succ (by simp) ?_;intro gg cap2 w2 ho2 hg2 hat2 hb2;have hz2:Below w9.heap.size w9 w2:=Below.grown ((bA br _).alloc (bA br _).size _) (by exact hg2) (by have:=br.size;simp;omega) (fun q hq=>(HLT.out q hq).1)))
   have HO2:Hid (iA plE 2 140 w2 w9.heap.size (.slice (some ⟨gg,0,none⟩) (j+1) cap2) (L.take (j+1))):=hW_ (by
    rw[<-HL.out.2];unfold iA;rw[List.length_append,HL.out.1,cB,cE];exact ho2)
   have HZ2:=hW_ hz2;clear ho2 hg2 hat2 hb2 hz2;go_wp2_with (fail);go_roundw
   case rel=>exact⟨j+1,by omega,by go_num,hW_ ⟨HO2.out,HZ2.out⟩⟩
   case measure=>simp[intOf];omega
  ·obtain rfl:j=n:=by omega
   have gj:¬(j:Int)<(j:Int):=by omega
   go_wp2_with (fail);go_ret;refine⟨_,rfl,?_,HR.out.2⟩;have:=HR.out.1;rw[List.take_of_length_le (by have:=HN.out.1;omega)]at this;exact this
structure rD (w:World) (base g eb rb:Nat) (L:List (Int×Int)) (bs st keep com:Int) (Q:Nat->Prop):Prop where
 b:xQ w base g eb rb L bs st keep com
 rq:RgQ w base rb bs L Q
 ng:¬Q g/\¬Q eb
theorem rD.lt {w:World} {base g eb rb:Nat} {L:List (Int×Int)} {bs st keep com:Int} {Q:Nat->Prop} (h:rD w base g eb rb L bs st keep com Q):g<w.heap.size/\eb<w.heap.size:=
 ⟨(Array.getElem?_eq_some_iff.1 h.b.box).1,(Array.getElem?_eq_some_iff.1 h.b.ev).1⟩
theorem rD.stay {w w':World} {base g eb rb:Nat} {L:List (Int×Int)} {bs st keep com:Int} {Q:Nat->Prop} (h:rD w base g eb rb L bs st keep com Q) (hk:∀q,(Q q\/q=g\/q=eb)->w'.heap[q]?=w.heap[q]?):rD w' base g eb rb L bs st keep com Q:=by
 have hr:=h.rq.stay (w':=w') (fun q hq=>hk q (.inl hq));exact⟨⟨(hk g (.inr (.inl rfl))).trans h.b.box,(hk eb (.inr (.inr rfl))).trans h.b.ev,hr.v,h.b.lo,h.b.bd⟩,hr,h.ng⟩
theorem rD.below {w w':World} {base g eb rb:Nat} {L:List (Int×Int)} {bs st keep com:Int} {Q:Nat->Prop} (h:rD w base g eb rb L bs st keep com Q) (k:Below w.heap.size w w'):rD w' base g eb rb L bs st keep com Q:=
 ⟨h.b.below k,h.rq.below k,h.ng⟩
theorem rD.ring {w w':World} {base g eb rb:Nat} {L M:List (Int×Int)} {bs st keep com:Int} {Q Q':Nat->Prop} (h:rD w base g eb rb L bs st keep com Q) (hk:dA Q w w') (hr:RgQ w' base rb bs M Q') (hq:∀q,Q' q->Q q\/w.heap.size<=q):rD w' base g eb rb M bs st keep com Q':=
 ⟨⟨(hk.block g h.lt.1 h.ng.1).trans h.b.box,(hk.block eb h.lt.2 h.ng.2).trans h.b.ev,hr.v,h.b.lo,h.b.bd⟩,hr,fun e=>(hq g e).elim h.ng.1 (fun e2=>by have:=h.lt.1;omega),fun e=>(hq eb e).elim h.ng.2 (fun e2=>by have:=h.lt.2;omega)⟩
theorem RgQ.len {w:World} {base g:Nat} {from_:Int} {L:List (Int×Int)} {Q:Nat->Prop} (h:RgQ w base g from_ L Q):L.length<=1048576:=by
 obtain⟨o,m,c,hh,B,hb,-⟩:=h;have:=hb.fits;have:=hb.most;omega
theorem kX {w:World} {base g eb rb:Nat} {L:List (Int×Int)} {bs st keep com:Int} {Q:Nat->Prop} (tok s:Int) (h:rD w base g eb rb L bs st keep com Q) (hs:1<=s/\s<=64) (hL:L.length<1048576) (ht:0<=tI L st/\tI L st<=1099511627776):
  Calls Tryz.prog 122 #[.pointer (some ⟨g,0,none⟩), .int .i64 tok, .int .i64 s] w fun E w'=>E= .returned (.int .i64 0)/\
   ∃Q',rD w' base g eb rb (L++ [(tok,tI L st+s)]) bs st keep com Q'/\(∀q,Q' q->Q q\/w.heap.size<=q)/\dA Q w w':=by
 obtain⟨z,hz⟩:∃z,tI L st=z:=⟨_,rfl⟩;have hT:=M5 h.b;rw[hz]at hT ht |-;have g1:decide (s<1)=false:=by simp;omega
 have g2:decide (s>64)=false:=by simp;omega
 have g2':decide (64<s)=false:=by simp;omega
 have hw:IntKind.i64.wrap (z+s)=z+s:=by rw[IntKind.wrap_i64];omega
 have HT:Hid (∀W,Below w.heap.size w W->Calls Tryz.prog 160 #[.pointer (some ⟨g,0,none⟩)] W fun E w'=>E= .returned (.int .i64 z)/\Below W.heap.size W w'):=hW_ (fun W hW=>by
  have:=M5 (h.b.below hW);rw[hz]at this;exact this)
 have HP:=hW_ (fun W (hW:Below w.heap.size w W)=>V9 (tok,z+s) (h.rq.below hW) hL);obtain⟨c0,c1,c2,c3,cf⟩:=eH h.b.box;have HW:=hW_ h;have kr:=dA.refl Q w;have G1:=fun w' (hg:dA Q w w')=>hg.cell c1 h.ng.1
 clear h hT hz hs ht;go_enter Tryz.func122,Tryz.ntmps122;go_wp2_with (fail)
 go_region_held3 (dA Q w) (first | (with_reducible assumption) | exact kr.drew | exact kr.drewN _) (first
  | (go_at_call 160;refine(HT.out _ (by first | exact bA (Below.refl _ _) _ | exact(Below.refl _ _).drew | exact Below.refl _ _)).mono ?_;rintro E w1 ⟨rfl,hb1⟩;have hg1:Below w.heap.size w w1:=(bA (Below.refl _ _) _).trans hb1;have hz1:dA Q w w1:=dA.of_below hg1;clear hb1)
  | (go_at_call 159;refine(HP.out _ hg1).mono ?_;rintro E w2 ⟨rfl,Q2,hr2,hq2,hk2⟩;have hz2:dA Q w w2:=hz1.trans hk2;have HR2:=hW_ (And.intro hr2 (And.intro hq2 (And.intro hz2 hg1.size)));clear hr2 hq2 hk2))
 go_wp2_with (fail);go_ret;obtain⟨hr2,hq2,hz2,hs2⟩:=HR2.out;have hq3:∀q,Q2 q->Q q\/w.heap.size<=q:=fun q hq=>(hq2 q hq).imp id (fun h=>Nat.le_trans hs2 h)
 exact⟨rfl,Q2,HW.out.ring hz2 hr2 hq3,hq3,hz2⟩
theorem bR {w:World} {base g eb rb n:Nat} {L:List (Int×Int)} {bs st keep com:Int} {Q:Nat->Prop} (h:rD w base g eb rb L bs st keep com Q) (hn:(n:Int)<=bs+L.length-com) (hc:bs<=com) (hc2:com<=1099511627776):
  Calls Tryz.prog 120 #[.pointer (some ⟨g,0,none⟩), .int .i64 n] w fun E w'=>E= .returned (.int .i64 0)/\rD w' base g eb rb (L.take (L.length-n)) bs st keep com Q/\dA Q w w':=by
 have hl:=h.rq.len;have hbd:=h.b.bd;have g0:decide ((n:Int)<0)=false:=decide_eq_false (by omega);have hw1:IntKind.i64.wrap (bs+(L.length:Int)-com)=bs+L.length-com:=by rw[IntKind.wrap_i64];omega
 have g1:decide ((n:Int)>bs+(L.length:Int)-com)=false:=by simp;omega
 have g1':decide (bs+(L.length:Int)-com<(n:Int))=false:=by simp;omega
 have hw2:IntKind.i64.wrap (bs+(L.length:Int)-(n:Int))=bs+(L.length:Int)-(n:Int):=by rw[IntKind.wrap_i64];omega
 have HT:Hid (∀W,Below w.heap.size w W->Calls Tryz.prog 37 #[.pointer (some ⟨g,0,none⟩)] W fun E w'=>E= .returned (.int .i64 (bs+L.length))/\Below W.heap.size W w'):=hW_ (fun W hW=>I8 (h.b.below hW));have HP:=hW_ (fun W (hW:Below w.heap.size w W)=>X9 (z:=bs+(L.length:Int)-(n:Int)) (k:=L.length-n) (h.rq.below hW) ⟨hbd.1,by omega⟩ (by omega) (by omega));obtain⟨c0,c1,c2,c3,cf⟩:=eH h.b.box;have HW:=hW_ h;have kr:=dA.refl Q w;have G1:=fun w' (hg:dA Q w w')=>hg.cell c1 h.ng.1
 have br:=Below.refl w.heap.size w;have B3:=fun w' (hg:Below w.heap.size w w')=>eA hg _ _ c3
 clear h hn hc hc2 hl hbd;go_enter Tryz.func120,Tryz.ntmps120;go_wp2_with (fail)
 go_region_held3 (Below w.heap.size w) (first | (with_reducible assumption) | exact br.drew | exact bA br _) ((go_at_call 37;refine(HT.out _ (by first | exact bA (Below.refl _ _) _ | exact(Below.refl _ _).drew | exact Below.refl _ _)).mono ?_;rintro E w1 ⟨rfl,hb1⟩;have hg1:Below w.heap.size w w1:=(bA (Below.refl _ _) _).trans hb1;have HG1:=hW_ hg1;clear hb1))
 have c1':=eA HG1.out _ _ c1;have hzk:dA Q w w1:=dA.of_below HG1.out;go_wp2_with (fail)
 go_region_held3 (dA Q w) (first | (with_reducible assumption) | exact hzk.drew | exact hzk.drewN _) (first
  | (go_at_call 37;refine(HT.out _ (by first | exact bA HG1.out _ | exact HG1.out.drew | exact HG1.out)).mono ?_;rintro E w2 ⟨rfl,hb2⟩;have hg2:Below w.heap.size w w2:=(bA HG1.out _).trans (hb2.mono HG1.out.size);have hz2:dA Q w w2:=dA.of_below hg2;clear hb2)
  | (go_at_call 155;refine(HP.out _ hg2).mono ?_;rintro E w3 ⟨rfl,hr3,hk3⟩;have hz3:dA Q w w3:=hz2.trans hk3;have HR3:=hW_ (And.intro hr3 hz3);clear hr3 hk3))
 go_wp2_with (fail);go_ret;exact⟨rfl,HW.out.ring HR3.out.2 HR3.out.1 (fun q hq=> .inl hq),HR3.out.2⟩
theorem iT {w:World} {base g eb rb:Nat} {L:List (Int×Int)} {bs st keep com:Int} (h:xQ w base g eb rb L bs st keep com):
  Calls Tryz.prog 117 #[.pointer (some ⟨g,0,none⟩)] w fun E w'=>∃v,E= .returned v/\Own w' w.heap.size v (L.map (·.1))/\Below w.heap.size w w':=by
 have hl:L.length<=1048576:=by obtain⟨o,m,c,hh,B,hb,-⟩:=h.row;have:=hb.fits;have:=hb.most;omega
 have HA:=hW_ (aY h.row);obtain⟨c0,c1,c2,c3,cf⟩:=eH h.box;obtain⟨n,hn⟩:∃n,L.length=n:=⟨_,rfl⟩;rw[hn]at hl;have HN:=hW_ hn;obtain⟨i0,hi0,hz0,hz1,hz2⟩:=info_parts tC;clear h hn;go_enter Tryz.func117,Tryz.ntmps117;go_wp2_with (fail);refine HA.out.mono ?_
 rintro E w1 ⟨v1,rfl,ho1,hb1⟩;obtain⟨va,vc,rfl,hs1⟩:=ho1.sl;rw[HN.out]at hs1 |-;have HS1:=hW_ hs1;have HB1:=hW_ hb1;clear ho1 hs1 hb1 c0 c1 c2 c3 cf;go_wp2_with (fail);go_loopw [3,14] (fun s i wr=>∃j:Nat,j<=n/\i= .int .i64 j/\Hid (Own wr w1.heap.size s ((L.take j).map (·.1))/\Below w1.heap.size w1 wr)) (fun _ i _=>n-(intOf i).toNat)
 case atStart=>exact⟨0,Nat.zero_le _,rfl,hW_ ⟨Own.nil _ _,Below.refl _ _⟩⟩
 case round=>
  obtain⟨j,hj,rfl,HR⟩:=hrel
  by_cases hlt:j<n
  ·have gj:(j:Int)<(n:Int):=by omega
   have hjl:j<L.length:=by have:=HN.out;omega
   obtain⟨⟨p1,p2⟩,hp⟩:∃p,L[j]?=some p:=⟨_,List.getElem?_eq_getElem hjl⟩
   obtain⟨b,of,rfl,hce⟩:=(HS1.out.below HR.out.2).elem lC (by omega) hp;have d0:=hce 0 _ rfl;have d1:=hce 1 _ rfl;rw[Nat.add_zero]at d0;simp only at d0 d1;have hb2:=aA wr (.cells #[.int .i64 p1, .int .i64 p2] 140);have hx2:(wr.alloc (.cells #[.int .i64 p1, .int .i64 p2] 140)).heap[wr.heap.size]?=some (.cells #[.int .i64 p1, .int .i64 p2] 140):=heap_alloc_new wr _
   obtain⟨k0,k1,kf⟩:=iF hx2;have HBW:=hW_ (HR.out.2.trans (hb2.mono HR.out.2.size));have HO2:=hW_ (HR.out.1.below hb2);have HLT:=hW_ (World.ownsRow.lt HR.out.1);have hlj:((L.take j).map (·.1)).length=j:=by rw[List.length_map,List.length_take];omega
   have HL:=hW_ (And.intro hlj (show(L.take j).map (·.1)++ [p1]=(L.take (j+1)).map (·.1) by
    have e:=(List.getElem?_eq_some_iff.1 hp).2;rw[List.take_succ_eq_append_getElem hjl,e,List.map_append];rfl))
   clear hce hb2 hx2 kf hlj hp;go_wp2_with (at_builtin;refine iE rfl _ _ rfl (base:=w1.heap.size) (k:=j) (y:=p1) rfl (by exact World.ownsRow.alloc HO2.out _) HL.out.1 rfl (by exact yS (by simp)) (by omega) (by simp;have:=HR.out.2.size;omega) ?_;intro gg cap w3 ho3 hg3 hat3);rw[HL.out.2]at ho3;have hb3:Below w1.heap.size w1 w3:=Below.grown (HBW.out.alloc HBW.out.size _) hg3 (by simp;have:=HR.out.2.size;omega) (fun q hq=>(HLT.out q hq).1);have HO3:=hW_ (And.intro ho3 hb3);clear ho3 hg3 hat3 hb3;go_wp2_with (fail);go_roundw
   case rel=>exact⟨j+1,by omega,by go_num,HO3⟩
   case measure=>simp[intOf];omega
  ·obtain rfl:j=n:=by omega
   have gj:¬(j:Int)<(j:Int):=by omega
   go_wp2_with (fail);go_ret;refine⟨_,rfl,?_,HB1.out.trans (HR.out.2.mono HB1.out.size)⟩;have:=HR.out.1.mono HB1.out.size;rw[List.take_of_length_le (by have:=HN.out;omega)]at this;exact this
def evN (w:World) (eb:Nat):Int:=intOf ((w.cell? ⟨eb,0,none⟩).getD (.bool false))
theorem evN_eq {w:World} {base g eb rb:Nat} {L:List (Int×Int)} {bs st keep com:Int} (h:xQ w base g eb rb L bs st keep com):evN w eb=bs:=by
 obtain⟨c0,c1,cf⟩:=iF h.ev;unfold evN;rw[c0];rfl
theorem jT {w:World} {base g eb rb d:Nat} {L:List (Int×Int)} {bs st keep com n:Int} {Q:Nat->Prop} (h:rD w base g eb rb L bs st keep com Q) (hn:com<=n/\n<=bs+L.length) (hk:0<=keep/\keep<=4096) (hc:0<=com) (hd:(d:Int)=max 0 (n-keep-bs)) (hb:bs<=1048576):
  Calls Tryz.prog 84 #[.pointer (some ⟨g,0,none⟩), .int .i64 n] w fun E w'=>E= .returned (.int .i64 0)/\rD w' base g eb rb (L.drop d) (bs+d) (tI (L.take d) st) keep n Q/\dA (fun q=>Q q\/q=g\/q=eb) w w':=by
 have hl:=h.rq.len;have hbd:=h.b.bd;have hdl:d<=L.length:=by omega
 have g1:decide (n<com)=false:=by simp;omega
 have g2:decide (n>bs+(L.length:Int))=false:=by simp;omega
 have g2':decide (bs+(L.length:Int)<n)=false:=by simp;omega
 have HT:=hW_ (I8 h.b);obtain⟨c0,c1,c2,c3,cf⟩:=eH h.b.box;have HW:=hW_ h;have HD:=hW_ (And.intro hd (And.intro hdl (And.intro hl (And.intro hbd (And.intro hn (And.intro hk hb))))));have hwk:IntKind.i64.wrap (n-keep)=n-keep:=by rw[IntKind.wrap_i64];omega
 clear h hd hdl hl hbd hn hk hb;go_enter Tryz.func84,Tryz.ntmps84;go_wp2_with (go_at_call 37;refine HT.out.mono ?_;rintro E w1 ⟨rfl,hb1⟩;have hq1:=HW.out.below hb1;obtain⟨c0,c1,c2,c3,cf⟩:=eH hq1.b.box;have cg:=fun o=>Option.some.inj (cf o);have HQ1:=hW_ hq1;have HB1:=hW_ hb1;clear hq1 hb1 cf);obtain⟨w2,hw2⟩:∃w2,w1.setCell ⟨g,3,none⟩ (.int .i64 n)=w2:=⟨_,rfl⟩;rw[hw2];have hq2:rD w2 base g eb rb L bs st keep n Q:=by
  obtain⟨hb,hr,hng⟩:=HQ1.out;have hlo:=hb.lo;have hr2:RgQ w2 base rb bs L Q:=hr.stay (fun q hq=>by rw[<-hw2];exact cA (fun e=>hng.1 (e▸hq)));exact⟨⟨by rw[<-hw2];exact rA (i:=3) hb.box,by rw[<-hw2];exact(cA (fun e=>hlo.2.2.1 e.symm)).trans hb.ev,hr2.v,hlo,hb.bd⟩,hr2,hng⟩
 have hk2:dA (fun q=>Q q\/q=g\/q=eb) w w2:=by
  rw[<-hw2];exact(dA.of_below HB1.out).set (Or.inr (Or.inl rfl)) _
 have HQ2:=hW_ (And.intro hq2 hk2);clear hq2 hk2 hw2 c0 c1 c2 c3 cg;go_loopw [] (fun wr=>∃j:Nat,j<=d/\Hid (rD wr base g eb rb (L.drop j) (bs+j) (tI (L.take j) st) keep n Q/\dA (fun q=>Q q\/q=g\/q=eb) w wr)) (fun wr=>(bs+d-evN wr eb).toNat)
 case atStart=>exact⟨0,Nat.zero_le _,hW_ ⟨by simpa[tI]using HQ2.out.1,HQ2.out.2⟩⟩
 case round=>
  obtain⟨j,hj,HR⟩:=hrel;obtain⟨hd,hdl,hl,hbd,hn,hk,hb⟩:=HD.out;obtain⟨e0,e1,ef⟩:=iF HR.out.1.b.ev;obtain⟨c0,c1,c2,c3,cf⟩:=eH HR.out.1.b.box
  by_cases hlt:j<d
  ·have g3:decide (bs+(j:Int)<n-keep)=true:=by simp;omega
   have g3':bs+(j:Int)<n-keep:=by omega
   obtain⟨p,hp⟩:∃p,L[j]?=some p:=⟨L[j]'(by omega),List.getElem?_eq_getElem _⟩
   have hdr:L.drop j=p::L.drop (j+1):=by
    rw[List.drop_eq_getElem_cons (by omega)];have:=(List.getElem?_eq_some_iff.1 hp).2;rw[this]
   have hrq:=HR.out.1.rq;rw[hdr]at hrq;have HS:=hW_ (fun W (hW:Below wr.heap.size wr W)=>pT (hrq.below hW) (by omega));have HP:=hW_ hp;have htk:tI (L.take (j+1)) st=p.2:=by
    have e:=(List.getElem?_eq_some_iff.1 hp).2;rw[List.take_succ_eq_append_getElem (by omega),e];unfold tI;rw[List.getLast?_concat]
   have HTK:=hW_ htk;have hwb:IntKind.i64.wrap (bs+(j:Int)+1)=bs+((j+1:Nat):Int):=by rw[IntKind.wrap_i64];omega
   obtain⟨p1,p2⟩:=p;clear hd hdl hl hbd hn hk hb hp hdr hrq htk ef cf;go_wp2_with (fail);go_quiet (fail);go_wp2_with (fail);refine(HS.out _ (by first | exact bA (Below.refl _ _) _ | exact Below.refl _ _)).mono ?_
   rintro E w3 ⟨rfl,hr3,hk3⟩;unfold plV;have hk3':dA Q wr w3:=(dA.of_below (bA (Below.refl _ _) _)).trans hk3;have hlt0:=HR.out.1.lt;have hng:=HR.out.1.ng;have hx3:=(hk3'.block g hlt0.1 hng.1).trans HR.out.1.b.box;have hv3:=(hk3'.block eb hlt0.2 hng.2).trans HR.out.1.b.ev;obtain⟨w4,hw4⟩:∃w4,w3.alloc (.cells #[.int .i64 p1, .int .i64 p2] 140)=w4:=⟨_,rfl⟩;have hb4:Below w3.heap.size w3 w4:=hw4▸aA w3 _;have hs3:=hk3'.size;have hx4:=(hb4.block g (by omega)).trans hx3;have hv4:=(hb4.block eb (by omega)).trans hv3;obtain⟨l0,l1,lf⟩:=iF (show w4.heap[w3.heap.size]?=some (.cells #[.int .i64 p1, .int .i64 p2] 140) by rw[<-hw4];exact heap_alloc_new w3 _);obtain⟨v0,v1,vf⟩:=iF hv4;obtain⟨d0,d1,d2,d3,df⟩:=eH hx4;have vg:=fun o=>Option.some.inj (vf o)
   have q1:¬w3.heap.size=eb:=by omega
   have q2:¬g=eb:=HR.out.1.b.lo.2.2.1;have HW4:=hW_ hw4;have HX4:=hW_ (And.intro hx4 (And.intro hv4 (And.intro hr3 (And.intro hk3' hb4))));rw[<-hw4]at l0 l1 v0 v1 d0 d1 d2 d3;simp only[<-hw4]at vg;clear hr3 hk3 hk3' hx3 hv3 hb4 hs3 hx4 hv4 lf vf df e0 e1 c0 c1 c2 c3 hw4 hlt0 hng;go_wp2_with (fail);rw[HW4.out];obtain⟨w5,hw5⟩:∃w5,w4.setCell ⟨eb,0,none⟩ (.int .i64 (bs+((j:Int)+1)))=w5:=⟨_,rfl⟩;rw[hw5];obtain⟨hx4,hv4,hr3,hk3',hb4⟩:=HX4.out;have hx5:w5.heap[g]?=some (.cells #[.pointer (some ⟨eb,0,none⟩), .pointer (some ⟨rb,0,none⟩), .int .i64 keep, .int .i64 n] 138):=by rw[<-hw5];exact(cA q2).trans hx4
   have hv5:w5.heap[eb]?=some (.cells #[.int .i64 (bs+((j:Int)+1)), .int .i64 (tI (L.take j) st)] 163):=by rw[<-hw5];exact rA (i:=0) hv4
   have hl5:w5.heap[w3.heap.size]?=some (.cells #[.int .i64 p1, .int .i64 p2] 140):=by rw[<-hw5,<-HW4.out];exact(cA q1).trans (heap_alloc_new w3 _)
   have hr5:RgQ w5 base rb (bs+(j:Int)+1) (L.drop (j+1)) Q:=(hr3.below hb4).stay (fun q hq=>by rw[<-hw5];exact cA (fun e=>HR.out.1.ng.2 (e▸hq)));have hk5:dA (fun q=>Q q\/q=g\/q=eb) w w5:=by
    rw[<-hw5];exact((HR.out.2.trans (hk3'.mono (fun q _ h=>Or.inl h))).trans (dA.of_below hb4)).set (Or.inr (Or.inr rfl)) _
   have HX5:=hW_ (And.intro hx5 (And.intro hv5 (And.intro hr5 hk5)));clear l0 l1 v0 v1 d0 d1 d2 d3 vg;obtain⟨l0,l1,lf⟩:=iF hl5;obtain⟨v0,v1,vf⟩:=iF hv5;obtain⟨d0,d1,d2,d3,df⟩:=eH hx5;have vg:=fun o=>Option.some.inj (vf o)
   clear hx4 hv4 hr3 hk3' hb4 hx5 hv5 hl5 hr5 hk5 lf vf df hw5;go_region;obtain⟨w6,hw6⟩:∃w6,(w5.setCell ⟨eb,1,none⟩ (.int .i64 p2)).drew=w6:=⟨_,rfl⟩;have hfin:rD w6 base g eb rb (L.drop (j+1)) (bs+((j+1:Nat):Int)) (tI (L.take (j+1)) st) keep n Q/\dA (fun q=>Q q\/q=g\/q=eb) w w6:=by
    obtain⟨hx5,hv5,hr5,hk5⟩:=HX5.out;obtain⟨hd,hdl,hl,hbd,hn,hk,hb⟩:=HD.out;have e9:bs+(j:Int)+1=bs+((j+1:Nat):Int):=by omega
    rw[e9]at hr5;have hr6:RgQ w6 base rb (bs+((j+1:Nat):Int)) (L.drop (j+1)) Q:=hr5.stay (fun q hq=>by rw[<-hw6];exact cA (fun e=>HR.out.1.ng.2 (e▸hq)));refine⟨⟨⟨by rw[<-hw6];exact(cA q2).trans hx5,?_,hr6.v,HR.out.1.b.lo,by omega⟩,hr6,HR.out.1.ng⟩,by rw[<-hw6];exact(hk5.set (Or.inr (Or.inr rfl)) _).drew⟩;rw[HTK.out,<-hw6];have:=rA (i:=1) (v:= .int .i64 p2) hv5;rw[show bs+((j+1:Nat):Int)=bs+((j:Int)+1) by omega];exact this
   have HF:=hW_ hfin;have hz1:=evN_eq HR.out.1.b;have hz2:=evN_eq hfin.1.b;have HZ:=hW_ (And.intro hz1 hz2);clear hfin hz1 hz2;rw[hw6];clear hw6;go_wp2_with (fail);go_roundw
   case rel=>exact⟨j+1,by omega,HF⟩
   case measure=>rw[HZ.out.1,HZ.out.2];omega
  ·obtain rfl:j=d:=by omega
   have g3:decide (bs+(j:Int)<n-keep)=false:=by simp;omega
   have g3':¬bs+(j:Int)<n-keep:=by omega
   clear hd hdl hl hbd hn hk hb ef cf;go_wp2_with (fail);go_quiet (fail);go_wp2_with (fail);go_ret;exact⟨rfl,HR.out.1.below (bA (Below.refl _ _) _),HR.out.2.drewN _⟩
theorem lR {w:World} {ops:Array Oper} {o:Oper} {a:Act} {K:Act->World->Prop} {Q:Exit->Act->World->Prop} {E:Prop} (hgd:o.guard=none) (s x:Operand)
  (ho:o.op= .call {callee:= .builtin .append,args:=#[s,x],argTypes:=#[34,34]})
  {base b m c k:Nat} {v:Value} {A R:List Int} (hs:a.eval s=v) (hown:Own w base v A) (hk:A.length=k) (hx:a.eval x= .slice (some ⟨b,0,none⟩) m c)
  (hl:SlI w (some ⟨b,0,none⟩) m c R) (hm0:0<m) (hm:k+m<1048576) (hbase:base<=w.heap.size)
  (hK:∀g cap' w',Own w' base (.slice (some ⟨g,0,none⟩) (k+m) cap') (A++R)->w.grownBy w' v.ownBlock->(v.ownBlock=some g\/g=w.heap.size)->K (a.put o.dst (.slice (some ⟨g,0,none⟩) (k+m) cap')) w'):
  if Region.wanted o (yielded ops a.tmps)=true then Oper.wp Tryz.prog o a w K Q else E:=by
 obtain⟨i0,hi0,hz0,hz1,hz2⟩:=info_parts tC;subst hk;have hRl:=hl.len;refine step_append_lies (P:=Tryz.prog) (w:=w) hgd s x 34 ho base 3 i0 _ 1 8 Tryz.underlying34 hi0 hz0 hz1 hz2 rfl (by omega) _ A.length _ hs hown ⟨b,0,none⟩ m c (R.map (.int .i64)) hx (by rw[List.length_map];omega)
  (fun j u hu=> ?_) (Q1 R) hm0 (by unfold maxLen;omega) (by omega) hbase w.heap.size rfl ?_
 ·obtain⟨b',o',e,hc⟩:=Sl.at_ hl j u hu;simp only[Option.some.injEq,Addr.mk.injEq,and_true]at e;obtain⟨rfl,rfl⟩:=e;rw[Addr.add_lit];exact hc
 ·intro g cap' w' ho' hgr hat hlt;refine hK g cap' w' ?_ hgr hat
  unfold Own;rw[List.length_append,List.map_append,hRl];exact ho'
theorem qR {ao:Option Addr} {n cap k m:Nat} {K M:Int} (hK:K=(k:Int)) (hM:M=(m:Int)) (hk:k<=m) (hm:m<=n) (hn:n<=cap) {i0:TypeInfo} (hi:Tryz.prog.info? 3=some i0) (h1:i0.size=1):
  ∃so,(∀W,(Instr.sliceAt 34 (.slice ao n cap) (some (.int .i64 K)) (some (.int .i64 M)) none).run Tryz.prog W= .ok (.slice so (m-k) (cap-k)) W)/\
   (∀W A,SlI W ao n cap A->SlI W so (m-k) (cap-k) ((A.drop k).take (m-k))):=by
 subst hK hM;refine⟨if cap=k then ao else ao.map (·.add k),fun W=> ?_,fun W A h=> ?_⟩
 ·have:=tA Tryz.underlying34 hi W ao n cap (some (.int .i64 k)) (some (.int .i64 m)) k m (fun w=>by simp[Instr.sliceBounds,run_sliceBound,Nat.le_trans hm hn,hk]);rw[h1,Nat.mul_one]at this;exact this
 ·rw[<-List.drop_take];exact(h.take hm).drop hk
def PtR (w:World) (pb g:Nat) (o:Option Addr) (R:List Int) (a t:Int) (e:Bool):Prop:=
 ∃c,w.heap[pb]?=some (.cells #[.pointer (some ⟨g,0,none⟩), .slice o R.length c, .int .i64 a, .int .i64 t, .bool e] 147)/\SlI w o R.length c R
theorem PtR.stay {w w':World} {pb g:Nat} {o:Option Addr} {R:List Int} {a t:Int} {e:Bool} (h:PtR w pb g o R a t e) (h1:w'.heap[pb]?=w.heap[pb]?) (h2:∀ad,o=some ad->0<R.length->w'.heap[ad.block]?=w.heap[ad.block]?):PtR w' pb g o R a t e:=by
 obtain⟨c,hx,hs⟩:=h;exact⟨c,h1.trans hx,hs.keep0 h2⟩
theorem PtR.lt {w:World} {pb g:Nat} {o:Option Addr} {R:List Int} {a t:Int} {e:Bool} (h:PtR w pb g o R a t e):pb<w.heap.size:=by
 obtain⟨c,hx,hs⟩:=h;exact(Array.getElem?_eq_some_iff.1 hx).1
theorem PtR.olt {w:World} {pb g:Nat} {o:Option Addr} {R:List Int} {a t:Int} {e:Bool} (h:PtR w pb g o R a t e):∀ad,o=some ad->0<R.length->ad.block<w.heap.size:=fun ad e h0=>by
 obtain⟨c,hx,hs⟩:=h;obtain⟨b,o',hao,hc⟩:=hs.at_ h0;obtain rfl:ad=⟨b,o',none⟩:=Option.some.inj (e.symm.trans hao);exact World.block_lt_of_cell? w _ hc
def TkQ (w:World) (base pb g:Nat) (V:Vc) (N:List ByteArray) (kind:Int) (T:List Rg) (room cnt:Int) (P:Nat->Prop) (R:List Int) (a t:Int) (e:Bool) (E:Ending) (w':World):Prop:=
 ∃v o' P',E= .returned v/\Own w' w.heap.size v (T5 V N kind T R e)/\Cdr w' base g V N kind T room (cnt+xZ kind T R e) P'/\
  PtR w' pb g o' (R.drop (fP kind T R e)) (a+fP kind T R e) (t+(T5 V N kind T R e).length) e/\(∀q,P' q->P q\/w.heap.size<=q)/\
  (∀ad,o'=some ad->0<(R.drop (fP kind T R e)).length->w.heap.size<=ad.block/\¬P' ad.block)/\(∀q,v.ownBlock=some q->¬P' q)/\dA (fun q=>P q\/q=pb) w w'
structure TkL (V:Vc) (N:List ByteArray) (ps:List (Int×Bool)) (w1 wr:World) (base g:Nat) (kind:Int) (T:List Rg) (room cnt:Int) (P:Nat->Prop) (R X:List Int) (D:Int) (M k:Nat) (O:List Int) (n:Nat) (P':Nat->Prop) (d:Int) (o:Value):Prop where
 own:Own wr w1.heap.size o O
 cdr:Cdr wr base g V N kind T room (cnt+d) P'
 sub:∀q,P' q->P q\/w1.heap.size<=q
 fresh:∀q,o.ownBlock=some q->¬P' q
 kp:dA (fun q=>P q\/w1.heap.size<=q) w1 wr
 nle:n<=R.length
 ok:jD (ps.drop k) (R.drop n)
 tot:O++yA V N (zB (ps.drop k)) (R.drop n)=X
 by_:d+byN (zB (ps.drop k)) (R.drop n)=D
 sum:n+kC (zB (ps.drop k))=M
 le:O.length<=n/\d<=n/\0<=d
theorem zG (w:World) (g i j k:Nat) (x y z:Value) {q:Nat} (h:q≠g):(((w.setCell ⟨g,i,none⟩ x).setCell ⟨g,j,none⟩ y).setCell ⟨g,k,none⟩ z).heap[q]?=w.heap[q]? :=by
 rw[cA h,cA h,cA h]
theorem pt_set {w:World} {g:Nat} {x0 x1 x2 x3 x4 y1 y2 y3:Value} {t:TypeId} (h:w.heap[g]?=some (.cells #[x0,x1,x2,x3,x4] t)):
  (((w.setCell ⟨g,1,none⟩ y1).setCell ⟨g,2,none⟩ y2).setCell ⟨g,3,none⟩ y3).heap[g]?=some (.cells #[x0,y1,y2,y3,x4] t):=
 rA (i:=3) (v:=y3) (rA (i:=2) (v:=y2) (rA (i:=1) (v:=y1) h))
def ZT (P:Nat->Prop) (o:Value) (q:Nat):Prop:=P q\/o.ownBlock=some q
structure TkE (V:Vc) (N:List ByteArray) (w1 wr:World) (base g:Nat) (kind:Int) (T:List Rg) (room cnt:Int) (P:Nat->Prop) (X:List Int) (D:Int) (P':Nat->Prop) (o:Value):Prop where
 own:Own wr w1.heap.size o X
 cdr:Cdr wr base g V N kind T room (cnt+D) P'
 sub:∀q,P' q->P q\/w1.heap.size<=q
 fresh:∀q,o.ownBlock=some q->¬P' q
 kp:dA (fun q=>P q\/w1.heap.size<=q) w1 wr
theorem cZ {V:Vc} {N:List ByteArray}:∀{ps:List (Int×Bool)} {A:List Int},jD ps A->mA V N A=0->(yA V N (zB ps) A).length<=A.length
 | [],A,_,_=>Nat.zero_le _
 | p::ps,A,h,hc=>by
  cases hp:p.2 with
  | false=>rw[aO hp];exact Nat.zero_le _
  | true=>
   rw[I2 hp];simp only[yA,List.length_append];have h1:=cZ h.2.2.2 (nA hc p.1.toNat).2;have h2:=(fJ (nA hc p.1.toNat).1 h.2.2.1).2;rw[List.length_drop]at h1;rw[List.length_take]at h2;have:=h.2.1;omega
theorem tX {P:Nat->Prop} {V:Vc} {N:List ByteArray} {kind:Int} {T:List Rg} {base pb g:Nat} {room:Int} {cnt a t:Int} {R:List Int} {o:Option Addr} {e:Bool} (w:World) (h:Cdr w base g V N kind T room cnt P) (hM:May V) (hN:N.length<=16) (hT:oA T) (hk0:0<=kind) (hk3:kind<=3) (hr:room<=1048576)
  (hp:PtR w pb g o R a t e) (hpb:¬P pb) (hO:∀ad,o=some ad->0<R.length->¬P ad.block/\ad.block≠pb) (hn:R.length<=100000) (hcnt:cnt+R.length<1000000) (hc:mA V N R=0) (ha:0<=a/\a<=1000000) (ht:0<=t/\t<=1000000):
  Calls Tryz.prog 83 #[.pointer (some ⟨pb,0,none⟩)] w (TkQ w base pb g V N kind T room cnt P R a t e):=by
 have hplt:=hp.lt;have holt:=hp.olt;obtain⟨c,hx,hA⟩:=hp;obtain⟨ps,hps⟩:∃ps,zA kind T R e=ps:=⟨_,rfl⟩;have hok:jD ps R:=hps▸pG hT hc;obtain⟨cb,hcod⟩:=h.cod;have hSp:∀W,Ge w W->Calls Tryz.prog 103 #[.pointer (some ⟨g,0,none⟩), .slice o R.length c, .bool e] W fun E w'=>(∃v,E= .returned v/\iA tG 2 92 w' w.heap.size v ps)/\Below w.heap.size w w':=fun W hW=>by
  have h9:=M9 e W (hcod.below hW) (hA.below hW) (by omega) hT hk0 hk3;rw[hps]at h9;refine h9.mono ?_
  rintro E w' ⟨⟨v,rfl,h1⟩,h2⟩;exact⟨⟨v,rfl,iA.mono h1 hW.size⟩,hW.below h2⟩
 unfold TkQ T5 xZ fP;rw[hps];obtain⟨X,hX⟩:∃X,yA V N (zB ps) R=X:=⟨_,rfl⟩;obtain⟨D,hD⟩:∃D,byN (zB ps) R=D:=⟨_,rfl⟩;obtain⟨M,hMM⟩:∃M,kC (zB ps)=M:=⟨_,rfl⟩;have hMl:=hok.decd_le;rw[hMM]at hMl;rw[hX,hD,hMM];have hps1:ps.length<=100000:=by have:=hok.len;omega
 have HSP:=hW_ hSp;have HV:=hW_ h;have HA:=hW_ hA;have hA0:=hW_ (Sl.le hA);have HMY:=hW_ hM;have HI:=hW_ (And.intro hok (And.intro hc (And.intro hX (And.intro hD hMM))));have HCN:=hW_ hcnt;have HO:=hW_ (fun ad e1 h0=>And.intro (holt ad e1 h0) (hO ad e1 h0));have HX:=hW_ hx;have HPB:=hW_ (And.intro hplt hpb);obtain⟨c0,c1,c2,c3,c4,cf⟩:=aF hx;clear h hA hO hc hps hSp hM hok hX hD hMM hcod hcnt hx holt hplt hpb;obtain⟨i0,hi0,hz0,hz1,hz2⟩:=info_parts tC;go_enter Tryz.func83,Tryz.ntmps83;go_wp2_with (fail);have G0:=fun w' (hg:Ge w w')=>hg.at w w' c0
 have G1:=fun w' (hg:Ge w w')=>hg.at w w' c1
 have G4:=fun w' (hg:Ge w w')=>hg.at w w' c4
 have gr:=Ge.refl w;clear c0 c1 c2 c3 c4 cf
 go_region_held3 (Ge w) (first | (with_reducible assumption) | (with_reducible refine Ge.drew ?_;with_reducible assumption) | (with_reducible refine Ge.drewN ?_ _;with_reducible assumption)) ((go_at_call 103;refine(HSP.out _ (by exact bA (Below.refl _ _) _)).mono ?_;rintro E w1 ⟨⟨pv,rfl,ho⟩,hb1⟩;obtain⟨pa,pc',rfl,hps⟩:=ho.sl;have HO1:=hW_ ho;have HB1:=hW_ hb1;have HPS:=hW_ hps;have hg1:Ge w w1:=hb1;clear ho hps hb1))
 have HPL:Hid (0<ps.length->∀ad,pa=some ad->ad.block<w1.heap.size/\w.heap.size<=ad.block):=hW_ (fun hl ad e=>by
  obtain⟨pb,pc,hpv,hpb,hpl⟩:=iA.at0 HO1.out hl;obtain⟨rfl,-,rfl⟩:=Value.slice.inj hpv;obtain rfl:(⟨pb,0,none⟩:Addr)=ad:=Option.some.inj e;exact⟨hpl,hpb⟩)
 clear HO1 G0 G1 G4 gr;have HPW:=hW_ (fun q (hq:P q)=>(HV.out.lt q hq).2);have HX1:=hW_ ((HB1.out.block pb HPB.out.1).trans HX.out)
 go_upto_block 0 with(fail)
 go_cut [3,4] from 5 to 49 (fun s3 s4 wx=>∃P',s4= .int .i64 (M:Int)/\Hid (TkE V N w1 wx base g kind T room cnt P X D P' s3))
 case first=>
  go_wp2_with (fail);go_loopw [3,4,21] (fun o nv i wr=>∃(k n:Nat) (O:List Int) (P':Nat->Prop) (d:Int),k<=ps.length/\i= .int .i64 k/\nv= .int .i64 n/\Hid (TkL V N ps w1 wr base g kind T room cnt P R X D M k O n P' d o)) (fun _ _ i _=>ps.length-(intOf i).toNat)
  case atStart=>exact⟨0,0,[],P,0,Nat.zero_le _,rfl,rfl,hW_ ⟨Own.nil _ _,by rw[Int.add_zero];exact HV.out.below HB1.out,fun q hq=> .inl hq,fun q hq=>(by cases hq),dA.refl _ _,Nat.zero_le _,HI.out.1,by rw[List.nil_append];exact HI.out.2.2.1,by rw[Int.zero_add];exact HI.out.2.2.2.1,by rw[Nat.zero_add];exact HI.out.2.2.2.2,by simp⟩⟩
  case round=>
   obtain⟨k,n,O,P',d,hk,rfl,rfl,HL⟩:=hrel;obtain⟨ov,hov⟩:∃ov,ov=u3:=⟨_,rfl⟩;subst hov
   by_cases hlt:k<ps.length
   ·obtain⟨⟨pn,pd⟩,hp⟩:∃x,ps[k]=x:=⟨_,rfl⟩;have hdr:ps.drop k=(pn,pd)::ps.drop (k+1):=by rw[List.drop_eq_getElem_cons hlt,hp]
    have hok:=HL.out.ok;rw[hdr]at hok;obtain⟨h1,h2,h3,h4⟩:=hok;simp only at h1 h2 h3 h4;obtain⟨j,rfl⟩:∃j:Nat,pn=j:=⟨pn.toNat,by omega⟩;rw[Int.toNat_natCast]at h3 h4;rw[List.drop_drop]at h4;rw[List.length_drop]at h2;have htot:=HL.out.tot;have hby:=HL.out.by_;have hsum:=HL.out.sum;have hPq:∀q,w.heap.size<=q->q<w1.heap.size->¬(P q\/w1.heap.size<=q):=fun q h1 h2 h3=>by
     rcases h3 with h3 | h3
     ·have:=HPW.out q h3;omega
     ·omega
    have hpw:SlF 2 wr pa ps.length pc' (flat tG ps):=HPS.out.keep0 (fun ad e hl=>by
     obtain⟨a1,a2⟩:=HPL.out hl ad e;exact HL.out.kp.block _ a1 (hPq _ a2 a1))
    obtain⟨b,of,rfl,hce⟩:=hpw.elem U0 (by omega) (k:=k) (x:=((j:Int),pd)) (by rw[<-hp];exact List.getElem?_eq_getElem hlt);have d0:=hce 0 _ rfl;have d1:=hce 1 _ rfl;rw[Nat.add_zero]at d0;simp only at d0 d1;have gk:(k:Int)<(ps.length:Int):=by omega
    have hb2:=aA wr (.cells #[.int .i64 j, .bool pd] 92);obtain⟨W2,hW2⟩:∃W2,wr.alloc (.cells #[.int .i64 j, .bool pd] 92)=W2:=⟨_,rfl⟩;have hx2:W2.heap[wr.heap.size]?=some (.cells #[.int .i64 j, .bool pd] 92):=by rw[<-hW2];exact heap_alloc_new wr _
    have hS2:wr.heap.size<W2.heap.size:=by rw[<-hW2];simp
    rw[hW2]at hb2
    cases pd with
    | false=>
     rw[hdr,aO rfl]at htot hby hsum;simp only[yA,byN,kR,List.append_nil,Nat.add_zero,Int.add_zero]at htot hby hsum;have HE:Hid (O=X/\d=D):=hW_ ⟨htot,hby⟩;subst hsum;obtain⟨k0,k1⟩:=zH hx2;rw[<-hW2]at k0 k1;have HW2:=hW_ hW2;have HB2:=hW_ hb2;clear hce hpw hb2 hW2 hx2 hS2 h1 h2 h3 h4 htot hby hPq hp hdr;go_wp2_with (fail);go_meet;rw[HW2.out];exact⟨P',rfl,hW_ ⟨by rw[<-HE.out.1];exact HL.out.own.below HB2.out,by rw[<-HE.out.2];exact HL.out.cdr.below HB2.out,HL.out.sub,HL.out.fresh,HL.out.kp.trans (dA.of_below HB2.out)⟩⟩
    | true=>
     rw[hdr,I2 rfl]at htot hby hsum;simp only[yA,byN,xI,Int.toNat_natCast,List.drop_drop]at htot hby hsum;have hPn:¬(P pb\/w1.heap.size<=pb):=fun hq=>by
      rcases hq with hq | hq
      ·exact HPB.out.2 hq
      ·have:=HB1.out.size;have:=HPB.out.1;omega
     have hxr:=(hb2.block pb (by have:=HL.out.kp.size;have:=HB1.out.size;have:=HPB.out.1;omega)).trans ((HL.out.kp.block pb (by have:=HB1.out.size;have:=HPB.out.1;omega) hPn).trans HX1.out);have hAw:SlI wr o R.length c R:=(SlI.below HA.out HB1.out).keep0 (fun ad e hl=>by
      obtain⟨a1,a2,a3⟩:=HO.out ad e hl;refine HL.out.kp.block _ (Nat.lt_of_lt_of_le a1 HB1.out.size) (fun hq=> ?_);rcases hq with hq | hq
      ·exact a2 hq
      ·have:=HB1.out.size;omega)
     have hAW2:SlI W2 o R.length c R:=SlI.below hAw hb2;obtain⟨so,hrs,hso⟩:=qR (ao:=o) (n:=R.length) (cap:=c) (k:=n) (m:=n+j) (K:=n) (M:=(n:Int)+j) rfl (by omega) (by omega) (by omega) hA0.out hi0 hz1;have hsum1:IntKind.i64.wrap ((n:Int)+(j:Int))=(n:Int)+j:=by rw[IntKind.wrap_i64];omega
     have hBW2:=hso W2 R hAW2;rw[Nat.add_sub_cancel_left]at hBW2;rw[Nat.add_sub_cancel_left]at hrs;have hcw:=HL.out.cdr;have hckR:=(nA HI.out.2.1 n).2;have hckB:mA V N ((R.drop n).take j)=0:=(nA hckR j).1;have hpl:=fJ hckB h3;rw[List.length_take,List.length_drop]at hpl;have hcn:=HCN.out;have hle:=HL.out.le;have hPC:=eJ W2 (hcw.below hb2) HMY.out hN hr hBW2 (by omega) h3 hckB (by omega);obtain⟨pr,hpr⟩:∃pr,eC V N ((R.drop n).take j)=pr:=⟨_,rfl⟩;obtain⟨dd,hdd⟩:∃dd,N5 ((R.drop n).take j)=dd:=⟨_,rfl⟩;rw[hpr]at htot hPC hpl;rw[hdd]at hby hPC;have hd01:=nW ((R.drop n).take j);rw[hdd]at hd01;have hlt7:∀q,ov.ownBlock=some q->w1.heap.size<=q/\q<wr.heap.size:=fun q hq=>World.ownsRow.lt HL.out.own q hq
     obtain⟨k0,k1⟩:=zH hx2;obtain⟨c0,c1,c2,c3,c4,cf⟩:=aF hxr;have hpz:¬ZT P' ov pb:=fun hq=>by
      rcases hq with hq | hq
      ·rcases HL.out.sub pb hq with h5 | h5
       ·exact hPn (.inl h5)
       ·exact hPn (.inr h5)
      ·have:=(hlt7 pb hq).1;have:=HB1.out.size;have:=HPB.out.1;omega
     have htz:¬ZT P' ov wr.heap.size:=fun hq=>by
      rcases hq with hq | hq
      ·have:=(hcw.lt _ hq).2;omega
      ·have:=(hlt7 _ hq).2;omega
     have k0':=k0;have k1':=k1;rw[<-hW2]at k0' k1';obtain⟨oa,oc,hov,-⟩:=HL.out.own.sl;subst hov;have HO2:Hid (∀w',dA P' W2 w'->Own w' w1.heap.size (.slice oa O.length oc) O):=hW_ (fun w' hk=>jA (HL.out.own.below hb2) (fun q hq=>hk.block q (Nat.lt_trans (hlt7 q hq).2 hS2) (HL.out.fresh q hq)));have HPC:Hid (∀W,Ge W2 W->Calls Tryz.prog 116 #[.pointer (some ⟨g,0,none⟩), .slice so j (c-n)] W (fun e w3=>∃rb rc P3,e= .returned (.slice (some ⟨rb,0,none⟩) pr.length rc)/\SlI w3 (some ⟨rb,0,none⟩) pr.length rc pr/\Cdr w3 base g V N kind T room (cnt+d+dd) P3/\(∀q,P3 q->P' q\/W2.heap.size<=q)/\dA P' W2 w3)):=hW_ (fun W hW=>by
      have hPC:=eJ W ((hcw.below hb2).below hW) HMY.out hN hr (SlI.below hBW2 hW) (by omega) h3 hckB (by omega);rw[hpr,hdd]at hPC;refine hPC.mono ?_
      rintro e w3 ⟨v3,P3,rfl,ho3,hV3,hs3,hk3'⟩;obtain⟨rb,rc,hv3⟩:=xF ho3 hpl.1;subst hv3;obtain⟨ra,rc',e3,hsl3⟩:=ho3.sl;obtain⟨rfl,-,rfl⟩:=Value.slice.inj e3;exact⟨rb,rc,P3,rfl,hsl3,hV3,fun q hq=>(hs3 q hq).imp id (fun h=>Nat.le_trans hW.size h),(dA.of_below hW).trans hk3'⟩)
     have HF:=hW_ (And.intro h4 (And.intro htot (And.intro hby (And.intro hsum (And.intro hpl hd01)))));have HW2:=hW_ hW2;have HB2:=hW_ hb2;have HNJ:Hid (n+j<=R.length/\1<=j):=hW_ ⟨by omega,by omega⟩;have hPL:0<pr.length/\O.length+pr.length<1048576:=⟨hpl.1,by omega⟩;have HBS:Hid (w1.heap.size<=W2.heap.size):=hW_ (by have:=HL.out.kp.size;omega);have H7:=hW_ hlt7;have HS2:=hW_ hS2;have G0:=fun w' (hg:dA (ZT P' (.slice oa O.length oc)) W2 w')=>hg.cell c0 hpz
     have G1:=fun w' (hg:dA (ZT P' (.slice oa O.length oc)) W2 w')=>hg.cell c1 hpz
     have GK:=fun w' (hg:dA (ZT P' (.slice oa O.length oc)) W2 w')=>hg.cell k0 htz
     have gr:=dA.refl (ZT P' (.slice oa O.length oc)) W2;clear hce hpw hAw hb2 hW2 hx2 hS2 hcw hckB hckR hpl h1 h2 h3 h4 htot hby hsum hPq hp hdr hpr hdd hd01 hPn hxr hAW2 hso hBW2 hPC hlt7 k0 k1 c0 c1 c2 c3 c4 cf hpz htz hcn hle;go_wp2_with (fail);rw[HW2.out]
     go_region_held3 (dA (ZT P' (.slice oa O.length oc)) W2) (first | (with_reducible assumption) | (with_reducible refine dA.drew ?_;with_reducible assumption) | (with_reducible refine dA.drewN ?_ _;with_reducible assumption)) (first
      | (go_at_call 116;refine(HPC.out _ (by exact bA (Below.refl _ _) _)).mono ?_;rintro e w3 ⟨rb,rc,P3,rfl,hsl3,hV3,hP3,hk3⟩;have hz3:dA (ZT P' (.slice oa O.length oc)) W2 w3:=hk3.mono (fun q _ h=>Or.inl h);have HO3:=hW_ (HO2.out _ hk3);have HSL3:=hW_ hsl3;have HV3:=hW_ hV3;have HP3:=hW_ hP3;have HK3:=hW_ hk3;have HBS3:Hid (w1.heap.size<=w3.heap.size):=hW_ (Nat.le_trans HBS.out hk3.size);clear hsl3 hV3 hP3 hk3)
      | (refine lR (by rfl) _ _ (by rfl) (base:=w1.heap.size) (v:= .slice oa O.length oc) (k:=O.length) (m:=pr.length) (by rfl) (by exact HO3.out) rfl (by rfl) (by exact HSL3.out) hPL.1 hPL.2 (by exact HBS3.out) ?_;intro gg cap w4 ho4 hg4 hat4;have hz4:dA (ZT P' (.slice oa O.length oc)) W2 w4:=dA.grown hz3 (by exact hg4) (fun q e _=>Or.inr e);have HO4:=hW_ ho4;have HG4:Hid (w3.grownBy w4 (Value.slice oa O.length oc).ownBlock):=hW_ (by exact hg4);have HAT4:Hid ((Value.slice oa O.length oc).ownBlock=some gg\/gg=w3.heap.size):=hW_ (by exact hat4);clear ho4 hg4 hat4))
     have k9:w4.cell? ⟨wr.heap.size,0,none⟩=some (.int .i64 j):=GK w4 hz4;have hnP:∀q,(Value.slice oa O.length oc).ownBlock=some q->¬P3 q:=fun q hq h3=>by
      rcases HP3.out q h3 with h3 | h3
      ·exact HL.out.fresh q hq h3
      ·have:=(H7.out q hq).2;have:=HS2.out;omega
     have HEN:Hid (TkL V N ps w1 w4 base g kind T room cnt P R X D M (k+1) (O++pr) (n+j) P3 (d+dd) (.slice (some ⟨gg,0,none⟩) (O.length+pr.length) cap)):=hW_ (by
      obtain⟨f1,f2,f3,f4,f5,f6⟩:=HF.out;have hnj:=HNJ.out;refine⟨HO4.out,?_,fun q hq=> ?_,fun q hq h3=> ?_,?_,hnj.1,f1,by rw[List.append_assoc];exact f2,by rw[Int.add_assoc];exact f3,by omega,?_⟩
      ·have h:=HV3.out;rw[Int.add_assoc]at h;exact h.stay (fun q hq=>HG4.out.block q (h.lt q hq).2 (fun e=>hnP q e.symm hq)) HG4.out.size
      ·rcases HP3.out q hq with h3 | h3
       ·exact HL.out.sub q h3
       ·exact .inr (by have:=HL.out.kp.size;have:=HS2.out;omega)
      ·obtain rfl:gg=q:=by simpa[Value.ownBlock]using hq
       rcases HAT4.out with h5 | h5
       ·exact hnP gg h5 h3
       ·have:=(HV3.out.lt gg h3).2;omega
      ·refine dA.grown ((HL.out.kp.trans (dA.of_below HB2.out)).trans (HK3.out.mono (fun q _ hq=>HL.out.sub q hq))) HG4.out (fun q e hq=> .inr (H7.out q e).1)
      ·have:=HL.out.le;rw[List.length_append];omega)
     clear hnP gr hz3 hz4 G0 G1 GK hrs hsum1;have hnj2:=HNJ.out;have hsum1:IntKind.i64.wrap ((n:Int)+(j:Int))=((n+j:Nat):Int):=by rw[IntKind.wrap_i64];omega
     clear hnj2;go_wp2_with (fail);go_roundw
     case rel=>exact⟨k+1,n+j,_,P3,d+dd,by omega,by go_num,by go_num,HEN⟩
     case measure=>simp[intOf];omega
   ·obtain rfl:k=ps.length:=by omega
    have HE:Hid (O=X/\d=D/\n=M):=hW_ (by
     have h1:=HL.out.tot;have h2:=HL.out.by_;have h3:=HL.out.sum;rw[List.drop_length]at h1 h2 h3;simp only[zB,List.takeWhile_nil,yA,byN,kR,List.append_nil]at h1 h2 h3;exact⟨h1,by omega,by omega⟩)
    go_wp2_with (fail);go_meet;exact⟨P',by rw[HE.out.2.2],hW_ ⟨by rw[<-HE.out.1];exact HL.out.own,by rw[<-HE.out.2.1];exact HL.out.cdr,HL.out.sub,HL.out.fresh,HL.out.kp⟩⟩
 case rest=>
  obtain⟨P1,rfl,HT1⟩:=hcut;obtain⟨ov,hov⟩:∃ov,ov=u3:=⟨_,rfl⟩;subst hov;obtain⟨w5,hw5⟩:∃w5,w5=wc:=⟨_,rfl⟩;subst hw5;have hPn:¬(P pb\/w1.heap.size<=pb):=fun hq=>by
   rcases hq with hq | hq
   ·exact HPB.out.2 hq
   ·have:=HB1.out.size;have:=HPB.out.1;omega
  have hx5:=(HT1.out.kp.block pb (by have:=HB1.out.size;have:=HPB.out.1;omega) hPn).trans HX1.out;have hA5:SlI w5 o R.length c R:=(SlI.below HA.out HB1.out).keep0 (fun ad e hl=>by
   obtain⟨a1,a2,a3⟩:=HO.out ad e hl;refine HT1.out.kp.block _ (Nat.lt_of_lt_of_le a1 HB1.out.size) (fun hq=> ?_);rcases hq with hq | hq
   ·exact a2 hq
   ·have:=HB1.out.size;omega)
  obtain⟨oa,oc,hov,-⟩:=HT1.out.own.sl;subst hov;have hlX:X.length<=R.length:=by rw[<-HI.out.2.2.1];exact cZ HI.out.1 HI.out.2.1
  have hMI:((R.length-M:Nat):Int)=(R.length:Int)-M:=by omega
  have e1:IntKind.i64.wrap (a+(M:Int))=a+(M:Int):=by rw[IntKind.wrap_i64];omega
  have e2:IntKind.i64.wrap (t+(X.length:Int))=t+(X.length:Int):=by rw[IntKind.wrap_i64];omega
  obtain⟨c0,c1,c2,c3,c4,cf⟩:=aF hx5;have HX5:=hW_ hx5;have HA5:=hW_ hA5;have HML:=hW_ hMl;have hcl:=hA0.out;have HP5:Hid (pb<w5.heap.size):=hW_ (Array.getElem?_eq_some_iff.1 hx5).1;clear hx5 hA5 hPn hMl;go_wp2_with (first
   | (with_reducible show wpList _ _ _ (⟨_, .slice _ _ (some _) none none,_,_,_,_⟩::_) _ _;refine oC rfl 34 _ _ rfl 3 i0 Tryz.underlying34 hi0 hz1 o R.length c rfl hcl .i64 (M:Int) M rfl rfl HML.out ?_;intro bo' hbo;have HBO:=hW_ hbo;clear hbo)
   | (go_at_call 54;refine(dO (A:=R.drop M) w5 (by have:=HBO.out w5 _ HA5.out;unfold SlI;rw[List.map_drop];exact this) (by omega)).mono ?_;rintro E w6 ⟨v6,rfl,ho6,hb6⟩;obtain⟨ra,rc,rfl,hs6⟩:=ho6.sl;obtain⟨c0,c1,c2,c3,c4,cf⟩:=aF ((hb6.block pb HP5.out).trans HX5.out);have HO6:=hW_ ho6;have HB6:=hW_ hb6;have HS6:=hW_ hs6;clear ho6 hb6 hs6))
  go_ret;have hw1:=HB1.out.size;have hw5:=HT1.out.kp.size;have hpw:=HPB.out.1;have hp1:¬P1 pb:=fun hq=>by
   rcases HT1.out.sub pb hq with h5 | h5
   ·exact HPB.out.2 h5
   ·omega
  have hra:∀ad,ra=some ad->0<(R.drop M).length->w5.heap.size<=ad.block:=fun ad e h0=>by
   obtain⟨b,c',hv⟩:=xF HO6.out h0;obtain⟨rfl,-,-⟩:=Value.slice.inj hv;obtain rfl:=Option.some.inj e;exact(World.ownsRow.lt HO6.out b rfl).1
  have K5:dA (fun q=>P q\/q=pb) w w5:=((dA.of_below HB1.out).trans HT1.out.kp).mono (fun q h1 h2=>by
   rcases h2 with h2 | h2
   ·exact .inl h2
   ·omega)
  have hx6:=(HB6.out.block pb HP5.out).trans HX5.out;refine⟨.slice oa X.length oc,ra,P1,rfl,?_,?_,?_,fun q hq=> ?_,fun ad e h0=> ?_,HT1.out.fresh,?_⟩
  ·refine Own.mono (jA HT1.out.own (fun q hq=> ?_)) hw1;obtain⟨a1,a2⟩:=World.ownsRow.lt HT1.out.own q hq;exact(zG w6 pb 1 2 3 _ _ _ (by omega)).trans (HB6.out.block q a2)
  ·exact HT1.out.cdr.stay (fun q hq=>(zG w6 pb 1 2 3 _ _ _ (fun e=>hp1 (e▸hq))).trans (HB6.out.block q (HT1.out.cdr.lt q hq).2)) (by simpa using HB6.out.size)
  ·refine⟨rc,?_,?_⟩
   ·rw[List.length_drop];exact pt_set hx6
   ·exact HS6.out.keep0 (fun ad e h0=>zG w6 pb 1 2 3 _ _ _ (fun e2=>by have:=hra ad e h0;omega))
  ·exact(HT1.out.sub q hq).imp id (fun h=>Nat.le_trans hw1 h)
  ·have h9:=hra ad e h0;exact⟨by omega,fun hq=>by have:=(HT1.out.cdr.lt _ hq).2;omega⟩
  ·exact(((K5.trans (dA.of_below HB6.out)).set (Or.inr rfl) _).set (Or.inr rfl) _).set (Or.inr rfl) _
theorem aAQ (g:Nat) (w:World):Calls Tryz.prog 58 #[.pointer (some ⟨g,0,none⟩)] w fun E w'=>E= .returned (.pointer (some ⟨w.heap.size,0,none⟩))/\w'=w.alloc (.cells #[.pointer (some ⟨g,0,none⟩), .slice none 0 0, .int .i64 0, .int .i64 0, .bool false] 147):=by
 go_enter Tryz.func58,Tryz.ntmps58;go_wp2_with (fail);go_ret;exact⟨rfl,rfl⟩
theorem O4 {w:World} {pb g:Nat} {o:Option Addr} {R:List Int} {a t:Int} {e:Bool} (h:PtR w pb g o R a t e):Calls Tryz.prog 60 #[.pointer (some ⟨pb,0,none⟩)] w fun E w'=>E= .returned (.int .i64 a)/\w'=w:=by
 obtain⟨c,hx,-⟩:=h;obtain⟨c0,c1,c2,c3,c4,cf⟩:=aF hx;clear hx;go_enter Tryz.func60,Tryz.ntmps60;go_wp2_with (fail);go_ret;exact⟨rfl,rfl⟩
theorem zR {w:World} {pb g:Nat} {o:Option Addr} {R:List Int} {a t:Int} {e:Bool} (h:PtR w pb g o R a t e):Calls Tryz.prog 85 #[.pointer (some ⟨pb,0,none⟩)] w fun E w'=>E= .returned (.int .i64 t)/\w'=w:=by
 obtain⟨c,hx,-⟩:=h;obtain⟨c0,c1,c2,c3,c4,cf⟩:=aF hx;clear hx;go_enter Tryz.func85,Tryz.ntmps85;go_wp2_with (fail);go_ret;exact⟨rfl,rfl⟩
def GrQ (w:World) (base pb g:Nat) (V:Vc) (N:List ByteArray) (kind:Int) (T:List Rg) (room cnt:Int) (P:Nat->Prop) (R:List Int) (a t:Int) (e:Bool) (v:Value) (w':World):Prop:=
 ∃o' P',Own w' w.heap.size v (T5 V N kind T R e)/\Cdr w' base g V N kind T room (cnt+xZ kind T R e) P'/\
  PtR w' pb g o' (R.drop (fP kind T R e)) (a+fP kind T R e) (t+(T5 V N kind T R e).length) e/\(∀q,P' q->P q\/w.heap.size<=q)/\
  (∀ad,o'=some ad->0<(R.drop (fP kind T R e)).length->w.heap.size<=ad.block/\¬P' ad.block)/\(∀q,v.ownBlock=some q->¬P' q)/\dA (fun q=>P q\/q=pb) w w'
theorem TkQ.from {w w3 w':World} {base pb g:Nat} {V:Vc} {N:List ByteArray} {kind:Int} {T:List Rg} {room cnt:Int} {P:Nat->Prop} {R:List Int} {a t:Int} {e:Bool} {E:Ending} (h:TkQ w3 base pb g V N kind T room cnt P R a t e E w') (hk:dA (fun q=>P q\/q=pb) w w3) (hp:∀q,P q->q<w.heap.size) (hb:pb<w.heap.size):
  ∃v,E= .returned v/\GrQ w base pb g V N kind T room cnt P R a t e v w':=by
 obtain⟨v,o',P',rfl,h1,h2,h3,h4,h5,h6,h7⟩:=h;have hs:=hk.size;exact⟨v,rfl,o',P',h1.mono hs,h2,h3,fun q hq=>(h4 q hq).imp id (fun h=>Nat.le_trans hs h),fun ad e h0=>⟨Nat.le_trans hs (h5 ad e h0).1,(h5 ad e h0).2⟩,h6,hk.trans h7⟩
theorem jY {P:Nat->Prop} {V:Vc} {N:List ByteArray} {kind:Int} {T:List Rg} {base pb g:Nat} {room:Int} {cnt a t:Int} {R B:List Int} {o bo:Option Addr} {m d:Nat} (w:World) (h:Cdr w base g V N kind T room cnt P) (hM:May V) (hN:N.length<=16) (hT:oA T) (hk0:0<=kind) (hk3:kind<=3) (hr:room<=1048576)
  (hp:PtR w pb g o R a t false) (hpb:¬P pb) (hB:SlI w bo m d B) (hn:R.length+B.length<=100000) (hcnt:cnt+(R.length+B.length:Nat)<1000000) (hc:mA V N R=0) (hc2:mA V N B=0) (ha:0<=a/\a<=1000000) (ht:0<=t/\t<=1000000):
  Calls Tryz.prog 42 #[.pointer (some ⟨pb,0,none⟩), .slice bo m d] w (fun E w'=>∃v,E= .returned (.tuple #[v, .int .i64 0])/\GrQ w base pb g V N kind T room cnt P (R++B) a t false v w'):=by
 have hplt:=hp.lt;obtain⟨c,hx,hA⟩:=hp;obtain⟨cb,hcod⟩:=h.cod;have hBl:=hB.len;subst hBl;have hCk:=xH w hcod hN hB (by omega);rw[hc2]at hCk;have HCK:=hW_ hCk;have hcc:mA V N (R++B)=0:=by rw[aBw hc];exact hc2
 have HV:=hW_ h;have HM:=hW_ hM;have HX:=hW_ hx;have HPB:=hW_ (And.intro hplt hpb);have HCC:=hW_ hcc;have HAB:=hW_ (aG.two hA hB 34 w.heap.size rfl);have HCN:=hW_ hcnt;obtain⟨c0,c1,c2,c3,c4,cf⟩:=aF hx;clear h hM hx hplt hpb hcc hA hB hcod hCk hc hc2 hcnt;go_enter Tryz.func42,Tryz.ntmps42;go_wp2_with (first
  | (go_at_call 39;refine HCK.out.mono ?_;rintro e w1 ⟨rfl,rfl⟩)
  | (go_at_call 79;refine(rS (R:=[R,B]) (L:=R.length+B.length) _ (by exact HAB.out) (by simp) (by omega)).mono ?_;rintro E w2 ⟨vo,vc,rfl,ho,hb⟩;have hb2:=(aA w _).trans (hb.mono (by simp));obtain⟨c0,c1,c2,c3,c4,cf⟩:=aF ((hb2.block pb HPB.out.1).trans HX.out);have HO:=hW_ ho;have HB:=hW_ hb2;clear ho hb hb2))
 have hb2:=HB.out;have ho2:=HO.out;have hx2:=(hb2.block pb HPB.out.1).trans HX.out;have hs2:=rA (i:=1) (v:= .slice vo (R.length+B.length) vc) hx2;have hp2:pb<w2.heap.size:=(Array.getElem?_eq_some_iff.1 hx2).1;have hvo:∀ad,vo=some ad->0<(R++B).length->w.heap.size<=ad.block:=fun ad e h0=>by
  have ho3:Own w2 (w.alloc (.cells #[.slice o R.length c, .slice bo B.length d] 34)).heap.size (.slice vo (R.length+B.length) vc) (R++B):=by simpa using ho2
  obtain⟨b,c',hv⟩:=xF ho3 h0;obtain⟨rfl,-,-⟩:=Value.slice.inj hv;obtain rfl:=Option.some.inj e;exact Nat.le_trans (by simp) (World.ownsRow.lt ho3 b rfl).1
 have hcd:Cdr (w2.setCell ⟨pb,1,none⟩ (.slice vo (R.length+B.length) vc)) base g V N kind T room cnt P:=(HV.out.below hb2).stay (fun q hq=>cA (fun e=>HPB.out.2 (e▸hq))) (by simp);have hpt:PtR (w2.setCell ⟨pb,1,none⟩ (.slice vo (R.length+B.length) vc)) pb g vo (R++B) a t false:=by
  obtain⟨ra,rc,e3,hsl⟩:=ho2.sl;obtain⟨rfl,e4,rfl⟩:=Value.slice.inj e3;refine⟨vc,by rw[List.length_append];exact hs2,?_⟩;have h9:SlI w2 vo (R++B).length vc (R++B):=by simpa using hsl
  exact h9.keep0 (fun ad e h0=>cA (fun e2=>by have:=hvo ad e h0;have:=HPB.out.1;omega))
 have hkk:dA (fun q=>P q\/q=pb) w (w2.setCell ⟨pb,1,none⟩ (.slice vo (R.length+B.length) vc)):=(dA.of_below hb2).set (Or.inr rfl) _;have htk:=tX _ hcd HM.out hN hT hk0 hk3 hr hpt HPB.out.2 (fun ad e h0=>⟨fun hq=>by have:=hvo ad e h0;have:=(HV.out.lt _ hq).2;omega,fun e2=>by have:=hvo ad e h0;have:=HPB.out.1;omega⟩) (by rw[List.length_append];omega) (by rw[List.length_append];exact HCN.out) HCC.out ha ht;have HTK:=hW_ htk;have HKK:=hW_ hkk;clear hb2 ho2 hx2 hs2 hp2 hvo hcd hpt hkk htk c0 c1 c2 c3 c4 cf;go_at_call 83;refine HTK.out.mono ?_
 rintro E w4 hq;obtain⟨v,rfl,hgr⟩:=hq.from HKK.out (fun q hq=>(HV.out.lt q hq).2) HPB.out.1;have HGR:=hW_ hgr;clear hgr hq;go_wp2_with (fail);refine bodyPost_ret (v:= .tuple #[v, .int .i64 0]) ?_ rfl ⟨v,rfl,HGR.out⟩
 simp[results,Tryz.results42,go_sem]
structure F4 (w:World) (tb g pb wb:Nat) (st:Nat) (xo:Option Addr) (tn tc:Nat) (sv vv:Value) (depth most:Int) (f:Nat) (e:Bool):Prop where
 box:w.heap[tb]?=some (.cells #[.pointer (some ⟨g,0,none⟩), .pointer (some ⟨pb,0,none⟩), .pointer (some ⟨wb,0,none⟩), .int .i64 st, .slice xo tn tc,sv,vv, .int .i64 depth, .int .i64 most, .int .i64 f, .bool e] 85)
theorem B7 {w:World} {g:Nat} {x0 x1 x2 x3 x4 x5 x6 x7 x8 x9 xa:Value} {t:TypeId} (h:w.heap[g]?=some (.cells #[x0,x1,x2,x3,x4,x5,x6,x7,x8,x9,xa] t)):
  w.cell? ⟨g,0,none⟩=some x0/\w.cell? ⟨g,1,none⟩=some x1/\w.cell? ⟨g,2,none⟩=some x2/\w.cell? ⟨g,3,none⟩=some x3/\w.cell? ⟨g,4,none⟩=some x4/\w.cell? ⟨g,5,none⟩=some x5/\w.cell? ⟨g,6,none⟩=some x6/\w.cell? ⟨g,7,none⟩=some x7/\w.cell? ⟨g,8,none⟩=some x8/\w.cell? ⟨g,9,none⟩=some x9/\w.cell? ⟨g,10,none⟩=some xa/\∀o,w.frozen? ⟨g,o,none⟩=false:=by
 simp[World.cell?,World.frozen?,h]
structure gE (w:World) (base tb g pb wb:Nat) (V:Vc) (N:List ByteArray) (kind:Int) (T:List Rg) (room cnt:Int) (P Q:Nat->Prop) (col:Nat->Nat) (A W:List Int) (f a t bs st keep:Nat) (e:Bool) (S:List Stp) (Sv:List Int) (depth most:Int):Prop where
 cod:Cdr w base g V N kind T room cnt P
 pt:∃o,PtR w pb g o ((A.take f).drop a) a t e/\∀ad,o=some ad->0<((A.take f).drop a).length->col ad.block=4
 win:∃eb rb,rD w base wb eb rb (plc V N st (W.drop bs)) bs st keep t Q/\col eb=5
 box:∃xo tc sv vv,F4 w tb g pb wb st xo (A.length-st) tc sv vv depth most f e/\SlI w xo (A.length-st) tc (A.drop st)/\(∀ad,xo=some ad->0<A.length-st->col ad.block=6)/\
  iA Stp.enc 3 111 w base sv S/\(∀q,sv.ownBlock=some q->col q=7)/\Own w base vv Sv/\(∀q,vv.ownBlock=some q->col q=8)
 c1:∀q,P q->col q=1
 c2:col tb=2
 c3:col pb=3
 c5:col wb=5/\∀q,Q q->col q=5
 c0:∀q,w.heap.size<=q->col q=0
section
variable {w:World} {base tb g pb wb:Nat} {V:Vc} {N:List ByteArray} {kind:Int} {T:List Rg} {room cnt:Int} {P Q:Nat->Prop} {col:Nat->Nat} {A W:List Int} {f a t bs st keep:Nat} {e:Bool} {S:List Stp} {Sv:List Int} {depth most:Int}
theorem gE.blt (h:gE w base tb g pb wb V N kind T room cnt P Q col A W f a t bs st keep e S Sv depth most):tb<w.heap.size:=by
 obtain⟨xo,tc,sv,vv,hb,-⟩:=h.box;exact(Array.getElem?_eq_some_iff.1 hb.box).1
theorem gE.stay {w':World} (h:gE w base tb g pb wb V N kind T room cnt P Q col A W f a t bs st keep e S Sv depth most) (hk:∀q,col q≠0->w'.heap[q]?=w.heap[q]?) (hs:w.heap.size<=w'.heap.size):gE w' base tb g pb wb V N kind T room cnt P Q col A W f a t bs st keep e S Sv depth most:=by
 obtain⟨o,hp,hpo⟩:=h.pt;obtain⟨eb,rb,hw,hwc⟩:=h.win;obtain⟨xo,tc,sv,vv,hb,ht,hto,hS,hSo,hV,hVo⟩:=h.box;have kc:∀q k,col q=k+1->w'.heap[q]?=w.heap[q]? :=fun q k e=>hk q (by omega)
 exact⟨h.cod.stay (fun q hq=>kc q 0 (h.c1 q hq)) hs,⟨o,hp.stay (kc pb 2 h.c3) (fun ad e h0=>kc _ 3 (hpo ad e h0)),hpo⟩,⟨eb,rb,hw.stay (fun q hq=>kc q 4 (by rcases hq with h1 | rfl | rfl;exact h.c5.2 q h1;exact h.c5.1;exact hwc)),hwc⟩,
  ⟨xo,tc,sv,vv,⟨(kc tb 1 h.c2).trans hb.box⟩,ht.keep0 (fun ad e h0=>kc _ 5 (hto ad e h0)),hto,jA hS (fun q hq=>kc q 6 (hSo q hq)),hSo,jA hV (fun q hq=>kc q 7 (hVo q hq)),hVo⟩,
  h.c1,h.c2,h.c3,h.c5,fun q hq=>h.c0 q (Nat.le_trans hs hq)⟩
theorem gE.lt (h:gE w base tb g pb wb V N kind T room cnt P Q col A W f a t bs st keep e S Sv depth most):∀q,col q≠0->q<w.heap.size:=fun q hq=>by
 apply Classical.byContradiction;intro h2;exact hq (h.c0 q (by omega))
theorem gE.below {w':World} (h:gE w base tb g pb wb V N kind T room cnt P Q col A W f a t bs st keep e S Sv depth most) (hb:Below w.heap.size w w'):gE w' base tb g pb wb V N kind T room cnt P Q col A W f a t bs st keep e S Sv depth most:=
 h.stay (fun q hq=>hb.block q (h.lt q hq)) hb.size
theorem gE.keeps {Z:Nat->Prop} {w':World} (h:gE w base tb g pb wb V N kind T room cnt P Q col A W f a t bs st keep e S Sv depth most) (hk:dA Z w w') (hz:∀q,Z q->col q=0):gE w' base tb g pb wb V N kind T room cnt P Q col A W f a t bs st keep e S Sv depth most:=
 h.stay (fun q hq=>hk.block q (h.lt q hq) (fun hz'=>hq (hz q hz'))) hk.size
end
section
variable {w w':World} {base tb g pb wb:Nat} {V:Vc} {N:List ByteArray} {kind:Int} {T:List Rg} {room cnt:Int} {P Q:Nat->Prop} {col col':Nat->Nat} {A A' W:List Int} {f a t bs st keep:Nat} {e:Bool} {S S':List Stp} {Sv Sv':List Int} {depth most:Int}
theorem gE.renew (h:gE w base tb g pb wb V N kind T room cnt P Q col A W f a t bs st keep e S Sv depth most) (hs:w.heap.size<=w'.heap.size)
  (hcol:∀q,q<w.heap.size->col' q=col q) (h0:∀q,w'.heap.size<=q->col' q=0)
  (hk:∀q,q<w.heap.size->(col q=1\/col q=3\/col q=4\/col q=5)->w'.heap[q]?=w.heap[q]?)
  (hbox:∃xo tc sv vv,F4 w' tb g pb wb st xo (A'.length-st) tc sv vv depth most f e/\SlI w' xo (A'.length-st) tc (A'.drop st)/\(∀ad,xo=some ad->0<A'.length-st->col' ad.block=6)/\
   iA Stp.enc 3 111 w' base sv S'/\(∀q,sv.ownBlock=some q->col' q=7)/\Own w' base vv Sv'/\(∀q,vv.ownBlock=some q->col' q=8))
  (hpt:(A'.take f).drop a=(A.take f).drop a):gE w' base tb g pb wb V N kind T room cnt P Q col' A' W f a t bs st keep e S' Sv' depth most:=by
 obtain⟨o,hp,hpo⟩:=h.pt;obtain⟨eb,rb,hw,hwc⟩:=h.win;have hl:=h.lt;have kc:∀q,(col q=1\/col q=3\/col q=4\/col q=5)->w'.heap[q]?=w.heap[q]? :=fun q e=>hk q (hl q (by omega)) e
 have cc:∀q,col q≠0->col' q=col q:=fun q e=>hcol q (hl q e)
 exact⟨h.cod.stay (fun q hq=>kc q (.inl (h.c1 q hq))) hs,⟨o,by rw[hpt];exact hp.stay (kc pb (.inr (.inl h.c3))) (fun ad e h0=>kc _ (.inr (.inr (.inl (hpo ad e h0))))),fun ad e h1=>by rw[hpt]at h1;rw[cc _ (by rw[hpo ad e h1];omega)];exact hpo ad e h1⟩,
  ⟨eb,rb,hw.stay (fun q hq=>kc q (.inr (.inr (.inr (by rcases hq with h1 | rfl | rfl;exact h.c5.2 q h1;exact h.c5.1;exact hwc))))),by rw[cc eb (by omega)];exact hwc⟩,hbox,
  fun q hq=>by rw[cc q (by rw[h.c1 q hq];omega)];exact h.c1 q hq,by rw[cc tb (by rw[h.c2];omega)];exact h.c2,by rw[cc pb (by rw[h.c3];omega)];exact h.c3,⟨by rw[cc wb (by rw[h.c5.1];omega)];exact h.c5.1,fun q hq=>by rw[cc q (by rw[h.c5.2 q hq];omega)];exact h.c5.2 q hq⟩,h0⟩
end
def wL (col:Nat->Nat) (n:Nat) (Z:Nat->Prop) [DecidablePred Z] (k:Nat) (q:Nat):Nat:=if q<n then col q else if Z q then k else 0
end Go.Proofs.YtahiballegpbgaaGreatDoor
