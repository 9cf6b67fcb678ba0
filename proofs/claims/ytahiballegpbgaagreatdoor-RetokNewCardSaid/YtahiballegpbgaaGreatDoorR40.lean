/- Walk: follow: the view of a text from a step on. -/
import Derived.Test.YtahiballegpbgaaGreatDoorR38
import Derived.Test.YtahiballegpbgaaGreatDoorR39
set_option linter.unusedVariables false
set_option maxHeartbeats 4000000
set_option maxRecDepth 100000
namespace Go.Proofs.YtahiballegpbgaaGreatDoor
open Go.RowKit
def ZFo (col:Nat->Nat) (db n:Nat) (q:Nat):Prop:=col q=1\/col q=2\/col q=7\/q=db\/n<=q
structure FoL (V:Vc) (N:List ByteArray) (kind:Int) (T:List Rg) (ps:List (Int×Bool)) (w1 wr:World) (base tb g pb wb db:Nat) (room cnt:Int) (P:Nat->Prop) (col:Nat->Nat) (A R:List Int) (s:Stp) (a t st:Nat) (xo:Option Addr) (tc:Nat) (vv:Value) (depth most:Int) (f:Nat) (S0:List Stp)
  (k n:Nat) (O:List Int) (P':Nat->Prop) (d:Int) (X:List Stp) (sv o ro:Value):Prop where
 own:Own wr w1.heap.size o O
 cdr:Cdr wr base g V N kind T room (cnt+d) P'
 sub:∀q,P' q->P q\/w1.heap.size<=q
 fresh:∀q,o.ownBlock=some q->¬P' q
 kp:dA (ZFo col db w1.heap.size) w1 wr
 nle:n<=R.length
 ok:jD (ps.drop k) (R.drop n)
 sum:n=kC (ps.take k)
 toks:O=yA V N (ps.take k) R
 le:O.length<=n/\d<=n/\0<=d/\X.length<=n
 box:F4 wr tb g pb wb st xo (A.length-st) tc sv vv depth most f false
 st:iA Stp.enc 3 111 wr base sv (S0++X)
 sto:∀q,sv.ownBlock=some q->(col q=7\/w1.heap.size<=q)/\¬P' q/\o.ownBlock≠some q
 don:∃fi tk nd:Nat,wr.heap[db]?=some (.cells #[.int .i64 fi, .int .i64 tk, .int .i64 nd] 111)/\(k<=(zB ps).length->fi=s.fin+n/\tk=s.toks+O.length)
 stp:X.Pairwise (fun x y=>x.fin<y.fin)/\∀x∈X,oI V N kind T A a t x/\s.fin<x.fin/\x.fin<=s.fin+n
 rst:∃ra rc,ro= .slice ra (R.length-n) rc/\SlI wr ra (R.length-n) rc (R.drop n)/\∀ad,ra=some ad->0<R.length-n->col ad.block=6
theorem rD.cut {w:World} {base g eb rb:Nat} {L:List (Int×Int)} {bs st keep com:Int} {Q:Nat->Prop} (h:rD w base g eb rb L bs st keep com Q):rD w base g eb rb L bs st keep com (fun q=>Q q/\q<w.heap.size):=by
 obtain⟨o,m,c,hh,B,hb,hat,hg,hq⟩:=h.rq;exact⟨h.b,⟨o,m,c,hh,B,hb,hat,⟨hg,(Array.getElem?_eq_some_iff.1 hb.box).1⟩,fun q e=>⟨hq q e,(World.ownsRow.lt hb.own q e).2⟩⟩,fun e=>h.ng.1 e.1,fun e=>h.ng.2 e.1⟩
open Classical in
noncomputable def gP (col:Nat->Nat) (n:Nat) (P Q:Nat->Prop) (sb:Option Nat) (q:Nat):Nat:=
 if q<n then col q else if P q then 1 else if sb=some q then 7 else if Q q then 5 else 0
def aCN (w:World) (base tb g pb wb:Nat) (V:Vc) (N:List ByteArray) (kind:Int) (T:List Rg) (room cnt:Int) (col:Nat->Nat) (A W:List Int) (f a t bs st keep:Nat) (S0:List Stp) (Sv:List Int) (depth most:Int) (s:Stp) (X Y:List Int) (E:Ending) (w':World):Prop:=
 ∃v P' Q' col' d Z,E= .returned (edV (X.length-wA X Y:Nat) v)/\Own w' w.heap.size v (Y.drop (wA X Y))/\
  gE w' base tb g pb wb V N kind T room (cnt+d) P' Q' col' A (W.take s.toks++Y) f a t bs st keep false (S0++Z) Sv depth most/\(0<=d/\d<=A.length)/\
  (Z.Pairwise (fun x y=>x.fin<y.fin)/\∀x∈Z,oI V N kind T A a t x/\s.fin<x.fin)/\(∀q,q<w.heap.size->col' q=col q)/\(∀q,v.ownBlock=some q->col' q=0)/\dA (fun q=>col q=1\/col q=2\/col q=5\/col q=7) w w'
theorem infoStpR:(Tryz.prog.info? 111).map (fun i=>(i.zero.map (fun x=>x.cells.size),i.size,i.bytes))=some (some 3,3,24):=by kernel_rfl
theorem qW {w:World} {base tb g pb wb:Nat} {V:Vc} {N:List ByteArray} {kind:Int} {T:List Rg} {room cnt:Int} {P Q:Nat->Prop} {col:Nat->Nat} {A W:List Int} {f a t bs st keep:Nat} {S0:List Stp} {Sv:List Int} {depth most:Int} {s:Stp} {X:List Int}
  (h:gE w base tb g pb wb V N kind T room cnt P Q col A W f a t bs st keep false S0 Sv depth most) (hM:May V) (hNm:dB N) (hN:N.length<=16) (hT:oA T) (hk0:0<=kind) (hk3:kind<=3) (hr:room<=1048576)
  (hA:mA V N A=0) (hAl:A.length<=100000) (hs1:st<=s.fin/\s.fin<=A.length) (hcnt:cnt+A.length<1000000) (hbs:bs<=t/\t<=s.toks) (hW:W=W.take s.toks++X) (hWl:s.toks<=W.length/\W.length<=100000) (hat:a<=s.fin/\s.fin<=1000000/\s.need<=1000000)
  (hSl:S0.length+A.length<=1000000) (hbd:Bd V N kind T A s.fin s.toks) (hst:(st:Int)=pC V N (W.take bs)) (hsum:pC V N (W.take s.toks)=s.fin) (hbase:base<=w.heap.size):
  Calls Tryz.prog 82 #[.pointer (some ⟨tb,0,none⟩),stV s] w (aCN w base tb g pb wb V N kind T room cnt col A W f a t bs st keep S0 Sv depth most s X (B5 V N kind T (A.drop s.fin))):=by
 have h0:=h;obtain⟨xo,tc,sv,vv,hbx,htx,hto,hst0,hso,hsv,hvo⟩:=h.box;obtain⟨R,hR⟩:∃R,A.drop s.fin=R:=⟨_,rfl⟩;have hRl:R.length=A.length-s.fin:=by rw[<-hR,List.length_drop]
 obtain⟨ps,hps⟩:∃ps,zA kind T R false=ps:=⟨_,rfl⟩;have hcR:mA V N R=0:=hR▸(nA hA s.fin).2;have hok:jD ps R:=hps▸pG hT hcR;have htb:=h.blt;obtain⟨i0,hi0,hz0,hz1,hz2⟩:=info_parts tC;have hzz:=hz1;obtain⟨ra,hrl,hrs,hrb⟩:=eN (ao:=xo) (n:=A.length-st) (cap:=tc) (k:=s.fin-st) (by omega) hi0 hz1;have el:A.length-st-(s.fin-st)=R.length:=by omega
 rw[el]at hrl hrs;have hq1:IntKind.i64.wrap ((s.fin:Int)-(st:Int))=((s.fin-st:Nat):Int):=by rw[IntKind.wrap_i64];omega
 have hRw:∀W',Below w.heap.size w W'->SlI W' ra R.length (tc-(s.fin-st)) R:=fun W' hb=>by
  have:=hrs W' (A.drop st) (SlI.below htx hb);rw[List.drop_drop,show st+(s.fin-st)=s.fin by omega,hR]at this;exact this
 have hra:∀ad,ra=some ad->0<R.length->col ad.block=6:=fun ad e hl=>by
  obtain⟨ad0,e0,eb⟩:=hrb ad e;rw[eb];exact hto ad0 e0 (by omega)
 obtain⟨cb,hcod⟩:=h.cod.cod;have hSp:∀W',Ge w W'->Calls Tryz.prog 103 #[.pointer (some ⟨g,0,none⟩), .slice ra R.length (tc-(s.fin-st)), .bool false] W' fun E w'=>(∃v,E= .returned v/\iA tG 2 92 w' W'.heap.size v ps)/\Below W'.heap.size W' w':=fun W' hW'=>by
  have h9:=M9 false W' (hcod.below hW') (hRw W' hW') (by omega) hT hk0 hk3;rw[hps]at h9;exact h9
 obtain⟨w0,hw0⟩:∃w0,(w.alloc (.cells #[.int .i64 s.fin, .int .i64 s.toks, .int .i64 s.need] 111)).alloc (.cells #[.int .i64 0, .slice none 0 0] 44)=w0:=⟨_,rfl⟩;have hb0:Below w.heap.size w w0:=hw0▸(aA w _).alloc (by simp) _;have hsz0:w0.heap.size=w.heap.size+2:=by rw[<-hw0];simp
 have hx0:w0.heap[w.heap.size]?=some (.cells #[.int .i64 s.fin, .int .i64 s.toks, .int .i64 s.need] 111):=by
  rw[<-hw0];exact(Below.heap_alloc _ _ _ (by simp)).trans (heap_alloc_new w _)
 have hx1:w0.heap[w.heap.size+1]?=some (.cells #[.int .i64 0, .slice none 0 0] 44):=by
  rw[<-hw0];have:=heap_alloc_new (w.alloc (.cells #[.int .i64 s.fin, .int .i64 s.toks, .int .i64 s.need] 111)) (.cells #[.int .i64 0, .slice none 0 0] 44);simpa using this
 obtain⟨c0,c1,c2,c3,c4,c5,c6,c7,c8,c9,ca,cf⟩:=B7 ((hb0.block tb htb).trans hbx.box);obtain⟨e0,e1,e2⟩:=bC hx0;have HW0:=hW_ (And.intro hb0 (And.intro hsz0 (And.intro hx0 (And.intro hx1 (And.intro hw0 htb)))));have hps1:ps.length<=100000:=by have:=hok.len;omega
 have HBA:=hW_ hbase;have HSP:=hW_ hSp;have HA:=hW_ (And.intro hbx (And.intro htx (And.intro hto (And.intro hst0 (And.intro hso (And.intro hsv hvo))))));have H:=hW_ h0;have HR:=hW_ (And.intro hRw (And.intro hra hrs));have HI:=hW_ (And.intro hps (And.intro hcR (And.intro hok (And.intro hRl hR))));have HB:=hW_ (And.intro hA (And.intro hAl (And.intro hs1 (And.intro hcnt (And.intro hbs (And.intro hW (And.intro hWl (And.intro hat (And.intro hSl (And.intro hbd (And.intro hst hsum)))))))))));have HM:=hW_ (And.intro hM (And.intro hNm (And.intro hN (And.intro hT hr))));clear h h0 hbx htx hto hst0 hso hsv hvo hSp hRw hra hrs hrb hps hcR hok hcod hA hAl hs1 hcnt hbs hW hWl hat hSl hbd hst hsum hR hRl hM hNm hN hT hr hbase el htb hb0 hsz0 hx0 hx1 hw0;go_enter Tryz.func82,Tryz.ntmps82;unfold stV;go_wp2_with (fail);rw[HW0.out.2.2.2.2.1];go_quiet (fail);obtain⟨w2,hw2⟩:∃w2,w0.drewN nq=w2:=⟨_,rfl⟩;rw[hw2];have hd:Below w0.heap.size w0 w2:=hw2▸bA (Below.refl _ _) _;have hsz:w2.heap.size=w.heap.size+2:=by rw[<-hw2,<-HW0.out.2.1];simp
 have hb2:Below w.heap.size w w2:=HW0.out.1.trans (hd.mono HW0.out.1.size);have hx0:=(hd.block w.heap.size (by have:=HW0.out.2.1;omega)).trans HW0.out.2.2.1;have hx1:=(hd.block (w.heap.size+1) (by have:=HW0.out.2.1;omega)).trans HW0.out.2.2.2.1;have hbt:=(hb2.block tb HW0.out.2.2.2.2.2).trans HA.out.1.box;clear c0 c1 c2 c3 c4 c5 c6 c7 c8 c9 ca cf e0 e1 e2 hrl hq1;obtain⟨c0,c1,c2,c3,c4,c5,c6,c7,c8,c9,ca,cf⟩:=B7 hbt;obtain⟨e0,e1,e2⟩:=bC hx0;have HW2:=hW_ (And.intro hb2 (And.intro hsz (And.intro hx0 (And.intro hx1 hbt))));have c0':=eA (aA w2 (.cells #[.int .i64 s.fin, .int .i64 s.toks, .int .i64 s.need] 111)) _ _ c0;clear hd hsz hb2 hx0 hx1 hbt hw2
 go_upto_block 0 with(go_at_call 103;refine(HSP.out _ (by exact HW2.out.1.alloc HW2.out.1.size _)).mono ?_;rintro E w1 ⟨⟨pv,rfl,ho⟩,hb1⟩;obtain⟨pa,pc',rfl,hps⟩:=ho.sl;have HO1:=hW_ ho;have HB1:=hW_ hb1;have HPS:=hW_ hps;clear ho hps hb1)
 clear c0 c1 c2 c3 c4 c5 c6 c7 c8 c9 ca cf e0 e1 e2 c0';obtain⟨db,hdb⟩:∃db,w2.heap.size=db:=⟨_,rfl⟩;have hS1:db=w.heap.size+2/\db<w1.heap.size:=⟨by rw[<-hdb];exact HW2.out.2.1,by have:=HB1.out.size;simp at this;omega⟩;have hbw:Below w.heap.size w w1:=(HW2.out.1.alloc HW2.out.1.size _).trans (HB1.out.mono (by have:=HW2.out.1.size;simp;omega));have hbw2:Below w2.heap.size w2 w1:=(aA w2 _).trans (HB1.out.mono (by simp));have hy0:=(hbw2.block w.heap.size (by have:=HW2.out.2.1;omega)).trans HW2.out.2.2.1;have hy1:=(hbw2.block (w.heap.size+1) (by have:=HW2.out.2.1;omega)).trans HW2.out.2.2.2.1;have hy2:=(HB1.out.block w2.heap.size (by simp)).trans (heap_alloc_new w2 _);rw[hdb]at hy2 |-;have HY:=hW_ (And.intro hS1 (And.intro hbw (And.intro hy0 (And.intro hy1 hy2))));have HPL:Hid (0<ps.length->∀ad,pa=some ad->ad.block<w1.heap.size/\db<ad.block):=hW_ (fun hl ad e=>by
  obtain⟨pb,pc,hpv,hpb,hpl⟩:=iA.at0 HO1.out hl;obtain⟨rfl,-,rfl⟩:=Value.slice.inj hpv;obtain rfl:(⟨pb,0,none⟩:Addr)=ad:=Option.some.inj e;simp at hpb;exact⟨hpl,by show db<pb;omega⟩)
 clear hS1 hbw hbw2 hy0 hy1 hy2 HO1 HB1 HW0 HW2 HSP hdb;go_cut [5,6] from 8 to 82 (fun s5 s6 wx=>∃n O P' d Z sv',Hid (FoL V N kind T ps w1 wx base tb g pb wb db room cnt P col A R s a t st xo tc vv depth most f S0 ps.length n O P' d Z sv' s6 s5))
 case first=>
  go_wp2_with (fail);go_loopw [5,6,37] (fun ro o i wr=>∃(k n:Nat) (O:List Int) (P':Nat->Prop) (d:Int) (Z:List Stp) (sv':Value),k<=ps.length/\i= .int .i64 k/\Hid (FoL V N kind T ps w1 wr base tb g pb wb db room cnt P col A R s a t st xo tc vv depth most f S0 k n O P' d Z sv' o ro)) (fun _ _ i _=>ps.length-(intOf i).toNat)
  case atStart=>
   refine⟨0,0,[],P,0,[],sv,Nat.zero_le _,rfl,hW_ ?_⟩;obtain⟨hbx,htx,hto,hst0,hso,hsv,hvo⟩:=HA.out;obtain⟨hS1,hbw,hy0,hy1,hy2⟩:=HY.out;have h:=H.out;exact⟨Own.nil _ _,by rw[Int.add_zero];exact h.cod.below hbw,fun q hq=> .inl hq,fun q hq=>(by cases hq),dA.refl _ _,Nat.zero_le _,HI.out.2.2.1,by rw[List.take_zero];rfl,by rw[List.take_zero];simp[yA],by simp,⟨(hbw.block tb h.blt).trans hbx.box⟩,
    by rw[List.append_nil];exact jA hst0 (fun q hq=>hbw.block q (h.lt q (by rw[hso q hq];omega))),fun q hq=>⟨.inl (hso q hq),fun hP=>by have:=h.c1 q hP;have:=hso q hq;omega,by simp[Value.ownBlock]⟩,
    ⟨s.fin,s.toks,s.need,hy2,fun _=>⟨rfl,by simp⟩⟩,⟨List.Pairwise.nil,fun x hx=>(by cases hx)⟩,⟨ra,tc-(s.fin-st),by rw[Nat.sub_zero],by rw[Nat.sub_zero,List.drop_zero];exact HR.out.1 _ hbw,by rw[Nat.sub_zero];exact HR.out.2.1⟩⟩
  case round=>
   obtain⟨k,n,O,P',d,Z,sv',hk,rfl,HL⟩:=hrel;obtain⟨ov,hov⟩:∃ov,ov=u6:=⟨_,rfl⟩;subst hov;obtain⟨ru,hru⟩:∃ru,ru=u5:=⟨_,rfl⟩;subst hru
   by_cases hlt:k<ps.length
   ·obtain⟨⟨pn,pd⟩,hp⟩:∃x,ps[k]=x:=⟨_,rfl⟩;have hpk:ps[k]?=some (pn,pd):=by rw[<-hp];exact List.getElem?_eq_getElem hlt
    have hdr:ps.drop k=(pn,pd)::ps.drop (k+1):=by rw[List.drop_eq_getElem_cons hlt,hp]
    have hok:=HL.out.ok;rw[hdr]at hok;obtain⟨h1,h2,h3,h4⟩:=hok;simp only at h1 h2 h3 h4;obtain⟨j,rfl⟩:∃j:Nat,pn=j:=⟨pn.toNat,by omega⟩;rw[Int.toNat_natCast]at h3 h4;rw[List.drop_drop]at h4;rw[List.length_drop]at h2;have hnx:=fol_next (V:=V) (N:=N) hpk R;rw[<-HL.out.sum,<-HL.out.toks]at hnx;simp only[Int.toNat_natCast]at hnx;have hdx:pd=true↔k<(zB ps).length:=by
     have:=dec_ix (kind:=kind) (T:=T) (A:=R) (f:=false) (k:=k) (p:=((j:Int),pd)) (by rw[HI.out.1];exact hpk);rw[HI.out.1]at this;exact this
    have hle:=HL.out.le;have hRn:R.length<=100000:=by have:=HI.out.2.2.2.1;have:=HB.out.2.1;omega
    have hdb:=HY.out.1;have hc0:=H.out.c0;have hsz:=HL.out.kp.size;have hnot:∀q,q<w1.heap.size->col q≠1->¬P' q:=fun q hq hc hP=>by
     rcases HL.out.sub q hP with h5 | h5
     ·exact hc (H.out.c1 q h5)
     ·omega
    have hpw:SlF 2 wr pa ps.length pc' (flat tG ps):=HPS.out.keep0 (fun ad e hl=>by
     obtain⟨a1,a2⟩:=HPL.out hl ad e;refine HL.out.kp.block _ a1 (fun hz=> ?_);have:=hc0 ad.block (by omega);unfold ZFo at hz;omega)
    obtain⟨b,of,rfl,hce⟩:=hpw.elem U0 (by omega) (k:=k) (x:=((j:Int),pd)) hpk;have d0:=hce 0 _ rfl;have d1:=hce 1 _ rfl;rw[Nat.add_zero]at d0;simp only at d0 d1;have gk:(k:Int)<(ps.length:Int):=by omega
    have hb2:=aA wr (.cells #[.int .i64 j, .bool pd] 92);obtain⟨W2,hW2⟩:∃W2,wr.alloc (.cells #[.int .i64 j, .bool pd] 92)=W2:=⟨_,rfl⟩;have hx2:W2.heap[wr.heap.size]?=some (.cells #[.int .i64 j, .bool pd] 92):=by rw[<-hW2];exact heap_alloc_new wr _
    have hS2:W2.heap.size=wr.heap.size+1:=by rw[<-hW2];simp
    rw[hW2]at hb2;obtain⟨ra',rc',hre,hrs,hrc⟩:=HL.out.rst;subst hre;obtain⟨hr1,hr2⟩:=yU (ao:=ra') (n:=R.length-n) (cap:=rc') (k:=j) (by omega) (Sl.le hrs) hi0 hz1;obtain⟨so,hl1,hl2,hl3⟩:=eN (ao:=ra') (n:=R.length-n) (cap:=rc') (k:=j) (by omega) hi0 hz1;have hB2:=hr2 W2 _ (SlI.below hrs hb2);have hckB:mA V N ((R.drop n).take j)=0:=(nA (nA HI.out.2.1 n).2 j).1;have hpl:=fJ hckB h3;rw[List.length_take,List.length_drop]at hpl;obtain⟨pr,hpr⟩:∃pr,eC V N ((R.drop n).take j)=pr:=⟨_,rfl⟩;obtain⟨dd,hdd⟩:∃dd,N5 ((R.drop n).take j)=dd:=⟨_,rfl⟩;have hd01:=nW ((R.drop n).take j);rw[hpr]at hnx hpl;rw[hdd]at hd01;have hlt7:∀q,ov.ownBlock=some q->w1.heap.size<=q/\q<wr.heap.size:=fun q hq=>World.ownsRow.lt HL.out.own q hq
    have hPlt:∀q,P' q->q<wr.heap.size:=fun q hq=>(HL.out.cdr.lt q hq).2
    obtain⟨oa,oc,hov,-⟩:=HL.out.own.sl;subst hov;have HPC:Hid (∀W',Ge W2 W'->Calls Tryz.prog 116 #[.pointer (some ⟨g,0,none⟩), .slice ra' j rc'] W' (fun e w3=>∃rb rc P3,e= .returned (.slice (some ⟨rb,0,none⟩) pr.length rc)/\SlI w3 (some ⟨rb,0,none⟩) pr.length rc pr/\Cdr w3 base g V N kind T room (cnt+d+dd) P3/\(∀q,P3 q->P' q\/W2.heap.size<=q)/\dA P' W2 w3)):=hW_ (fun W' hW=>by
     have hPC:=eJ W' ((HL.out.cdr.below hb2).below hW) HM.out.1 HM.out.2.2.1 HM.out.2.2.2.2 (SlI.below hB2 hW) (by omega) h3 hckB (by have:=HB.out.2.2.2.1;have:=HB.out.2.1;have:=HI.out.2.2.2.1;omega);rw[hpr,hdd]at hPC;refine hPC.mono ?_
     rintro e w3 ⟨v3,P3,rfl,ho3,hV3,hs3,hk3'⟩;obtain⟨rb,rc,hv3⟩:=xF ho3 hpl.1;subst hv3;obtain⟨ra,rc',e3,hsl3⟩:=ho3.sl;obtain⟨rfl,-,rfl⟩:=Value.slice.inj e3;exact⟨rb,rc,P3,rfl,hsl3,hV3,fun q hq=>(hs3 q hq).imp id (fun h=>Nat.le_trans hW.size h),(dA.of_below hW).trans hk3'⟩)
    have htbl:=H.out.blt;have hw1s:=HY.out.2.1.size;have hPb:¬P' tb:=hnot tb (by omega) (by have:=H.out.c2;omega);have hPw:¬P' wr.heap.size:=fun hq=>by have:=hPlt _ hq;omega
    obtain⟨c0,-⟩:=B7 ((hb2.block tb (by omega)).trans HL.out.box.box);obtain⟨k0,k1⟩:=zH hx2;have k0':=k0;have k1':=k1;rw[<-hW2]at k0' k1';have G0:=fun w' (hg:dA P' W2 w')=>hg.cell c0 hPb
    have GK:=fun w' (hg:dA P' W2 w')=>hg.cell k0 hPw
    have GL:=fun w' (hg:dA P' W2 w')=>hg.cell k1 hPw
    have gr:=dA.refl P' W2;have HO2:Hid (∀w',dA P' W2 w'->Own w' w1.heap.size (.slice oa O.length oc) O):=hW_ (fun w' hk=>jA (HL.out.own.below hb2) (fun q hq=>hk.block q (by have:=(hlt7 q hq).2;omega) (HL.out.fresh q hq)));have HW2:=hW_ hW2;have HB2:=hW_ hb2;have HBS:Hid (w1.heap.size<=W2.heap.size):=hW_ (by omega);have HF:=hW_ (And.intro h4 (And.intro hnx (And.intro hpl (And.intro hd01 (And.intro hdx (And.intro hle (And.intro hRn hdb)))))));have HC0:=hW_ hc0;have HN:=hW_ (And.intro hnot (And.intro hlt7 (And.intro hPlt (And.intro hS2 (And.intro hl2 (And.intro hl3 (And.intro hrs hrc)))))));have HNJ:Hid (n+j<=R.length/\1<=j):=hW_ ⟨by omega,by omega⟩;have hPL:0<pr.length/\O.length+pr.length<1048576:=⟨hpl.1,by omega⟩;have HT:=hW_ (And.intro htbl hw1s);clear hce hpw hb2 hW2 hx2 hS2 hckB hpl h1 h2 h3 h4 hnx hdx hp hdr hpk hpr hdd hd01 hlt7 hPlt hle hRn hdb hc0 hsz hnot hrs hrc hr2 hl2 hl3 hB2 hPb c0 k0 k1 htbl hw1s;go_wp2_with (fail);rw[HW2.out]
    go_region_held3 (dA P' W2) (first | (with_reducible assumption) | (with_reducible refine dA.drew ?_;with_reducible assumption) | (with_reducible refine dA.drewN ?_ _;with_reducible assumption)) ((go_at_call 116;refine(HPC.out _ (by exact bA (Below.refl _ _) _)).mono ?_;rintro e w3 ⟨rb,rc,P3,rfl,hsl3,hV3,hP3,hk3⟩;have hz3:dA P' W2 w3:=hk3;have HO3:=hW_ (HO2.out _ hk3);have HSL3:=hW_ hsl3;have HV3:=hW_ hV3;have HP3:=hW_ hP3;have HK3:=hW_ hk3;have HBS3:Hid (w1.heap.size<=w3.heap.size):=hW_ (Nat.le_trans HBS.out hk3.size);clear hsl3 hV3 hP3 hk3))
    have k9:=GK w3 hz3;have k8:=GL w3 hz3;clear G0 GK GL gr hr1 hz3 k0' k1' d0 d1
    cases pd
    all_goals go_wp2_with (at_builtin;refine qO rfl _ _ rfl (base:=w1.heap.size) (v:= .slice oa O.length oc) (k:=O.length) (m:=pr.length) rfl HO3.out rfl rfl HSL3.out hPL.1 hPL.2 HBS3.out ?_;intro gg cap w4 ho4 hg4 hat4;have k7:=(World.cell?_of_block (w:=w3) (hg4.block wr.heap.size (by have:=HK3.out.size;have:=HN.out.2.2.2.1;omega) (fun e=>by have:=(HN.out.2.1 _ e.symm).2;omega))).trans k8;have HO4:=hW_ ho4;have HG4:=hW_ hg4;have HAT4:=hW_ hat4;clear ho4 hg4 hat4)
    all_goals
     have hst:∀q,q<wr.heap.size->¬P' q->(Value.slice oa O.length oc).ownBlock≠some q->w4.heap[q]?=wr.heap[q]? :=fun q h1 h2 h3=>by
      have h5:=HN.out.2.2.2.1;exact(HG4.out.block q (by have:=HK3.out.size;omega) (fun e=>h3 e.symm)).trans ((HK3.out.block q (by omega) h2).trans (HB2.out.block q h1))
     have hs4:wr.heap.size+1<=w3.heap.size/\w3.heap.size<=w4.heap.size/\w1.heap.size<=wr.heap.size:=⟨by have:=HK3.out.size;have:=HN.out.2.2.2.1;omega,HG4.out.size,HL.out.kp.size⟩;have hon:∀q,q<w1.heap.size->(Value.slice oa O.length oc).ownBlock≠some q:=fun q h1 h2=>by have:=(HN.out.2.1 q h2).1;omega
     have hnP:∀q,(Value.slice oa O.length oc).ownBlock=some q->¬P3 q:=fun q hq h3=>by
      rcases HP3.out q h3 with h3 | h3
      ·exact HL.out.fresh q hq h3
      ·have:=(HN.out.2.1 q hq).2;have:=HN.out.2.2.2.1;omega
     have hdb:=HF.out.2.2.2.2.2.2.2;have hcdb:col db=0:=HC0.out db (by omega);have hbox4:F4 w4 tb g pb wb st xo (A.length-st) tc sv' vv depth most f false:=⟨(hst tb (by have:=HT.out;omega) (HN.out.1 tb (by have:=HT.out;omega) (by have:=H.out.c2;omega)) (hon tb (by have:=HT.out;omega))).trans HL.out.box.box⟩;have hdon4:w4.heap[db]?=wr.heap[db]? :=hst db (by omega) (HN.out.1 db (by omega) (by omega)) (hon db (by omega))
     have hst4:iA Stp.enc 3 111 w4 base sv' (S0++Z):=jA HL.out.st (fun q hq=>hst q (World.ownsRow.lt HL.out.st q hq).2 (HL.out.sto q hq).2.1 (HL.out.sto q hq).2.2);have hsto4:∀q,sv'.ownBlock=some q->(col q=7\/w1.heap.size<=q)/\¬P3 q/\(Value.slice (some ⟨gg,0,none⟩) (O.length+pr.length) cap).ownBlock≠some q:=fun q hq=>by
      have hqlt:=(World.ownsRow.lt HL.out.st q hq).2;obtain⟨s1,s2,s3⟩:=HL.out.sto q hq;refine⟨s1,fun h3=> ?_,fun e=> ?_⟩
      ·rcases HP3.out q h3 with h3 | h3
       ·exact s2 h3
       ·have:=HN.out.2.2.2.1;omega
      ·obtain rfl:gg=q:=by simpa[Value.ownBlock]using e
       rcases HAT4.out with h5 | h5
       ·exact s3 h5
       ·omega
     have hrst4:∃ra rc,Value.slice so (R.length-n-j) (rc'-j)= .slice ra (R.length-(n+j)) rc/\SlI w4 ra (R.length-(n+j)) rc (R.drop (n+j))/\∀ad,ra=some ad->0<R.length-(n+j)->col ad.block=6:=by
      obtain⟨-,-,-,-,hl2,hl3,hrs,hrc⟩:=HN.out;have e:R.length-n-j=R.length-(n+j):=by omega
      refine⟨so,rc'-j,by rw[e],?_,fun ad e0 hl=> ?_⟩
      ·rw[<-e,<-List.drop_drop];refine hl2 w4 _ (hrs.keep0 (fun ad e0 hl=> ?_));have hc6:=hrc ad e0 hl;have hlt6:ad.block<w1.heap.size:=by have:=H.out.lt ad.block (by omega);have:=HT.out;omega
       exact hst _ (by omega) (HN.out.1 _ hlt6 (by omega)) (hon _ hlt6)
      ·obtain⟨ad0,e1,eb⟩:=hl3 ad e0;rw[eb];exact hrc ad0 e1 (by omega)
     have hk4:dA (ZFo col db w1.heap.size) w1 w4:=by
      have hP1:∀q,P' q->ZFo col db w1.heap.size q:=fun q hq=>by
       rcases HL.out.sub q hq with h5 | h5
       ·exact .inl (H.out.c1 q h5)
       ·exact .inr (.inr (.inr (.inr h5)))
      refine dA.grown ((HL.out.kp.trans (dA.of_below HB2.out)).trans (HK3.out.mono (fun q _ hq=>hP1 q hq))) HG4.out (fun q e hq=> .inr (.inr (.inr (.inr (HN.out.2.1 q e).1))))
     have hcd4:Cdr w4 base g V N kind T room (cnt+(d+dd)) P3:=by
      have h:=HV3.out;rw[Int.add_assoc]at h;exact h.stay (fun q hq=>HG4.out.block q (h.lt q hq).2 (fun e=>hnP q e.symm hq)) HG4.out.size
     have hsub4:∀q,P3 q->P q\/w1.heap.size<=q:=fun q hq=>by
      rcases HP3.out q hq with h3 | h3
      ·exact HL.out.sub q h3
      ·exact .inr (by have:=HN.out.2.2.2.1;omega)
     have hfr4:∀q,(Value.slice (some ⟨gg,0,none⟩) (O.length+pr.length) cap).ownBlock=some q->¬P3 q:=fun q hq h3=>by
      obtain rfl:gg=q:=by simpa[Value.ownBlock]using hq
      rcases HAT4.out with h5 | h5
      ·exact hnP gg h5 h3
      ·have:=(HV3.out.lt gg h3).2;omega
     have hle4:(O++pr).length<=n+j/\d+dd<=((n+j:Nat):Int)/\0<=d+dd/\Z.length<=n:=by
      obtain⟨-,-,f3,f4,-,f6,-,-⟩:=HF.out;rw[List.length_append];omega
    ·obtain⟨f1,f2,f3,f4,f5,f6,f7,f8⟩:=HF.out;have hkd:¬k<(zB ps).length:=fun hx=>by have:=f5.2 hx;cases this
     have HEN:Hid (FoL V N kind T ps w1 w4 base tb g pb wb db room cnt P col A R s a t st xo tc vv depth most f S0 (k+1) (n+j) (O++pr) P3 (d+dd) Z sv' (.slice (some ⟨gg,0,none⟩) (O.length+pr.length) cap) (.slice so (R.length-n-j) (rc'-j))):=hW_ (by
      obtain⟨fi,tk,nd,e1,e2⟩:=HL.out.don;exact⟨HO4.out,hcd4,hsub4,hfr4,hk4,HNJ.out.1,f1,f2.1.symm,f2.2.symm,⟨hle4.1,hle4.2.1,hle4.2.2.1,by have:=hle4.2.2.2;omega⟩,hbox4,hst4,hsto4,⟨fi,tk,nd,hdon4.trans e1,fun hx=>absurd hx (by omega)⟩,⟨HL.out.stp.1,fun x hx=>⟨((HL.out.stp.2 x hx)).1,((HL.out.stp.2 x hx)).2.1,by have:=((HL.out.stp.2 x hx)).2.2;omega⟩⟩,hrst4⟩)
     clear hst hs4 hon hnP hdb hcdb hbox4 hdon4 hst4 hsto4 hrst4 hk4 hcd4 hsub4 hfr4 hle4 f1 f2 f3 f4 f5 f6 f7 f8 hkd;go_roundw
     case rel=>exact⟨k+1,n+j,_,P3,d+dd,Z,sv',by omega,by go_num,HEN⟩
     case measure=>simp[intOf];omega
    ·obtain⟨f1,f2,f3,f4,f5,f6,f7,f8⟩:=HF.out;have hkd:k<(zB ps).length:=f5.mp (by simp);obtain⟨fi,tk,nd,e1,e2⟩:=HL.out.don;obtain⟨e3,e4⟩:=e2 (by omega);have HFT:=hW_ (And.intro e3 e4);have hx4:=hdon4.trans e1;obtain⟨q0,q1,q2⟩:=bC hx4;have qf:∀o,w4.frozen? ⟨db,o,none⟩=false:=fun o=>by simp[World.frozen?,hx4]
     have k6:=(World.cell?_of_block (w:=w3) (HG4.out.block wr.heap.size (by omega) (fun e=>by have:=(HN.out.2.1 _ e.symm).2;omega))).trans k9;obtain⟨F,hF⟩:∃F,fi+j=F:=⟨_,rfl⟩;obtain⟨K,hK⟩:∃K,tk+pr.length=K:=⟨_,rfl⟩;have hb:=HB.out;have hnj:=HNJ.out;have w1':IntKind.i64.wrap ((fi:Int)+(j:Int))=(F:Int):=by rw[IntKind.wrap_i64];omega
     have w2':IntKind.i64.wrap ((tk:Int)+(pr.length:Int))=(K:Int):=by rw[IntKind.wrap_i64];omega
     have HLN:Hid (∀W',Ge w4 W'->Calls Tryz.prog 9 #[.pointer (some ⟨tb,0,none⟩)] W' fun E w'=>E= .returned (.int .i64 A.length)/\∃q,w'=W'.drewN q):=hW_ (fun W' hW=>tkLen (n:=A.length) ⟨(hW.block tb (by have:=HT.out;omega)).trans hbox4.box⟩ (by omega) (by omega));have HFK:=hW_ (And.intro hF hK);have hne:wr.heap.size≠db:=by omega
     have H4:=hW_ (And.intro hbox4 (And.intro hx4 (And.intro hst4 (And.intro hsto4 (And.intro hrst4 (And.intro hk4 (And.intro hcd4 (And.intro hsub4 (And.intro hfr4 (And.intro hle4 hs4))))))))));have G0:=fun w' (hg:Ge w4 w')=>hg.at w4 w' q0
     have G1:=fun w' (hg:Ge w4 w')=>hg.at w4 w' q1
     have G2:=fun w' (hg:Ge w4 w')=>hg.at w4 w' k6
     have gr:=Ge.refl w4;clear hst hs4 hon hnP hdb hcdb hbox4 hdon4 hst4 hsto4 hrst4 hk4 hcd4 hsub4 hfr4 hle4 f1 f2 f3 f4 f5 f6 f7 f8 hkd hF hK e1 e2 e3 e4 hx4 hb hnj k7 k8 k9;refine aEw (F:=Hd4 ⟨wr.heap.size,0,none⟩ ⟨db,0,none⟩ ⟨db,1,none⟩ ⟨db,1,none⟩ (.int .i64 j) (.int .i64 fi) (.int .i64 tk) (.int .i64 tk)) (e:=13) (by kernel_rfl) ⟨k6,q0,q1,q1⟩ (fun hHeld=> ?_);obtain⟨xx0,xx1,xx2,xx3⟩:=hd4 ⟨wr.heap.size,0,none⟩ ⟨db,0,none⟩ ⟨db,1,none⟩ ⟨db,1,none⟩ (.int .i64 j) (.int .i64 fi) (.int .i64 tk) (.int .i64 tk);refine aEs 0 59 (.pointer (some ⟨db,0,none⟩)) ?_
     refine aEs 1 60 (.int .i64 fi) ?_
     refine aEs 2 61 (.pointer (some ⟨wr.heap.size,0,none⟩)) ?_
     refine aEs 3 62 (.int .i64 j) ?_
     refine aEs 4 63 (.int .i64 F) ?_
     refine aEs 5 64 (.pointer (some ⟨db,1,none⟩)) ?_
     refine aEs 6 65 (.int .i64 tk) ?_
     refine aEs 7 66 (.slice (some ⟨rb,0,none⟩) pr.length rc) ?_
     refine aEs 8 67 (.int .i64 pr.length) ?_
     refine aEs 9 68 (.int .i64 K) ?_
     refine aEs 10 69 (.pointer (some ⟨tb,0,none⟩)) ?_
     (try simp only[Act.put,List.setIfInBounds_toArray,List.set_cons_zero,List.set_cons_succ])
     refine aEt (i:=11) (by kernel_rfl) rfl (fun K hK=> ?_)
     go_simp
     go_at_call 9;refine(HLN.out _ (Below.refl _ _).drew).mono ?_
     rintro E w9 ⟨rfl,q9,rfl⟩;have hg9:∀n,Hd4 ⟨wr.heap.size,0,none⟩ ⟨db,0,none⟩ ⟨db,1,none⟩ ⟨db,1,none⟩ (.int .i64 j) (.int .i64 fi) (.int .i64 tk) (.int .i64 tk) (w4.drewN n):=fun n=>by have hge:Ge w4 (w4.drewN n):=bA (Below.refl _ _) _;exact⟨G2 _ hge,G0 _ hge,G1 _ hge,G1 _ hge⟩
     go_wp2_with (fail);refine hK.out _ _ (fun _=>hg9 _) ?_
     clear hK K hHeld
     (try simp only[Act.put,List.setIfInBounds_toArray,List.set_cons_zero,List.set_cons_succ])
     have hg10:=hg9 (1+q9);refine aEs 12 71 (.agg #[.int .i64 F, .int .i64 K, .int .i64 A.length]) ?_
     (try simp only[Act.put,List.setIfInBounds_toArray,List.set_cons_zero,List.set_cons_succ])
     refine aEt (i:=13) (by kernel_rfl) rfl (fun K hK=> ?_)
     go_simp
     refine hK.out _ _ (fun h=>absurd rfl h) ?_
     refine aEu (by kernel_rfl) ?_ _
     clear hK K xx0 xx1 xx2 xx3;clear hg9 hg10;obtain⟨w6,hw6⟩:∃w6,(((w4.drewN (1+q9)).setCell ⟨db,0,none⟩ (.int .i64 F)).setCell ⟨db,1,none⟩ (.int .i64 K)).setCell ⟨db,2,none⟩ (.int .i64 A.length)=w6:=⟨_,rfl⟩;obtain⟨hbox4,hx4,hst4,hsto4,hrst4,hk4,hcd4,hsub4,hfr4,hle4,hs4⟩:=H4.out;have hdb:=HF.out.2.2.2.2.2.2.2;have hcdb:col db=0:=HC0.out db (by omega);have htbl:=HT.out.1;have h6:∀q,q≠db->w6.heap[q]?=w4.heap[q]? :=fun q hq=>by
      rw[<-hw6,zG _ _ _ _ _ _ _ _ hq,World.heap_drewN]
     have hs6:w6.heap.size=w4.heap.size:=by rw[<-hw6];simp
     have hx4d:(w4.drewN (1+q9)).heap[db]?=some (.cells #[.int .i64 fi, .int .i64 tk, .int .i64 nd] 111):=by rw[World.heap_drewN];exact hx4
     have hx6:w6.heap[db]?=some (.cells #[.int .i64 F, .int .i64 K, .int .i64 A.length] 111):=by
      rw[<-hw6];exact rA (i:=2) (v:= .int .i64 A.length) (rA (i:=1) (v:= .int .i64 K) (rA (i:=0) (v:= .int .i64 F) hx4d))
     have hbox6:F4 w6 tb g pb wb st xo (A.length-st) tc sv' vv depth most f false:=⟨(h6 tb (by omega)).trans hbox4.box⟩;have hst6:iA Stp.enc 3 111 w6 base sv' (S0++Z):=jA hst4 (fun q hq=>h6 q (fun e=>by have:=(hsto4 q hq).1;rw[e,hcdb]at this;omega));have hk6:dA (ZFo col db w1.heap.size) w1 w6:=by
      rw[<-hw6];exact(((hk4.drewN _).set (p:=⟨db,0,none⟩) (.inr (.inr (.inr (.inl rfl)))) _).set (p:=⟨db,1,none⟩) (.inr (.inr (.inr (.inl rfl)))) _).set (p:=⟨db,2,none⟩) (.inr (.inr (.inr (.inl rfl)))) _
     have HSX:Hid (base<=w.heap.size):=HBA;have HOa:Hid ((w6.drew.alloc (.cells #[.int .i64 F, .int .i64 K, .int .i64 A.length] 111)).ownsRow base 111 3 sv' (S0++Z).length (flat Stp.enc (S0++Z))):=hW_ (by
      have h:=(hst6.drewN 1).alloc (.cells #[.int .i64 F, .int .i64 K, .int .i64 A.length] 111);exact h)
     have hnl:(S0++Z).length<=1000000:=by have:=HB.out.2.2.2.2.2.2.2.2.1;have:=HNJ.out;have:=HI.out.2.2.2.1;rw[List.length_append];omega
     obtain⟨ti,tz,hti,htz0,htz1,htz2,htz3⟩:=B6 infoStpR;have hS6:=hs6;obtain⟨p0,p1,p2,p3,p4,p5,p6,p7,p8,p9,pa',pf⟩:=B7 hbox6.box;obtain⟨q0,q1,q2⟩:=bC hx6;have hba:base<=(w6.drew.alloc (.cells #[.int .i64 F, .int .i64 K, .int .i64 A.length] 111)).heap.size:=by simp;have:=HSX.out;have:=HY.out.2.1.size;omega
     have hsvl:=World.ownsRow.lt hst6;have HSV:=hW_ hsvl;have hsvt:sv'.ownBlock≠some tb:=fun e=>by have:=(hsto4 tb e).1;have:=H.out.c2;have:=HY.out.2.1.size;omega
     have hbx7:∀w7,(w6.drew.alloc (.cells #[.int .i64 F, .int .i64 K, .int .i64 A.length] 111)).grownBy w7 sv'.ownBlock->w7.heap[tb]?=some (.cells #[.pointer (some ⟨g,0,none⟩), .pointer (some ⟨pb,0,none⟩), .pointer (some ⟨wb,0,none⟩), .int .i64 st, .slice xo (A.length-st) tc,sv',vv, .int .i64 depth, .int .i64 most, .int .i64 f, .bool false] 85):=fun w7 hg=>by
      refine(hg.block tb (by simp;omega) (fun e=>hsvt e.symm)).trans ((Below.heap_alloc _ _ _ (by simp;omega)).trans ?_);rw[<-hbox6.box];rfl
     have H6:=hW_ (And.intro h6 (And.intro hs6 (And.intro hx6 (And.intro hbox6 (And.intro hst6 (And.intro hk6 (And.intro hdb (And.intro hcdb htbl))))))));rw[hw6];clear hbox4 hx4 hst4 hsto4 hrst4 hk4 hcd4 hsub4 hfr4 hle4 hs4 hdb hcdb htbl h6 hs6 hx6 hbox6 hst6 hk6 hsvl hw6 hx4d;go_wp2_with (fail);have p5':=eA (aA w6 (.cells #[.int .i64 F, .int .i64 K, .int .i64 A.length] 111)) _ _ p5;refine dR ?keS ?kfS ?khS
     case kfS=>
      intro key
      go_region_law (refine step_append_lies _ (by rfl) _ _ _ (by rfl) base 111 ti tz 3 24 Tryz.underlying83 hti htz0 htz1 htz2 htz3 (by omega) sv' (S0++Z).length (flat Stp.enc (S0++Z)) (by rfl) HOa.out ⟨w6.heap.size,0,none⟩ 1 1 [.int .i64 F, .int .i64 K, .int .i64 A.length] (by simp[Act.eval];done) (by rfl) (World.news_of_block (cs:=#[.int .i64 F, .int .i64 K, .int .i64 A.length]) (heap_alloc_new w6.drew _)) (by simp[Value.oneCell']) (by omega) (by unfold maxLen;omega) (by omega) hba w6.heap.size.succ (by simp) ?_;intro gg2 cap2 w7 ho7 hg7 hat7 hb7;obtain⟨m0,m1,m2,m3,m4,m5,m6,m7,m8,m9,ma,mf⟩:=B7 (hbx7 w7 hg7))
      all_goals(clear m0 m1 m2 m3 m4 m5 m6 m7 m8 m9 ma mf;revert w7 gg2 cap2;exact key.out)
     intro gg2 cap2 w7 ho7 hg7 hat7 hb7;obtain⟨w8,hw8⟩:∃w8,w7.setCell ⟨tb,5,none⟩ (.slice (some ⟨gg2,0,none⟩) (S0.length+Z.length+1) cap2)=w8:=⟨_,rfl⟩;have HEN:Hid (FoL V N kind T ps w1 w8 base tb g pb wb db room cnt P col A R s a t st xo tc vv depth most f S0 (k+1) (n+j) (O++pr) P3 (d+dd) (Z++ [⟨F,K,A.length⟩]) (.slice (some ⟨gg2,0,none⟩) (S0.length+Z.length+1) cap2) (.slice (some ⟨gg,0,none⟩) (O.length+pr.length) cap) (.slice so (R.length-n-j) (rc'-j))):=hW_ (by
      obtain⟨h6,hs6,hx6,hbox6,hst6,hk6,hdb,hcdb,htbl⟩:=H6.out;obtain⟨hbox4,hx4,hst4,hsto4,hrst4,hk4,hcd4,hsub4,hfr4,hle4,hs4⟩:=H4.out;obtain⟨f1,f2,f3,f4,f5,f6,f7,f8⟩:=HF.out;obtain⟨e3,e4⟩:=HFT.out;obtain⟨hF,hK⟩:=HFK.out;have hnj:=HNJ.out;have hw1:=HT.out.2;have hc2:=H.out.c2;have hs7:w6.heap.size+1<=w7.heap.size:=by have:=hg7.size;simpa using this
      have hlt4:=World.ownsRow.lt HO4.out;have hsv2:sv'.ownBlock≠some tb:=fun e=>by have:=(hsto4 tb e).1;omega
      have hsv3:sv'.ownBlock≠some db:=fun e=>by have:=(hsto4 db e).1;omega
      have h78:∀q,q<w6.heap.size->q≠tb->sv'.ownBlock≠some q->w8.heap[q]?=w6.heap[q]? :=fun q h1 h2 h3=>by
       rw[<-hw8,cA h2];exact(hg7.block q (by simp;omega) (fun e=>h3 e.symm)).trans (Below.heap_alloc _ _ _ (show q<w6.heap.size from h1))
      have h84:∀q,q<w4.heap.size->q≠tb->q≠db->sv'.ownBlock≠some q->w8.heap[q]?=w4.heap[q]? :=fun q h1 h2 h3 h4=>(h78 q (by omega) h2 h4).trans (h6 q h3)
      have hs8:w4.heap.size<=w8.heap.size:=by rw[<-hw8];simp;omega
      have hgt:gg2≠tb:=fun e=>by
       subst e;rcases hat7 with h5 | h5
       ·exact hsv2 h5
       ·omega
      have hP3:∀q,P3 q->q≠tb/\q≠db:=fun q hq=>by
       have h9:col q=1\/w1.heap.size<=q:=(hsub4 q hq).imp (H.out.c1 q) id;exact⟨fun e=>by rw[e]at h9;omega,fun e=>by rw[e]at h9;omega⟩
      have hx7:=hbx7 w7 hg7;refine⟨jA HO4.out (fun q hq=> ?_),hcd4.stay (fun q hq=>h84 q (hcd4.lt q hq).2 (hP3 q hq).1 (hP3 q hq).2 (fun e=>(hsto4 q e).2.1 hq)) hs8,hsub4,hfr4,?_,hnj.1,f1,f2.1.symm,f2.2.symm,⟨hle4.1,hle4.2.1,hle4.2.2.1,by have:=hle4.2.2.2;simp;omega⟩,⟨?_⟩,?_,fun q hq=> ?_,⟨F,K,A.length,(h78 db (by omega) (by omega) hsv3).trans hx6,fun _=>⟨by omega,by rw[List.length_append];omega⟩⟩,⟨?_,fun x hx=> ?_⟩,?_⟩
      ·obtain⟨l1,l2⟩:=hlt4 q hq;exact h84 q l2 (by omega) (by omega) (fun e=>(hsto4 q e).2.2 hq)
      ·rw[<-hw8];refine(dA.grown ((hk6.drew).trans (dA.of_below (aA w6.drew _))) hg7 (fun q e hq=> ?_)).set (.inr (.inl hc2)) _;rcases(hsto4 q e).1 with h9 | h9
       ·exact .inr (.inr (.inl h9))
       ·omega
      ·rw[<-hw8];exact rA (i:=5) hx7
      ·have e9:S0++(Z++ [⟨F,K,A.length⟩])=(S0++Z)++ [(⟨F,K,A.length⟩:Stp)]:=(List.append_assoc _ _ _).symm;rw[e9];have ho9:iA Stp.enc 3 111 w7 base (.slice (some ⟨gg2,0,none⟩) (S0.length+Z.length+1) cap2) ((S0++Z)++ [(⟨F,K,A.length⟩:Stp)]):=by
        unfold iA;rw[cB,List.length_append,List.length_append];rw[List.length_append]at ho7;exact ho7
       refine jA ho9 (fun q hq=> ?_);obtain rfl:gg2=q:=by simpa[Value.ownBlock]using hq
       rw[<-hw8,cA hgt]
      ·obtain rfl:gg2=q:=by simpa[Value.ownBlock]using hq
       rcases hat7 with h5 | h5
       ·exact hsto4 _ h5
       ·refine⟨.inr (by omega),fun h3=>by have:=(hcd4.lt _ h3).2;omega,fun e=>by have:=(hlt4 _ e).2;omega⟩
      ·refine List.pairwise_append.2 ⟨HL.out.stp.1,by simp,fun x hx y hy=> ?_⟩;obtain rfl:y=⟨F,K,A.length⟩:=by simpa using hy
       have:=(HL.out.stp.2 x hx).2.2;show x.fin<F;omega
      ·rcases List.mem_append.1 hx with hx | hx
       ·exact⟨((HL.out.stp.2 x hx)).1,((HL.out.stp.2 x hx)).2.1,by have:=((HL.out.stp.2 x hx)).2.2;omega⟩
       ·obtain rfl:x=⟨F,K,A.length⟩:=by simpa using hx
        obtain⟨b1,b2,b3,b4,b5,b6,b7,b8,b9,b10,b11,b12⟩:=HB.out;have hpre:=dec_pre (f5.mp (by simp));rw[<-HI.out.1,<-HI.out.2.2.2.2]at hpre;have hsm:=aDd HM.out.1 HM.out.2.1 HM.out.2.2.2.1 ⟨hk0,hk3⟩ b1 b10 b8.1 (show t<=s.toks from b5.2) hpre;rw[HI.out.2.2.2.2,HI.out.1,f2.1,f2.2,List.length_append]at hsm;have e5:s.fin+(n+j)=F:=by omega
        have e6:s.toks+(O.length+pr.length)=K:=by omega
        rw[e5,e6]at hsm;exact⟨hsm,by show s.fin<F;omega,by show F<=_;omega⟩
      ·obtain⟨ra9,rc9,r1,r2,r3⟩:=hrst4;refine⟨ra9,rc9,r1,r2.keep0 (fun ad e0 hl=> ?_),r3⟩;have hc6:=r3 ad e0 hl;have hlt6:ad.block<w1.heap.size:=by have:=H.out.lt ad.block (by omega);have:=HT.out;omega
       exact h84 _ (by omega) (fun e=>by rw[e]at hc6;omega) (fun e=>by rw[e]at hc6;omega) (fun e=>by have:=(hsto4 _ e).1;omega))
     rw[hw8];clear ho7 hg7 hat7 hb7 hw8 hbx7 p0 p1 p2 p3 p4 p5 p5' p6 p7 p8 p9 pa' pf q0 q1 q2;go_wp2_with (fail);go_roundw
     case rel=>exact⟨k+1,n+j,_,P3,d+dd,_,_,by omega,by go_num,HEN⟩
     case measure=>simp[intOf];omega
   ·obtain rfl:k=ps.length:=by omega
    go_wp2_with (fail);go_meet;exact⟨n,O,P',d,Z,sv',HL⟩
 case rest=>
  obtain⟨n,O,P',d,Z,sv',HL⟩:=hcut;obtain⟨ov,hov⟩:∃ov,ov=u6:=⟨_,rfl⟩;subst hov;obtain⟨w5,hw5⟩:∃w5,w5=wc:=⟨_,rfl⟩;subst hw5;have htk:=HL.out.toks;rw[List.take_of_length_le (Nat.le_refl _),<-HI.out.1,aCX]at htk;obtain⟨hS1,hbw,hy0,hy1,hy2⟩:=HY.out;obtain⟨b1,b2,b3,b4,b5,b6,b7,b8,b9,b10,b11,b12⟩:=HB.out;have hc0:=H.out.c0;have hww:=hbw.size;have hfr:∀q,q<w1.heap.size->(col q≠1/\col q≠2/\col q≠7/\q≠db)->w5.heap[q]?=w1.heap[q]? :=fun q h1 h2=>HL.out.kp.block q h1 (fun hz=>by unfold ZFo at hz;omega)
  obtain⟨eb,rb,hwin,hebc⟩:=H.out.win;have hw5:rD w5 base wb eb rb (plc V N st (W.drop bs)) bs st keep t Q:=hwin.stay (fun q hq=>by
   have h5:col q=5:=by
    rcases hq with h1 | rfl | rfl
    ·exact H.out.c5.2 q h1
    ·exact H.out.c5.1
    ·exact hebc
   have hq0:=H.out.lt q (by omega);exact(hfr q (by omega) ⟨by omega,by omega,by omega,by omega⟩).trans (hbw.block q hq0))
  have hz0:w5.heap[w.heap.size]?=some (.cells #[.int .i64 s.fin, .int .i64 s.toks, .int .i64 s.need] 111):=by
   have:=hc0 w.heap.size (Nat.le_refl _);exact(hfr _ (by omega) ⟨by omega,by omega,by omega,by omega⟩).trans hy0
  have hz1:w5.heap[w.heap.size+1]?=some (.cells #[.int .i64 0, .slice none 0 0] 44):=by
   have:=hc0 (w.heap.size+1) (by omega);exact(hfr _ (by omega) ⟨by omega,by omega,by omega,by omega⟩).trans hy1
  obtain⟨e0,e1,e2⟩:=bC hz0;obtain⟨c0,c1,c2,c3,c4,c5,c6,c7,c8,c9,ca,cf⟩:=B7 HL.out.box.box;obtain⟨oa,oc,hov,hsO⟩:=HL.out.own.sl;subst hov;have hWl:(W.drop bs).length=W.length-bs:=List.length_drop;have hq1:IntKind.i64.wrap ((s.toks:Int)-(bs:Int))=((s.toks-bs:Nat):Int):=by rw[IntKind.wrap_i64];omega
  have hXd:(W.drop bs).drop (s.toks-bs)=X:=by
   rw[List.drop_drop,show bs+(s.toks-bs)=s.toks by omega]
   conv=>lhs;rw[b6]
   exact List.drop_left' (by rw[List.length_take];omega)
  have hXl:W.length-bs-(s.toks-bs)=X.length:=by rw[<-hXd,List.length_drop,hWl]
  have HTK:Hid (∀W',Ge w5 W'->Calls Tryz.prog 117 #[.pointer (some ⟨wb,0,none⟩)] W' fun E w'=>∃va vc so2,E= .returned (.slice va (W.length-bs) vc)/\(∀W2,(Instr.sliceAt 34 (.slice va (W.length-bs) vc) (some (.int .i64 ((s.toks-bs:Nat):Int))) none none).run Tryz.prog W2= .ok (.slice so2 X.length (vc-(s.toks-bs))) W2)/\SlI w' so2 X.length (vc-(s.toks-bs)) X/\Below W'.heap.size W' w'):=hW_ (fun W' hW=>by
   refine(iT (hw5.b.below hW)).mono ?_
   rintro E w' ⟨v,rfl,ho,hb⟩;rw[aBZ]at ho;obtain⟨va,vc,rfl,hsl⟩:=ho.sl;rw[hWl]at hsl |-;obtain⟨so2,r1,r2,r3⟩:=eN (ao:=va) (n:=W.length-bs) (cap:=vc) (k:=s.toks-bs) (by omega) hi0 hzz;rw[hXl]at r1 r2;have:=r2 w' _ hsl;rw[hXd]at this;exact⟨va,vc,so2,rfl,r1,this,hb⟩)
  have HBS:Hid (∀W',Ge w5 W'->Calls Tryz.prog 118 #[.pointer (some ⟨wb,0,none⟩)] W' fun E w'=>E= .returned (.int .i64 bs)/\w'=W'):=hW_ (fun W' hW=>mX (hw5.b.below hW));have G2:=fun w' (hg:Ge w5 w')=>hg.at w5 w' c2
  have GE:=fun w' (hg:Ge w5 w')=>hg.at w5 w' e1
  have gr:=Ge.refl w5;have HR5:=hW_ (And.intro hfr (And.intro hw5 (And.intro hz0 (And.intro hz1 (And.intro hsO (And.intro hww (And.intro hc0 hebc)))))));have HPl:=hW_ (And.intro htk (And.intro hWl (And.intro hXd hXl)));clear hfr hwin hw5 hz0 hz1 hsO hww hc0 hebc htk hWl hXd hXl b1 b2 b3 b4 b5 b6 b7 b8 b9 b10 b11 b12 hS1 hbw hy0 hy1 hy2 c0 c1 c2 c3 c4 c5 c6 c7 c8 c9 ca cf e0 e1 e2;go_wp2_with (fail)
  go_region_held3 (Ge w5) (first | (with_reducible assumption) | (with_reducible refine Ge.drew ?_;with_reducible assumption) | (with_reducible refine Ge.drewN ?_ _;with_reducible assumption)) (first
   | (go_at_call 117;refine(HTK.out _ (by exact bA (Below.refl _ _) _)).mono ?_;rintro E w6 ⟨va,vc,so2,rfl,hsa,hX6,hb6⟩;have hg6:Ge w5 w6:=(bA (Below.refl _ _) _).trans hb6;have HX6:=hW_ hX6;clear hX6 hb6)
   | (go_at_call 118;refine(HBS.out _ hg6).mono ?_;rintro E w7 ⟨rfl,rfl⟩))
  have HG6:=hW_ hg6;have HO6:=hW_ (SlI.below HR5.out.2.2.2.2.1 hg6);clear G2 GE gr;go_wp2_with (fail);have hOl:O.length<=100000:=by
   have h1:=HL.out.le.1;have h2:=HL.out.nle;have h3:=HI.out.2.2.2.1;have h4:=HB.out.2.1;omega
  refine(aDX w7 HX6.out HO6.out (by omega)).mono ?_
  rintro E w8 ⟨vo,vc2,rfl,ho8,hb8⟩;obtain⟨hcX,hcO⟩:=mG X O;obtain⟨c,hc⟩:∃c,wA X O=c:=⟨_,rfl⟩;rw[hc]at ho8 hcX hcO |-;obtain⟨xl,hxl⟩:∃xl,X.length-c=xl:=⟨_,rfl⟩;obtain⟨ol,hol⟩:∃ol,O.length-c=ol:=⟨_,rfl⟩;rw[hxl,hol];rw[hol]at ho8;obtain⟨W9,hW9⟩:∃W9,w8.alloc (.cells #[.int .i64 xl, .slice vo ol vc2] 44)=W9:=⟨_,rfl⟩;have hg8:Below w5.heap.size w5 w8:=HG6.out.trans (hb8.mono HG6.out.size);have hg9:Below w5.heap.size w5 W9:=hW9▸hg8.alloc hg8.size _;have hx9:W9.heap[w8.heap.size]?=some (.cells #[.int .i64 xl, .slice vo ol vc2] 44):=by rw[<-hW9];exact heap_alloc_new w8 _
  have hs9:W9.heap.size=w8.heap.size+1:=by rw[<-hW9];simp
  have htb5:tb<w5.heap.size:=(Array.getElem?_eq_some_iff.1 HL.out.box.box).1;have hbx9:F4 W9 tb g pb wb st xo (A.length-st) tc sv' vv depth most f false:=⟨(hg9.block tb htb5).trans HL.out.box.box⟩;obtain⟨c0,c1,c2,c3,c4,c5,c6,c7,c8,c9,ca,cf⟩:=B7 hbx9.box;obtain⟨k0,k1⟩:=zH hx9;have k0':=k0;have k1':=k1;have c2':=c2;rw[<-hW9]at k0' k1' c2';have HRT:Hid (∀W',Ge W9 W'->Calls Tryz.prog 120 #[.pointer (some ⟨wb,0,none⟩), .int .i64 xl] W' fun E w'=>E= .returned (.int .i64 0)/\rD w' base wb eb rb (plc V N st ((W.take s.toks++O.take c).drop bs)) bs st keep t Q/\dA Q W9 w'):=hW_ (fun W' hW=>by
   obtain⟨b1,b2,b3,b4,b5,b6,b7,b8,b9,b10,b11,b12⟩:=HB.out;have hl5:(plc V N st (W.drop bs)).length=W.length-bs:=by rw[uF,List.length_drop]
   have hXl:X.length=W.length-s.toks:=by have:=congrArg List.length b6;rw[List.length_append,List.length_take]at this;omega
   refine(bR (n:=xl) ((HR5.out.2.1.below hg9).below hW) (by rw[hl5];omega) (by omega) (by omega)).mono ?_
   rintro E w' ⟨rfl,hw',hk'⟩;have e:(plc V N st (W.drop bs)).take ((plc V N st (W.drop bs)).length-xl)=plc V N st ((W.take s.toks++O.take c).drop bs):=by
    rw[dY,uF,<-hxl,view_cut b6 (by rw[List.length_take];omega) hc]
   rw[e]at hw';exact⟨rfl,hw',(dA.of_below hW).trans hk'⟩)
  have hQt:¬Q tb:=fun hq=>by have:=H.out.c5.2 tb hq;have:=H.out.c2;omega
  have hQe:¬Q w8.heap.size:=fun hq=>by
   have h5:=H.out.c5.2 _ hq;have h6:=H.out.lt w8.heap.size (by omega);have h7:=hg8.size;have h8:=HL.out.kp.size;have h9:=HR5.out.2.2.2.2.2.1;omega
  have G2:=fun w' (hg:dA Q W9 w')=>hg.cell c2 hQt
  have GK:=fun w' (hg:dA Q W9 w')=>hg.cell k0 hQe
  have gr:=dA.refl Q W9;have HQ:=hW_ (And.intro hQt hQe);clear hQt hQe;have H9:=hW_ (And.intro hg8 (And.intro hg9 (And.intro hx9 (And.intro hs9 (And.intro htb5 (And.intro hbx9 (And.intro ho8 (And.intro hcX (And.intro hcO (And.intro hxl (And.intro hol (And.intro hc (And.intro hOl hb8)))))))))))));have HW9:=hW_ hW9;clear hg8 hg9 hx9 hs9 htb5 hbx9 ho8 hcX hcO hxl hol hc hOl hb8 hW9 hg6 c0 c1 c2 c3 c4 c5 c6 c7 c8 c9 ca cf k0;go_wp2_with (fail);rw[HW9.out]
  go_region_held3 (dA Q W9) (first | (with_reducible assumption) | (with_reducible refine dA.drew ?_;with_reducible assumption) | (with_reducible refine dA.drewN ?_ _;with_reducible assumption)) ((go_at_call 120;refine(HRT.out _ (by exact bA (Below.refl _ _) _)).mono ?_;rintro E w10 ⟨rfl,hw10,hk10⟩;have HW10:=hW_ hw10;have HK10:=hW_ hk10;have hz10:dA Q W9 w10:=hk10;clear hw10 hk10))
  obtain⟨hg8,hg9,hx9,hs9,htb5,hbx9,ho8,hcX,hcO,hxl,hol,hc,hOl,hb8⟩:=H9.out;obtain⟨hQt,hQe⟩:=HQ.out;have hk10:=HK10.out;have hs10:=hk10.size;have hx10:w10.heap[w8.heap.size]?=some (.cells #[.int .i64 xl, .slice vo ol vc2] 44):=(hk10.block _ (by omega) hQe).trans hx9
  have hl8:=World.ownsRow.lt ho8;have hnq8:∀q,(Value.slice vo ol vc2).ownBlock=some q->w5.heap.size<=q/\q<w8.heap.size/\¬Q q:=fun q hq=>by
   obtain⟨l1,l2⟩:=hl8 q hq;have h9:=HG6.out.size;refine⟨by omega,l2,fun h=> ?_⟩;have h5:=H.out.c5.2 _ h;have h6:=H.out.lt q (by omega);have h8:=HL.out.kp.size;have h9:=HR5.out.2.2.2.2.2.1;omega
  have ho10:Own w10 w7.heap.size (.slice vo ol vc2) (O.drop c):=jA ho8 (fun q hq=>(hk10.block q (by have:=(hnq8 q hq).2.1;omega) (hnq8 q hq).2.2).trans (by rw[<-HW9.out];exact Below.heap_alloc _ _ _ (hnq8 q hq).2.1));have hbx10:F4 w10 tb g pb wb st xo (A.length-st) tc sv' vv depth most f false:=⟨(hk10.block tb (by have:=hg9.size;omega) hQt).trans hbx9.box⟩;have hcd10:Cdr w10 base g V N kind T room (cnt+d) P':=HL.out.cdr.stay (fun q hq=>by
   have h1:=(HL.out.cdr.lt q hq).2;refine(hk10.block q (by have:=hg9.size;omega) (fun hQ=> ?_)).trans (hg9.block q h1);have h5:=H.out.c5.2 _ hQ;rcases HL.out.sub q hq with h6 | h6
   ·have:=H.out.c1 q h6;omega
   ·have:=H.out.lt q (by omega);have h9:=HR5.out.2.2.2.2.2.1;omega) (by have:=hg9.size;omega)
  obtain⟨k0,k1⟩:=zH hx10;have HT10:=hW_ (And.intro hx10 (And.intro hnq8 (And.intro ho10 (And.intro hbx10 (And.intro hcd10 hs10)))));have hol2:ol<=100000:=by omega
  have hdO:(O.drop c).length=ol:=by rw[List.length_drop,hol]
  have HDO:=hW_ hdO;clear hg8 hg9 hx9 hs9 htb5 hbx9 ho8 hcX hcO hxl hol hc hOl hb8 hQt hQe hk10 hs10 hx10 hl8 hnq8 ho10 hbx10 hcd10 hz10 k0' k1' c2' hdO;go_wp2_with (fail);go_loopw [110] (fun i wr=>∃(k:Nat) (Q':Nat->Prop),k<=ol/\i= .int .i64 k/\Hid (rD wr base wb eb rb (plc V N st ((W.take s.toks++O.take (c+k)).drop bs)) bs st keep t Q')/\Hid (∀q,Q' q->Q q\/w10.heap.size<=q)/\Hid (dA Q w10 wr)) (fun i _=>ol-(intOf i).toNat)
  case atStart=>exact⟨0,Q,Nat.zero_le _,rfl,hW_ HW10.out,hW_ (fun q hq=> .inl hq),hW_ (dA.refl _ _)⟩
  case round=>
   obtain⟨k,Q',hk,rfl,HWr,HQr,HKr⟩:=hrel
   by_cases hlt:k<ol
   ·have hwr:=HWr.out;have hkr:=HKr.out;have hs0:=hkr.size;obtain⟨hx10,hnq8,ho10,hbx10,hcd10,hs10⟩:=HT10.out;have hs9:=H9.out.2.2.2.1;have hg9:=H9.out.2.1.size;have hor:Own wr w7.heap.size (.slice vo ol vc2) (O.drop c):=jA ho10 (fun q hq=>hkr.block q (by have:=(hnq8 q hq).2.1;omega) (hnq8 q hq).2.2);obtain⟨va9,vc9,hv9,hsl9⟩:=hor.sl;obtain⟨rfl,e9,rfl⟩:=Value.slice.inj hv9;rw[HDO.out]at hsl9;obtain⟨b,o',hao,hce⟩:=hsl9.at_ hlt;subst hao;obtain⟨y,hy⟩:∃y,ix (O.drop c) k=y:=⟨_,rfl⟩;rw[hy]at hce;have hyk:O[c+k]?=some y:=by rw[<-List.getElem?_drop,gF (by rw[HDO.out];exact hlt),hy]
    obtain⟨m1,m2,m3,m4,m5⟩:=HM.out;have hdec:wB V N O=(R,0):=by rw[HPl.out.1];exact dec_text m1 m2 m4 HI.out.2.1
    have hy0:(mB V N y).2=0:=mS (W:=O) (by rw[hdec]) y (List.mem_of_getElem? hyk);have hy1:=xX (V:=V) (N:=N) m1.1.2.1 hy0;have hsO:pC V N O=R.length:=by rw[<-oG (by rw[hdec]),hdec]
    obtain⟨r,hr⟩:∃r,(mB V N y).1=r:=⟨_,rfl⟩;have hrl:sO V N y=r.length:=by unfold sO;rw[hr]
    rw[hrl]at hy1;have hcdr:Cdr wr base g V N kind T room (cnt+d) P':=hcd10.stay (fun q hq=>by
     have h1:=(hcd10.lt q hq).2;refine hkr.block q h1 (fun hQ=> ?_);have h5:=H.out.c5.2 _ hQ;rcases HL.out.sub q hq with h6 | h6
     ·have:=H.out.c1 q h6;omega
     ·have:=H.out.lt q (by omega);have h9:=HR5.out.2.2.2.2.2.1;omega) hs0
    obtain⟨cb9,hcod⟩:=hcdr.cod;have hsy:=lT y wr hcod m1.1.2.1 m2;unfold aCK at hsy;rw[hy0,hr]at hsy;have HSY:=hW_ hsy;have HPU:Hid (∀W',Below wr.heap.size wr W'->Calls Tryz.prog 122 #[.pointer (some ⟨wb,0,none⟩), .int .i64 y, .int .i64 r.length] W' fun E w'=>E= .returned (.int .i64 0)/\∃Q2,rD w' base wb eb rb (plc V N st ((W.take s.toks++O.take (c+(k+1))).drop bs)) bs st keep t Q2/\(∀q,Q2 q->Q' q\/wr.heap.size<=q)/\dA Q' wr w'):=hW_ (fun W' hW=>by
     obtain⟨b1,b2,b3,b4,b5,b6,b7,b8,b9,b10,b11,b12⟩:=HB.out;have htv:=tot_view (V:=V) (N:=N) (Y:=O) (j:=c+k) b11 b12 (show bs<=s.toks by omega) b7.1;have hsl:=V1 (V:=V) (N:=N) (W:=O) (i:=c+k) (j:=O.length) (by have:=(List.getElem?_eq_some_iff.1 hyk).1;omega);rw[List.take_length,hsO]at hsl;have hRl:=HI.out.2.2.2.1;have hOl:O.length<=100000:=by have h1:=HL.out.le.1;have h2:=HL.out.nle;omega
     refine(kX y (r.length:Int) (hwr.below hW) (by omega) (by rw[uF,List.length_drop,List.length_append,List.length_take,List.length_take];omega) (by rw[htv];omega)).mono ?_
     rintro E w' ⟨rfl,Q2,h1,h2,h3⟩;have e:plc V N st ((W.take s.toks++O.take (c+k)).drop bs)++ [(y,tI (plc V N st ((W.take s.toks++O.take (c+k)).drop bs)) st+(r.length:Int))]=plc V N st ((W.take s.toks++O.take (c+(k+1))).drop bs):=by
      rw[<-hrl,plc_push,<-Nat.add_assoc,aCR (by rw[List.length_take];omega) hyk]
     rw[e]at h1;exact⟨rfl,Q2,h1,fun q hq=>(h2 q hq).imp id (fun h=>Nat.le_trans hW.size h),(dA.of_below hW).trans h3⟩)
    have hbxr:F4 wr tb g pb wb st xo (A.length-st) tc sv' vv depth most f false:=⟨(hkr.block tb (by have:=H9.out.2.2.2.2.1;omega) HQ.out.1).trans hbx10.box⟩;obtain⟨c0,c1,c2,c3,c4,c5,c6,c7,c8,c9,ca,cf⟩:=B7 hbxr.box;have gk:(k:Int)<(ol:Int):=by omega
    clear hwr hkr hs0 hx10 hnq8 ho10 hbx10 hcd10 hs10 hs9 hg9 hor hv9 e9 hsl9 hy hyk m1 m2 m3 m4 m5 hdec hy0 hy1 hsO hr hrl hcdr hcod hsy hbxr k0 k1 c1 c3 c4 c5 c6 c7 c8 c9 ca cf;go_wp2_with (first
     | (go_at_call 121;refine HSY.out.mono ?_;rintro E w11 ⟨⟨v11,rfl,ho⟩,hb⟩;obtain⟨ra9,rc9,rfl,-⟩:=ho.sl;have c2':=eA hb _ _ c2;have HB11:=hW_ hb;clear ho hb)
     | (go_at_call 122;refine(HPU.out _ HB11.out).mono ?_;rintro E w12 ⟨rfl,Q2,hw,hq,hk⟩;have HW12:=hW_ hw;have HQ12:=hW_ hq;have HK12:=hW_ hk;clear hw hq hk))
    go_roundw
    case rel=>exact⟨k+1,Q2,by omega,by go_num,HW12,hW_ (fun q hq=>by
     rcases HQ12.out q hq with h1 | h1
     ·exact HQr.out q h1
     ·exact .inr (Nat.le_trans HKr.out.size h1)),hW_ (((HKr.out.mono (T:=fun q=>Q q\/w10.heap.size<=q) (fun q _ h=> .inl h)).trans (HK12.out.mono (T:=fun q=>Q q\/w10.heap.size<=q) (fun q _ hq=>HQr.out q hq))).mono (fun q hlt hq=>hq.elim id (fun h=>by omega)))⟩
    case measure=>simp[intOf];omega
   ·obtain rfl:k=ol:=by omega
    have hwr:=HWr.out;have hkr:=HKr.out;have hs0:=hkr.size;obtain⟨hx10,hnq8,ho10,hbx10,hcd10,hs10⟩:=HT10.out;obtain⟨hQt,hQe⟩:=HQ.out;have hs9:=H9.out.2.2.2.1;have hg9:=H9.out.2.1;have hx9r:=(hkr.block w8.heap.size (by omega) hQe).trans hx10;have hww:=HR5.out.2.2.2.2.2.1;have hsz5:=HL.out.kp.size;have hg9s:=hg9.size;have hQc:¬Q (w.heap.size+1):=fun hq=>by
     have h5:=H.out.c5.2 _ hq;have:=H.out.lt _ (by rw[h5];omega);omega
    have hxc:wr.heap[w.heap.size+1]?=some (.cells #[.int .i64 0, .slice none 0 0] 44):=
     (hkr.block _ (by have:=HY.out.1;omega) hQc).trans ((HK10.out.block _ (by have:=HY.out.1;omega) hQc).trans ((hg9.block _ (by have:=HY.out.1;omega)).trans HR5.out.2.2.2.1))
    obtain⟨k0,k1⟩:=zH hx9r;obtain⟨n0,n1⟩:=zH hxc;have nf:∀o,wr.frozen? ⟨w.heap.size+1,o,none⟩=false:=fun o=>by simp[World.frozen?,hxc]
    have HE:=hW_ (And.intro hwr (And.intro hkr (And.intro hs0 (And.intro hg9 (And.intro hww (And.intro hsz5 (And.intro hg9s hQc)))))));have hlt2:¬(k:Int)<(k:Int):=by omega
    clear hwr hkr hs0 hx10 hnq8 ho10 hbx10 hcd10 hs10 hQt hQe hs9 hg9 hx9r hww hsz5 hg9s hQc hxc;go_wp2_with (fail);refine bodyPost_ret (v:=edV xl (.slice vo k vc2)) ?_ rfl ?_
    ·simp[results,Tryz.results82,go_sem,n0,n1]
    obtain⟨wF,hwF⟩:∃wF,(wr.setCell ⟨w.heap.size+1,0,none⟩ (.int .i64 xl)).setCell ⟨w.heap.size+1,1,none⟩ (.slice vo k vc2)=wF:=⟨_,rfl⟩;rw[hwF];obtain⟨hwr,hkr,hs0,hg9,hww,hsz5,hg9s,hQc⟩:=HE.out;obtain⟨hx10,hnq8,ho10,hbx10,hcd10,hs10⟩:=HT10.out;obtain⟨hQt,hQe⟩:=HQ.out;obtain⟨hbx,htx,hto,hst0,hso,hsv,hvo⟩:=HA.out;obtain⟨hS1,hbw,hy0,hy1,hy2⟩:=HY.out;have hfr:=HR5.out.1;have hebc:=HR5.out.2.2.2.2.2.2.2;have hs9:=H9.out.2.2.2.1;have hg8:=H9.out.1.size;have hb8:=H9.out.2.2.2.2.2.2.2.2.2.2.2.2.2.size;have hg6:=HG6.out.size;have hc0:=H.out.c0;have hlt:=H.out.lt;have hF:∀q,q≠w.heap.size+1->wF.heap[q]?=wr.heap[q]? :=fun q hq=>by rw[<-hwF,cA hq,cA hq]
    have hFs:wF.heap.size=wr.heap.size:=by rw[<-hwF];simp
    have hQn:∀q,Q q->col q=5/\q<w.heap.size:=fun q hq=>by
     have h5:=H.out.c5.2 q hq;exact⟨h5,hlt q (by omega)⟩
    have hPn:∀q,P' q->(col q=1/\q<w.heap.size)\/w1.heap.size<=q:=fun q hq=>(HL.out.sub q hq).imp (fun h=>⟨H.out.c1 q h,hlt q (by rw[H.out.c1 q h];omega)⟩) id
    have hPl:∀q,P' q->q<w5.heap.size:=fun q hq=>(HL.out.cdr.lt q hq).2
    have hSl:∀q,sv'.ownBlock=some q->q<w5.heap.size:=fun q hq=>(World.ownsRow.lt HL.out.st q hq).2
    have hSn:∀q,sv'.ownBlock=some q->(col q=7/\q<w.heap.size)\/w1.heap.size<=q:=fun q hq=>(HL.out.sto q hq).1.imp (fun h=>⟨h,hlt q (by omega)⟩) id
    have hkeep:∀q,q<w.heap.size->(col q≠1/\col q≠2/\col q≠5/\col q≠7)->wF.heap[q]?=w.heap[q]? :=fun q h1 h2=>by
     have hnQ:¬Q q:=fun hq=>h2.2.2.1 (hQn q hq).1
     exact(hF q (by omega)).trans ((hkr.block q (by omega) hnQ).trans ((HK10.out.block q (by omega) hnQ).trans ((hg9.block q (by omega)).trans ((hfr q (by omega) ⟨h2.1,h2.2.1,h2.2.2.2,by omega⟩).trans (hbw.block q h1)))))
    have hlate:∀q,q<w5.heap.size->¬Q q->q≠w.heap.size+1->wF.heap[q]?=w5.heap[q]? :=fun q h1 h2 h3=>(hF q h3).trans ((hkr.block q (by omega) h2).trans ((HK10.out.block q (by omega) h2).trans (hg9.block q h1)))
    have Clo:∀q,q<w.heap.size->gP col w.heap.size P' (fun q=>Q' q/\q<wr.heap.size) sv'.ownBlock q=col q:=fun q hq=>by unfold gP;rw[if_pos hq]
    have C1:∀q,P' q->gP col w.heap.size P' (fun q=>Q' q/\q<wr.heap.size) sv'.ownBlock q=1:=fun q hq=>by
     rcases hPn q hq with h | h
     ·rw[Clo q h.2];exact h.1
     ·unfold gP;rw[if_neg (by omega),if_pos hq]
    have C7:∀q,sv'.ownBlock=some q->gP col w.heap.size P' (fun q=>Q' q/\q<wr.heap.size) sv'.ownBlock q=7:=fun q hq=>by
     rcases hSn q hq with h | h
     ·rw[Clo q h.2];exact h.1
     ·unfold gP;rw[if_neg (by omega),if_neg (HL.out.sto q hq).2.1,if_pos hq]
    have C5:∀q,(Q' q/\q<wr.heap.size)->gP col w.heap.size P' (fun q=>Q' q/\q<wr.heap.size) sv'.ownBlock q=5:=fun q hq=>by
     rcases HQr.out q hq.1 with h | h
     ·rw[Clo q (hQn q h).2];exact(hQn q h).1
     ·unfold gP;rw[if_neg (by omega),if_neg (fun h2=>by have:=hPl q h2;omega),if_neg (fun h2=>by have:=hSl q h2;omega),if_pos hq]
    have C0:∀q,wF.heap.size<=q->gP col w.heap.size P' (fun q=>Q' q/\q<wr.heap.size) sv'.ownBlock q=0:=fun q hq=>by
     unfold gP;rw[if_neg (by omega),if_neg (fun h2=>by have:=hPl q h2;omega),if_neg (fun h2=>by have:=hSl q h2;omega),if_neg (fun h2=>by have:=h2.2;omega)]
    have CV:∀q,(Value.slice vo k vc2).ownBlock=some q->gP col w.heap.size P' (fun q=>Q' q/\q<wr.heap.size) sv'.ownBlock q=0:=fun q hq=>by
     obtain⟨v1,v2,v3⟩:=hnq8 q hq;unfold gP;rw[if_neg (by omega),if_neg (fun h2=>by have:=hPl q h2;omega),if_neg (fun h2=>by have:=hSl q h2;omega),if_neg (fun h2=>by
      rcases HQr.out q h2.1 with h | h
      ·exact v3 h
      ·omega)]
    have hnqc:∀q,P' q->¬Q q:=fun q h1 h2=>by
     obtain⟨q1,q2⟩:=hQn q h2;rcases hPn q h1 with h | h<;>omega
    have eY:B5 V N kind T (A.drop s.fin)=O:=by rw[HI.out.2.2.2.2,<-HPl.out.1]
    obtain⟨hcX,hcO,hxl,hol,hc,hOl,-⟩:=H9.out.2.2.2.2.2.2.2;have hwf:=hwr.cut;rw[List.take_of_length_le (show O.length<=c+k by omega)]at hwf;unfold aCN;rw[eY,hc];refine⟨.slice vo k vc2,P',fun q=>Q' q/\q<wr.heap.size,gP col w.heap.size P' (fun q=>Q' q/\q<wr.heap.size) sv'.ownBlock,d,Z,by rw[hxl],?_,?_,⟨HL.out.le.2.2.1,?_⟩,⟨HL.out.stp.1,fun x hx=>⟨(HL.out.stp.2 x hx).1,(HL.out.stp.2 x hx).2.1⟩⟩,Clo,CV,?_⟩
    ·refine Own.mono (jA ho10 (fun q hq=> ?_)) (by omega);obtain⟨v1,v2,v3⟩:=hnq8 q hq;exact(hF q (by omega)).trans (hkr.block q (by omega) v3)
    ·obtain⟨po,hp,hpo⟩:=H.out.pt;have h3:=H.out.c3;have h2:=H.out.c2;have hwb:=H.out.c5.1;have htbl:=H.out.blt;refine⟨HL.out.cdr.stay (fun q hq=>hlate q (hPl q hq) (hnqc q hq) (by rcases hPn q hq with h | h<;>omega)) (by omega),⟨po,hp.stay (hkeep pb (hlt pb (by omega)) (by omega)) (fun ad e h0=>by have h4:=hpo ad e h0;exact hkeep _ (hlt _ (by omega)) (by omega)),fun ad e h0=>by have h4:=hpo ad e h0;rw[Clo _ (hlt _ (by omega))];exact h4⟩,⟨eb,rb,hwf.stay (fun q hq=>hF q ?_),by rw[Clo _ (hlt _ (by omega))];exact hebc⟩,
      ⟨xo,tc,sv',vv,⟨(hlate tb (by omega) hQt (by omega)).trans HL.out.box.box⟩,htx.keep0 (fun ad e h0=>by have h4:=hto ad e h0;exact hkeep _ (hlt _ (by omega)) (by omega)),fun ad e h0=>by have h4:=hto ad e h0;rw[Clo _ (hlt _ (by omega))];exact h4,
       jA HL.out.st (fun q hq=>hlate q (hSl q hq) (fun h=>by obtain⟨q1,q2⟩:=hQn q h;rcases hSn q hq with h5 | h5<;>omega) (by rcases hSn q hq with h5 | h5<;>omega)),C7,jA hsv (fun q hq=>by have h8:=hvo q hq;exact hkeep q (hlt q (by omega)) (by omega)),fun q hq=>by have h8:=hvo q hq;rw[Clo _ (hlt _ (by omega))];exact h8⟩,
      C1,by rw[Clo _ htbl];exact h2,by rw[Clo _ (hlt _ (by omega))];exact h3,⟨by rw[Clo _ (hlt _ (by omega))];exact hwb,C5⟩,C0⟩
     rcases hq with hq | rfl | rfl
     ·rcases HQr.out q hq.1 with h | h
      ·have:=(hQn q h).2;omega
      ·omega
     ·have:=hlt q (by omega);omega
     ·have:=hlt q (by omega);omega
    ·have h1:=HL.out.le.2.1;have h2:=HL.out.nle;have h3:=HI.out.2.2.2.1;omega
    ·have K1:dA (fun q=>(col q=1\/col q=2\/col q=5\/col q=7)\/w.heap.size<=q) w wF:=by
      rw[<-hwF];refine(((((((dA.of_below hbw).trans (HL.out.kp.mono (fun q _ hz=> ?_))).trans (dA.of_below hg9)).trans (HK10.out.mono (fun q _ hq=> .inl (.inr (.inr (.inl (hQn q hq).1)))))).trans (hkr.mono (fun q _ hq=> .inl (.inr (.inr (.inl (hQn q hq).1)))))).set (.inr (Nat.le_succ _)) _).set (.inr (Nat.le_succ _)) _);unfold ZFo at hz;omega
     exact K1.mono (fun q hl hq=>hq.resolve_right (by omega))
end Go.Proofs.YtahiballegpbgaaGreatDoor
