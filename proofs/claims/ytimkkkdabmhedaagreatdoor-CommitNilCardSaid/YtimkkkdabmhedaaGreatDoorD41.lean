/- Walks: a point of a growing text: takes. -/
import Derived.Test.YtimkkkdabmhedaaGreatDoorD40
import Derived.Test.YtimkkkdabmhedaaGreatDoorD36
import Derived.Deep.CutBlock
import Derived.Test.YtimkkkdabmhedaaGreatDoorD1
import Derived.Test.YtimkkkdabmhedaaGreatDoorD39
import Derived.Test.YtimkkkdabmhedaaGreatDoorD38
import Derived.Test.YtimkkkdabmhedaaGreatDoorD37
set_option linter.unusedVariables false
set_option maxHeartbeats 4000000
set_option maxRecDepth 100000
namespace Go.Proofs.YtimkkkdabmhedaaGreatDoor
open Go.RowKit
theorem step_ints_lies {w:World} {ops:Array Oper} {o:Oper} {a:Act} {K:Act→World→Prop} {Q:Exit→Act→World→Prop} {E:Prop} (hgd:o.guard=none) (s x:Operand)
  (ho:o.op= .call {callee:= .builtin .append,args:=#[s,x],argTypes:=#[43,43]})
  {base b m c k:Nat} {v:Value} {A R:List Int} (hs:a.eval s=v) (hown:Own w base v A) (hk:A.length=k) (hx:a.eval x= .slice (some ⟨b,0,none⟩) m c)
  (hl:SlI w (some ⟨b,0,none⟩) m c R) (hm0:0<m) (hm:k+m<1048576) (hbase:base≤w.heap.size)
  (hK:∀g cap' w',Own w' base (.slice (some ⟨g,0,none⟩) (k+m) cap') (A++R)→w.grownBy w' v.ownBlock→(v.ownBlock=some g∨g=w.heap.size)→K (a.put o.dst (.slice (some ⟨g,0,none⟩) (k+m) cap')) w'):
  if Region.wanted o (yielded ops a.tmps)=true then Oper.wp Tryz.prog o a w K Q else E:=by
 obtain⟨i0,hi0,hz0,hz1,hz2⟩:=info_parts infoInt3
 subst hk
 have hRl:=hl.len
 refine step_append_lies (P:=Tryz.prog) (w:=w) hgd s x 43 ho base 3 i0 _ 1 8 Tryz.underlying43 hi0 hz0 hz1 hz2 rfl (by omega) _ A.length _ hs hown ⟨b,0,none⟩ m c (R.map (.int .i64)) hx (by rw[List.length_map];omega)
  (fun j u hu=> ?_) (int_one R) hm0 (by unfold maxLen;omega) (by omega) hbase w.heap.size rfl ?_
 ·obtain⟨b',o',e,hc⟩:=Sl.at_ hl j u hu
  simp only[Option.some.injEq,Addr.mk.injEq,and_true]at e
  obtain⟨rfl,rfl⟩:=e
  rw[Addr.add_lit];exact hc
 ·intro g cap' w' ho' hgr hat hlt
  refine hK g cap' w' ?_ hgr hat
  unfold Own
  rw[List.length_append,List.map_append,hRl]
  exact ho'
theorem run_sliceI {ao:Option Addr} {n cap k m:Nat} {K M:Int} (hK:K=(k:Int)) (hM:M=(m:Int)) (hk:k≤m) (hm:m≤n) (hn:n≤cap) {i0:TypeInfo} (hi:Tryz.prog.info? 3=some i0) (h1:i0.size=1):
  ∃so,(∀W,(Instr.sliceAt 43 (.slice ao n cap) (some (.int .i64 K)) (some (.int .i64 M)) none).run Tryz.prog W= .ok (.slice so (m-k) (cap-k)) W)∧
   (∀W A,SlI W ao n cap A→SlI W so (m-k) (cap-k) ((A.drop k).take (m-k))):=by
 subst hK hM
 refine⟨if cap=k then ao else ao.map (·.add k),fun W=> ?_,fun W A h=> ?_⟩
 ·have:=run_sliceAt_lh Tryz.underlying43 hi W ao n cap (some (.int .i64 k)) (some (.int .i64 m)) k m (fun w=>by simp[Instr.sliceBounds,run_sliceBound,Nat.le_trans hm hn,hk])
  rw[h1,Nat.mul_one]at this
  exact this
 ·rw[←List.drop_take]
  exact(h.take hm).drop hk
def PtR (w:World) (pb g:Nat) (o:Option Addr) (R:List Int) (a t:Int) (e:Bool):Prop:=
 ∃c,w.heap[pb]?=some (.cells #[.pointer (some ⟨g,0,none⟩), .slice o R.length c, .int .i64 a, .int .i64 t, .bool e] 110)∧SlI w o R.length c R
theorem PtR.stay {w w':World} {pb g:Nat} {o:Option Addr} {R:List Int} {a t:Int} {e:Bool} (h:PtR w pb g o R a t e) (h1:w'.heap[pb]?=w.heap[pb]?) (h2:∀ad,o=some ad→0<R.length→w'.heap[ad.block]?=w.heap[ad.block]?):PtR w' pb g o R a t e:=by
 obtain⟨c,hx,hs⟩:=h
 exact⟨c,h1.trans hx,hs.keep0 h2⟩
theorem PtR.lt {w:World} {pb g:Nat} {o:Option Addr} {R:List Int} {a t:Int} {e:Bool} (h:PtR w pb g o R a t e):pb<w.heap.size:=by
 obtain⟨c,hx,hs⟩:=h
 exact(Array.getElem?_eq_some_iff.1 hx).1
theorem PtR.olt {w:World} {pb g:Nat} {o:Option Addr} {R:List Int} {a t:Int} {e:Bool} (h:PtR w pb g o R a t e):∀ad,o=some ad→0<R.length→ad.block<w.heap.size:=fun ad e h0=>by
 obtain⟨c,hx,hs⟩:=h
 obtain⟨b,o',hao,hc⟩:=hs.at_ h0
 obtain rfl:ad=⟨b,o',none⟩:=Option.some.inj (e.symm.trans hao)
 exact World.block_lt_of_cell? w _ hc
def TkQ (w:World) (base pb g:Nat) (V:Vc) (N:List ByteArray) (kind:Int) (T:List Rg) (room cnt:Int) (P:Nat→Prop) (R:List Int) (a t:Int) (e:Bool) (E:Ending) (w':World):Prop:=
 ∃v o' P',E= .returned v∧Own w' w.heap.size v (comT V N kind T R e)∧Cdr w' base g V N kind T room (cnt+comB kind T R e) P'∧
  PtR w' pb g o' (R.drop (comN kind T R e)) (a+comN kind T R e) (t+(comT V N kind T R e).length) e∧(∀q,P' q→P q∨w.heap.size≤q)∧
  (∀ad,o'=some ad→0<(R.drop (comN kind T R e)).length→w.heap.size≤ad.block∧¬P' ad.block)∧(∀q,v.ownBlock=some q→¬P' q)∧Keeps (fun q=>P q∨q=pb) w w'
structure TkL (V:Vc) (N:List ByteArray) (ps:List (Int×Bool)) (w1 wr:World) (base g:Nat) (kind:Int) (T:List Rg) (room cnt:Int) (P:Nat→Prop) (R X:List Int) (D:Int) (M k:Nat) (O:List Int) (n:Nat) (P':Nat→Prop) (d:Int) (o:Value):Prop where
 own:Own wr w1.heap.size o O
 cdr:Cdr wr base g V N kind T room (cnt+d) P'
 sub:∀q,P' q→P q∨w1.heap.size≤q
 fresh:∀q,o.ownBlock=some q→¬P' q
 kp:Keeps (fun q=>P q∨w1.heap.size≤q) w1 wr
 nle:n≤R.length
 ok:PcsOk (ps.drop k) (R.drop n)
 tot:O++piecesT V N (decd (ps.drop k)) (R.drop n)=X
 by_:d+byN (decd (ps.drop k)) (R.drop n)=D
 sum:n+sumP (decd (ps.drop k))=M
 le:O.length≤n∧d≤n∧0≤d
theorem heap_set3p (w:World) (g i j k:Nat) (x y z:Value) {q:Nat} (h:q≠g):(((w.setCell ⟨g,i,none⟩ x).setCell ⟨g,j,none⟩ y).setCell ⟨g,k,none⟩ z).heap[q]?=w.heap[q]? :=by
 rw[heap_set_other h,heap_set_other h,heap_set_other h]
theorem pt_set {w:World} {g:Nat} {x0 x1 x2 x3 x4 y1 y2 y3:Value} {t:TypeId} (h:w.heap[g]?=some (.cells #[x0,x1,x2,x3,x4] t)):
  (((w.setCell ⟨g,1,none⟩ y1).setCell ⟨g,2,none⟩ y2).setCell ⟨g,3,none⟩ y3).heap[g]?=some (.cells #[x0,y1,y2,y3,x4] t):=
 set_cellN (i:=3) (v:=y3) (set_cellN (i:=2) (v:=y2) (set_cellN (i:=1) (v:=y1) h))
def ZT (P:Nat→Prop) (o:Value) (q:Nat):Prop:=P q∨o.ownBlock=some q
structure TkE (V:Vc) (N:List ByteArray) (w1 wr:World) (base g:Nat) (kind:Int) (T:List Rg) (room cnt:Int) (P:Nat→Prop) (X:List Int) (D:Int) (P':Nat→Prop) (o:Value):Prop where
 own:Own wr w1.heap.size o X
 cdr:Cdr wr base g V N kind T room (cnt+D) P'
 sub:∀q,P' q→P q∨w1.heap.size≤q
 fresh:∀q,o.ownBlock=some q→¬P' q
 kp:Keeps (fun q=>P q∨w1.heap.size≤q) w1 wr
theorem ints_len {V:Vc} {N:List ByteArray}:∀{ps:List (Int×Bool)} {A:List Int},PcsOk ps A→checkF V N A=0→(piecesT V N (decd ps) A).length≤A.length
 | [],A,_,_=>Nat.zero_le _
 | p::ps,A,h,hc=>by
  cases hp:p.2 with
  | false=>rw[decd_no hp];exact Nat.zero_le _
  | true=>
   rw[decd_yes hp]
   simp only[piecesT,List.length_append]
   have h1:=ints_len h.2.2.2 (checkF_take hc p.1.toNat).2
   have h2:=(pieceF_len (checkF_take hc p.1.toNat).1 h.2.2.1).2
   rw[List.length_drop]at h1
   rw[List.length_take]at h2
   have:=h.2.1
   omega
theorem takes_calls {P:Nat→Prop} {V:Vc} {N:List ByteArray} {kind:Int} {T:List Rg} {base pb g:Nat} {room:Int} {cnt a t:Int} {R:List Int} {o:Option Addr} {e:Bool} (w:World) (h:Cdr w base g V N kind T room cnt P) (hM:May V) (hN:N.length≤16) (hT:MayTab T) (hk0:0≤kind) (hk3:kind≤3) (hr:room≤1048576)
  (hp:PtR w pb g o R a t e) (hpb:¬P pb) (hO:∀ad,o=some ad→0<R.length→¬P ad.block∧ad.block≠pb) (hn:R.length≤100000) (hcnt:cnt+R.length<1000000) (hc:checkF V N R=0) (ha:0≤a∧a≤1000000) (ht:0≤t∧t≤1000000):
  Calls Tryz.prog 67 #[.pointer (some ⟨pb,0,none⟩)] w (TkQ w base pb g V N kind T room cnt P R a t e):=by
 have hplt:=hp.lt
 have holt:=hp.olt
 obtain⟨c,hx,hA⟩:=hp
 obtain⟨ps,hps⟩:∃ps,splitF kind T R e=ps:=⟨_,rfl⟩
 have hok:PcsOk ps R:=hps▸split_ok hT hc
 obtain⟨cb,hcod⟩:=h.cod
 have hSp:∀W,Ge w W→Calls Tryz.prog 18 #[.pointer (some ⟨g,0,none⟩), .slice o R.length c, .bool e] W fun E w'=>(∃v,E= .returned v∧OwnF pcEnc 2 51 w' w.heap.size v ps)∧Below w.heap.size w w':=fun W hW=>by
  have h9:=tsplit_calls e W (hcod.below hW) (hA.below hW) (by omega) hT hk0 hk3
  rw[hps]at h9
  refine h9.mono ?_
  rintro E w' ⟨⟨v,rfl,h1⟩,h2⟩
  exact⟨⟨v,rfl,OwnF.mono h1 hW.size⟩,hW.below h2⟩
 unfold TkQ comT comB comN
 rw[hps]
 obtain⟨X,hX⟩:∃X,piecesT V N (decd ps) R=X:=⟨_,rfl⟩
 obtain⟨D,hD⟩:∃D,byN (decd ps) R=D:=⟨_,rfl⟩
 obtain⟨M,hMM⟩:∃M,sumP (decd ps)=M:=⟨_,rfl⟩
 have hMl:=hok.decd_le
 rw[hMM]at hMl
 rw[hX,hD,hMM]
 have hps1:ps.length≤100000:=by have:=hok.len;omega
 have HSP:=Lib.hid hSp
 have HV:=Lib.hid h
 have HA:=Lib.hid hA
 have hA0:=Lib.hid (Sl.le hA)
 have HMY:=Lib.hid hM
 have HI:=Lib.hid (And.intro hok (And.intro hc (And.intro hX (And.intro hD hMM))))
 have HCN:=Lib.hid hcnt
 have HO:=Lib.hid (fun ad e1 h0=>And.intro (holt ad e1 h0) (hO ad e1 h0))
 have HX:=Lib.hid hx
 have HPB:=Lib.hid (And.intro hplt hpb)
 obtain⟨c0,c1,c2,c3,c4,cf⟩:=box5 hx
 clear h hA hO hc hps hSp hM hok hX hD hMM hcod hcnt hx holt hplt hpb
 obtain⟨i0,hi0,hz0,hz1,hz2⟩:=info_parts infoInt3
 go_enter Tryz.func67,Tryz.ntmps67
 go_wp2_with (fail)
 have G0:=fun w' (hg:Ge w w')=>hg.at w w' c0
 have G1:=fun w' (hg:Ge w w')=>hg.at w w' c1
 have G4:=fun w' (hg:Ge w w')=>hg.at w w' c4
 have gr:=Ge.refl w
 clear c0 c1 c2 c3 c4 cf
 go_region_held3 (Ge w) (first | (with_reducible assumption) | (with_reducible refine Ge.drew ?_;with_reducible assumption) | (with_reducible refine Ge.drewN ?_ _;with_reducible assumption)) ((go_at_call 18;refine(HSP.out _ (by exact below_drewN (Below.refl _ _) _)).mono ?_;rintro E w1 ⟨⟨pv,rfl,ho⟩,hb1⟩;obtain⟨pa,pc',rfl,hps⟩:=ho.sl;have HO1:=Lib.hid ho;have HB1:=Lib.hid hb1;have HPS:=Lib.hid hps;have hg1:Ge w w1:=hb1;clear ho hps hb1))
 have HPL:Hid (0<ps.length→∀ad,pa=some ad→ad.block<w1.heap.size∧w.heap.size≤ad.block):=Lib.hid (fun hl ad e=>by
  obtain⟨pb,pc,hpv,hpb,hpl⟩:=OwnF.at0 HO1.out hl
  obtain⟨rfl,-,rfl⟩:=Value.slice.inj hpv
  obtain rfl:(⟨pb,0,none⟩:Addr)=ad:=Option.some.inj e
  exact⟨hpl,hpb⟩)
 clear HO1 G0 G1 G4 gr
 have HPW:=Lib.hid (fun q (hq:P q)=>(HV.out.lt q hq).2)
 have HX1:=Lib.hid ((HB1.out.block pb HPB.out.1).trans HX.out)
 go_upto_block 0 with(fail)
 go_cut [3,4] from 5 to 49 (fun s3 s4 wx=>∃P',s4= .int .i64 (M:Int)∧Hid (TkE V N w1 wx base g kind T room cnt P X D P' s3))
 case first=>
  go_wp2_with (fail)
  go_loopw [3,4,21] (fun o nv i wr=>∃(k n:Nat) (O:List Int) (P':Nat→Prop) (d:Int),k≤ps.length∧i= .int .i64 k∧nv= .int .i64 n∧Hid (TkL V N ps w1 wr base g kind T room cnt P R X D M k O n P' d o)) (fun _ _ i _=>ps.length-(intOf i).toNat)
  case atStart=>exact⟨0,0,[],P,0,Nat.zero_le _,rfl,rfl,Lib.hid ⟨Own.nil _ _,by rw[Int.add_zero];exact HV.out.below HB1.out,fun q hq=> .inl hq,fun q hq=>(by cases hq),Keeps.refl _ _,Nat.zero_le _,HI.out.1,by rw[List.nil_append];exact HI.out.2.2.1,by rw[Int.zero_add];exact HI.out.2.2.2.1,by rw[Nat.zero_add];exact HI.out.2.2.2.2,by simp⟩⟩
  case round=>
   obtain⟨k,n,O,P',d,hk,rfl,rfl,HL⟩:=hrel
   obtain⟨ov,hov⟩:∃ov,ov=u3:=⟨_,rfl⟩
   subst hov
   by_cases hlt:k<ps.length
   ·obtain⟨⟨pn,pd⟩,hp⟩:∃x,ps[k]=x:=⟨_,rfl⟩
    have hdr:ps.drop k=(pn,pd)::ps.drop (k+1):=by rw[List.drop_eq_getElem_cons hlt,hp]
    have hok:=HL.out.ok
    rw[hdr]at hok
    obtain⟨h1,h2,h3,h4⟩:=hok
    simp only at h1 h2 h3 h4
    obtain⟨j,rfl⟩:∃j:Nat,pn=j:=⟨pn.toNat,by omega⟩
    rw[Int.toNat_natCast]at h3 h4
    rw[List.drop_drop]at h4
    rw[List.length_drop]at h2
    have htot:=HL.out.tot
    have hby:=HL.out.by_
    have hsum:=HL.out.sum
    have hPq:∀q,w.heap.size≤q→q<w1.heap.size→¬(P q∨w1.heap.size≤q):=fun q h1 h2 h3=>by
     rcases h3 with h3 | h3
     ·have:=HPW.out q h3;omega
     ·omega
    have hpw:SlF 2 wr pa ps.length pc' (flat pcEnc ps):=HPS.out.keep0 (fun ad e hl=>by
     obtain⟨a1,a2⟩:=HPL.out hl ad e
     exact HL.out.kp.block _ a1 (hPq _ a2 a1))
    obtain⟨b,of,rfl,hce⟩:=hpw.elem pcEnc_len (by omega) (k:=k) (x:=((j:Int),pd)) (by rw[←hp];exact List.getElem?_eq_getElem hlt)
    have d0:=hce 0 _ rfl
    have d1:=hce 1 _ rfl
    rw[Nat.add_zero]at d0
    simp only at d0 d1
    have gk:(k:Int)<(ps.length:Int):=by omega
    have hb2:=below_alloc wr (.cells #[.int .i64 j, .bool pd] 51)
    obtain⟨W2,hW2⟩:∃W2,wr.alloc (.cells #[.int .i64 j, .bool pd] 51)=W2:=⟨_,rfl⟩
    have hx2:W2.heap[wr.heap.size]?=some (.cells #[.int .i64 j, .bool pd] 51):=by rw[←hW2];exact heap_alloc_new wr _
    have hS2:wr.heap.size<W2.heap.size:=by rw[←hW2];simp
    rw[hW2]at hb2
    cases pd with
    | false=>
     rw[hdr,decd_no rfl]at htot hby hsum
     simp only[piecesT,byN,sumP_nil,List.append_nil,Nat.add_zero,Int.add_zero]at htot hby hsum
     have HE:Hid (O=X∧d=D):=Lib.hid ⟨htot,hby⟩
     subst hsum
     obtain⟨k0,k1⟩:=box2' hx2
     rw[←hW2]at k0 k1
     have HW2:=Lib.hid hW2
     have HB2:=Lib.hid hb2
     clear hce hpw hb2 hW2 hx2 hS2 h1 h2 h3 h4 htot hby hPq hp hdr
     go_wp2_with (fail)
     go_meet
     rw[HW2.out]
     exact⟨P',rfl,Lib.hid ⟨by rw[←HE.out.1];exact HL.out.own.below HB2.out,by rw[←HE.out.2];exact HL.out.cdr.below HB2.out,HL.out.sub,HL.out.fresh,HL.out.kp.trans (Keeps.of_below HB2.out)⟩⟩
    | true=>
     rw[hdr,decd_yes rfl]at htot hby hsum
     simp only[piecesT,byN,sumP_cons,Int.toNat_natCast,List.drop_drop]at htot hby hsum
     have hPn:¬(P pb∨w1.heap.size≤pb):=fun hq=>by
      rcases hq with hq | hq
      ·exact HPB.out.2 hq
      ·have:=HB1.out.size;have:=HPB.out.1;omega
     have hxr:=(hb2.block pb (by have:=HL.out.kp.size;have:=HB1.out.size;have:=HPB.out.1;omega)).trans ((HL.out.kp.block pb (by have:=HB1.out.size;have:=HPB.out.1;omega) hPn).trans HX1.out)
     have hAw:SlI wr o R.length c R:=(SlI.below HA.out HB1.out).keep0 (fun ad e hl=>by
      obtain⟨a1,a2,a3⟩:=HO.out ad e hl
      refine HL.out.kp.block _ (Nat.lt_of_lt_of_le a1 HB1.out.size) (fun hq=> ?_)
      rcases hq with hq | hq
      ·exact a2 hq
      ·have:=HB1.out.size;omega)
     have hAW2:SlI W2 o R.length c R:=SlI.below hAw hb2
     obtain⟨so,hrs,hso⟩:=run_sliceI (ao:=o) (n:=R.length) (cap:=c) (k:=n) (m:=n+j) (K:=n) (M:=(n:Int)+j) rfl (by omega) (by omega) (by omega) hA0.out hi0 hz1
     have hsum1:IntKind.i64.wrap ((n:Int)+(j:Int))=(n:Int)+j:=by rw[IntKind.wrap_i64];omega
     have hBW2:=hso W2 R hAW2
     rw[Nat.add_sub_cancel_left]at hBW2
     rw[Nat.add_sub_cancel_left]at hrs
     have hcw:=HL.out.cdr
     have hckR:=(checkF_take HI.out.2.1 n).2
     have hckB:checkF V N ((R.drop n).take j)=0:=(checkF_take hckR j).1
     have hpl:=pieceF_len hckB h3
     rw[List.length_take,List.length_drop]at hpl
     have hcn:=HCN.out
     have hle:=HL.out.le
     have hPC:=pieceQ_calls W2 (hcw.below hb2) HMY.out hN hr hBW2 (by omega) h3 hckB (by omega)
     obtain⟨pr,hpr⟩:∃pr,pieceF V N ((R.drop n).take j)=pr:=⟨_,rfl⟩
     obtain⟨dd,hdd⟩:∃dd,isBy ((R.drop n).take j)=dd:=⟨_,rfl⟩
     rw[hpr]at htot hPC hpl
     rw[hdd]at hby hPC
     have hd01:=isBy_01 ((R.drop n).take j)
     rw[hdd]at hd01
     have hlt7:∀q,ov.ownBlock=some q→w1.heap.size≤q∧q<wr.heap.size:=fun q hq=>World.ownsRow.lt HL.out.own q hq
     obtain⟨k0,k1⟩:=box2' hx2
     obtain⟨c0,c1,c2,c3,c4,cf⟩:=box5 hxr
     have hpz:¬ZT P' ov pb:=fun hq=>by
      rcases hq with hq | hq
      ·rcases HL.out.sub pb hq with h5 | h5
       ·exact hPn (.inl h5)
       ·exact hPn (.inr h5)
      ·have:=(hlt7 pb hq).1;have:=HB1.out.size;have:=HPB.out.1;omega
     have htz:¬ZT P' ov wr.heap.size:=fun hq=>by
      rcases hq with hq | hq
      ·have:=(hcw.lt _ hq).2;omega
      ·have:=(hlt7 _ hq).2;omega
     have k0':=k0
     have k1':=k1
     rw[←hW2]at k0' k1'
     obtain⟨oa,oc,hov,-⟩:=HL.out.own.sl
     subst hov
     have HO2:Hid (∀w',Keeps P' W2 w'→Own w' w1.heap.size (.slice oa O.length oc) O):=Lib.hid (fun w' hk=>own_stay (HL.out.own.below hb2) (fun q hq=>hk.block q (Nat.lt_trans (hlt7 q hq).2 hS2) (HL.out.fresh q hq)))
     have HPC:Hid (∀W,Ge W2 W→Calls Tryz.prog 59 #[.pointer (some ⟨g,0,none⟩), .slice so j (c-n)] W (fun e w3=>∃rb rc P3,e= .returned (.slice (some ⟨rb,0,none⟩) pr.length rc)∧SlI w3 (some ⟨rb,0,none⟩) pr.length rc pr∧Cdr w3 base g V N kind T room (cnt+d+dd) P3∧(∀q,P3 q→P' q∨W2.heap.size≤q)∧Keeps P' W2 w3)):=Lib.hid (fun W hW=>by
      have hPC:=pieceQ_calls W ((hcw.below hb2).below hW) HMY.out hN hr (SlI.below hBW2 hW) (by omega) h3 hckB (by omega)
      rw[hpr,hdd]at hPC
      refine hPC.mono ?_
      rintro e w3 ⟨v3,P3,rfl,ho3,hV3,hs3,hk3'⟩
      obtain⟨rb,rc,hv3⟩:=own_at0 ho3 hpl.1
      subst hv3
      obtain⟨ra,rc',e3,hsl3⟩:=ho3.sl
      obtain⟨rfl,-,rfl⟩:=Value.slice.inj e3
      exact⟨rb,rc,P3,rfl,hsl3,hV3,fun q hq=>(hs3 q hq).imp id (fun h=>Nat.le_trans hW.size h),(Keeps.of_below hW).trans hk3'⟩)
     have HF:=Lib.hid (And.intro h4 (And.intro htot (And.intro hby (And.intro hsum (And.intro hpl hd01)))))
     have HW2:=Lib.hid hW2
     have HB2:=Lib.hid hb2
     have HNJ:Hid (n+j≤R.length∧1≤j):=Lib.hid ⟨by omega,by omega⟩
     have hPL:0<pr.length∧O.length+pr.length<1048576:=⟨hpl.1,by omega⟩
     have HBS:Hid (w1.heap.size≤W2.heap.size):=Lib.hid (by have:=HL.out.kp.size;omega)
     have H7:=Lib.hid hlt7
     have HS2:=Lib.hid hS2
     have G0:=fun w' (hg:Keeps (ZT P' (.slice oa O.length oc)) W2 w')=>hg.cell c0 hpz
     have G1:=fun w' (hg:Keeps (ZT P' (.slice oa O.length oc)) W2 w')=>hg.cell c1 hpz
     have GK:=fun w' (hg:Keeps (ZT P' (.slice oa O.length oc)) W2 w')=>hg.cell k0 htz
     have gr:=Keeps.refl (ZT P' (.slice oa O.length oc)) W2
     clear hce hpw hAw hb2 hW2 hx2 hS2 hcw hckB hckR hpl h1 h2 h3 h4 htot hby hsum hPq hp hdr hpr hdd hd01 hPn hxr hAW2 hso hBW2 hPC hlt7 k0 k1 c0 c1 c2 c3 c4 cf hpz htz hcn hle
     go_wp2_with (fail)
     rw[HW2.out]
     go_region_held3 (Keeps (ZT P' (.slice oa O.length oc)) W2) (first | (with_reducible assumption) | (with_reducible refine Keeps.drew ?_;with_reducible assumption) | (with_reducible refine Keeps.drewN ?_ _;with_reducible assumption)) (first
      | (go_at_call 59;refine(HPC.out _ (by exact below_drewN (Below.refl _ _) _)).mono ?_;rintro e w3 ⟨rb,rc,P3,rfl,hsl3,hV3,hP3,hk3⟩;have hz3:Keeps (ZT P' (.slice oa O.length oc)) W2 w3:=hk3.mono (fun q _ h=>Or.inl h);have HO3:=Lib.hid (HO2.out _ hk3);have HSL3:=Lib.hid hsl3;have HV3:=Lib.hid hV3;have HP3:=Lib.hid hP3;have HK3:=Lib.hid hk3;have HBS3:Hid (w1.heap.size≤w3.heap.size):=Lib.hid (Nat.le_trans HBS.out hk3.size);clear hsl3 hV3 hP3 hk3)
      | (refine step_ints_lies (by rfl) _ _ (by rfl) (base:=w1.heap.size) (v:= .slice oa O.length oc) (k:=O.length) (m:=pr.length) (by rfl) (by exact HO3.out) rfl (by rfl) (by exact HSL3.out) hPL.1 hPL.2 (by exact HBS3.out) ?_;intro gg cap w4 ho4 hg4 hat4;have hz4:Keeps (ZT P' (.slice oa O.length oc)) W2 w4:=Keeps.grown hz3 (by exact hg4) (fun q e _=>Or.inr e);have HO4:=Lib.hid ho4;have HG4:Hid (w3.grownBy w4 (Value.slice oa O.length oc).ownBlock):=Lib.hid (by exact hg4);have HAT4:Hid ((Value.slice oa O.length oc).ownBlock=some gg∨gg=w3.heap.size):=Lib.hid (by exact hat4);clear ho4 hg4 hat4))
     have k9:w4.cell? ⟨wr.heap.size,0,none⟩=some (.int .i64 j):=GK w4 hz4
     have hnP:∀q,(Value.slice oa O.length oc).ownBlock=some q→¬P3 q:=fun q hq h3=>by
      rcases HP3.out q h3 with h3 | h3
      ·exact HL.out.fresh q hq h3
      ·have:=(H7.out q hq).2;have:=HS2.out;omega
     have HEN:Hid (TkL V N ps w1 w4 base g kind T room cnt P R X D M (k+1) (O++pr) (n+j) P3 (d+dd) (.slice (some ⟨gg,0,none⟩) (O.length+pr.length) cap)):=Lib.hid (by
      obtain⟨f1,f2,f3,f4,f5,f6⟩:=HF.out
      have hnj:=HNJ.out
      refine⟨HO4.out,?_,fun q hq=> ?_,fun q hq h3=> ?_,?_,hnj.1,f1,by rw[List.append_assoc];exact f2,by rw[Int.add_assoc];exact f3,by omega,?_⟩
      ·have h:=HV3.out
       rw[Int.add_assoc]at h
       exact h.stay (fun q hq=>HG4.out.block q (h.lt q hq).2 (fun e=>hnP q e.symm hq)) HG4.out.size
      ·rcases HP3.out q hq with h3 | h3
       ·exact HL.out.sub q h3
       ·exact .inr (by have:=HL.out.kp.size;have:=HS2.out;omega)
      ·obtain rfl:gg=q:=by simpa[Value.ownBlock]using hq
       rcases HAT4.out with h5 | h5
       ·exact hnP gg h5 h3
       ·have:=(HV3.out.lt gg h3).2;omega
      ·refine Keeps.grown ((HL.out.kp.trans (Keeps.of_below HB2.out)).trans (HK3.out.mono (fun q _ hq=>HL.out.sub q hq))) HG4.out (fun q e hq=> .inr (H7.out q e).1)
      ·have:=HL.out.le
       rw[List.length_append]
       omega)
     clear hnP gr hz3 hz4 G0 G1 GK hrs hsum1
     have hnj2:=HNJ.out
     have hsum1:IntKind.i64.wrap ((n:Int)+(j:Int))=((n+j:Nat):Int):=by rw[IntKind.wrap_i64];omega
     clear hnj2
     go_wp2_with (fail)
     go_roundw
     case rel=>exact⟨k+1,n+j,_,P3,d+dd,by omega,by go_num,by go_num,HEN⟩
     case measure=>simp[intOf];omega
   ·obtain rfl:k=ps.length:=by omega
    have HE:Hid (O=X∧d=D∧n=M):=Lib.hid (by
     have h1:=HL.out.tot
     have h2:=HL.out.by_
     have h3:=HL.out.sum
     rw[List.drop_length]at h1 h2 h3
     simp only[decd,List.takeWhile_nil,piecesT,byN,sumP_nil,List.append_nil]at h1 h2 h3
     exact⟨h1,by omega,by omega⟩)
    go_wp2_with (fail)
    go_meet
    exact⟨P',by rw[HE.out.2.2],Lib.hid ⟨by rw[←HE.out.1];exact HL.out.own,by rw[←HE.out.2.1];exact HL.out.cdr,HL.out.sub,HL.out.fresh,HL.out.kp⟩⟩
 case rest=>
  obtain⟨P1,rfl,HT1⟩:=hcut
  obtain⟨ov,hov⟩:∃ov,ov=u3:=⟨_,rfl⟩
  subst hov
  obtain⟨w5,hw5⟩:∃w5,w5=wc:=⟨_,rfl⟩
  subst hw5
  have hPn:¬(P pb∨w1.heap.size≤pb):=fun hq=>by
   rcases hq with hq | hq
   ·exact HPB.out.2 hq
   ·have:=HB1.out.size;have:=HPB.out.1;omega
  have hx5:=(HT1.out.kp.block pb (by have:=HB1.out.size;have:=HPB.out.1;omega) hPn).trans HX1.out
  have hA5:SlI w5 o R.length c R:=(SlI.below HA.out HB1.out).keep0 (fun ad e hl=>by
   obtain⟨a1,a2,a3⟩:=HO.out ad e hl
   refine HT1.out.kp.block _ (Nat.lt_of_lt_of_le a1 HB1.out.size) (fun hq=> ?_)
   rcases hq with hq | hq
   ·exact a2 hq
   ·have:=HB1.out.size;omega)
  obtain⟨oa,oc,hov,-⟩:=HT1.out.own.sl
  subst hov
  have hlX:X.length≤R.length:=by rw[←HI.out.2.2.1];exact ints_len HI.out.1 HI.out.2.1
  have hMI:((R.length-M:Nat):Int)=(R.length:Int)-M:=by omega
  have e1:IntKind.i64.wrap (a+(M:Int))=a+(M:Int):=by rw[IntKind.wrap_i64];omega
  have e2:IntKind.i64.wrap (t+(X.length:Int))=t+(X.length:Int):=by rw[IntKind.wrap_i64];omega
  obtain⟨c0,c1,c2,c3,c4,cf⟩:=box5 hx5
  have HX5:=Lib.hid hx5
  have HA5:=Lib.hid hA5
  have HML:=Lib.hid hMl
  have hcl:=hA0.out
  have HP5:Hid (pb<w5.heap.size):=Lib.hid (Array.getElem?_eq_some_iff.1 hx5).1
  clear hx5 hA5 hPn hMl
  go_wp2_with (first
   | (with_reducible show wpList _ _ _ (⟨_, .slice _ _ (some _) none none,_,_,_,_⟩::_) _ _;refine wpList_slice_low_at rfl 43 _ _ rfl 3 i0 Tryz.underlying43 hi0 hz1 o R.length c rfl hcl .i64 (M:Int) M rfl rfl HML.out ?_;intro bo' hbo;have HBO:=Lib.hid hbo;clear hbo)
   | (go_at_call 70;refine(clone_calls' (A:=R.drop M) w5 (by have:=HBO.out w5 _ HA5.out;unfold SlI;rw[List.map_drop];exact this) (by omega)).mono ?_;rintro E w6 ⟨v6,rfl,ho6,hb6⟩;obtain⟨ra,rc,rfl,hs6⟩:=ho6.sl;obtain⟨c0,c1,c2,c3,c4,cf⟩:=box5 ((hb6.block pb HP5.out).trans HX5.out);have HO6:=Lib.hid ho6;have HB6:=Lib.hid hb6;have HS6:=Lib.hid hs6;clear ho6 hb6 hs6))
  go_ret
  have hw1:=HB1.out.size
  have hw5:=HT1.out.kp.size
  have hpw:=HPB.out.1
  have hp1:¬P1 pb:=fun hq=>by
   rcases HT1.out.sub pb hq with h5 | h5
   ·exact HPB.out.2 h5
   ·omega
  have hra:∀ad,ra=some ad→0<(R.drop M).length→w5.heap.size≤ad.block:=fun ad e h0=>by
   obtain⟨b,c',hv⟩:=own_at0 HO6.out h0
   obtain⟨rfl,-,-⟩:=Value.slice.inj hv
   obtain rfl:=Option.some.inj e
   exact(World.ownsRow.lt HO6.out b rfl).1
  have K5:Keeps (fun q=>P q∨q=pb) w w5:=((Keeps.of_below HB1.out).trans HT1.out.kp).mono (fun q h1 h2=>by
   rcases h2 with h2 | h2
   ·exact .inl h2
   ·omega)
  have hx6:=(HB6.out.block pb HP5.out).trans HX5.out
  refine⟨.slice oa X.length oc,ra,P1,rfl,?_,?_,?_,fun q hq=> ?_,fun ad e h0=> ?_,HT1.out.fresh,?_⟩
  ·refine Own.mono (own_stay HT1.out.own (fun q hq=> ?_)) hw1
   obtain⟨a1,a2⟩:=World.ownsRow.lt HT1.out.own q hq
   exact(heap_set3p w6 pb 1 2 3 _ _ _ (by omega)).trans (HB6.out.block q a2)
  ·exact HT1.out.cdr.stay (fun q hq=>(heap_set3p w6 pb 1 2 3 _ _ _ (fun e=>hp1 (e▸hq))).trans (HB6.out.block q (HT1.out.cdr.lt q hq).2)) (by simpa using HB6.out.size)
  ·refine⟨rc,?_,?_⟩
   ·rw[List.length_drop];exact pt_set hx6
   ·exact HS6.out.keep0 (fun ad e h0=>heap_set3p w6 pb 1 2 3 _ _ _ (fun e2=>by have:=hra ad e h0;omega))
  ·exact(HT1.out.sub q hq).imp id (fun h=>Nat.le_trans hw1 h)
  ·have h9:=hra ad e h0
   exact⟨by omega,fun hq=>by have:=(HT1.out.cdr.lt _ hq).2;omega⟩
  ·exact(((K5.trans (Keeps.of_below HB6.out)).set (Or.inr rfl) _).set (Or.inr rfl) _).set (Or.inr rfl) _
theorem Own.take {w:World} {base:Nat} {vo:Option Addr} {n c:Nat} {A:List Int} (h:Own w base (.slice vo n c) A) {k:Nat} (hk:k≤n):Own w base (.slice vo k c) (A.take k):=by
 obtain⟨hA,hc | ⟨g,cur,rfl,hg,hh,hn,hm,hl,ht⟩⟩:=h.block
 ·obtain⟨rfl,rfl,rfl⟩:=hc
  obtain rfl:k=0:=by omega
  simpa using Own.nil w base
 ·refine Own.mk hg hh (by omega) hm hl (by simp;omega) ?_
  rw[List.map_take,←ht,List.take_take,Nat.min_eq_left hk]
theorem run_zeros {P:Program} (w:World) (t:TypeId) (i:TypeInfo) (ht:P.underlying t=some (.slice 3)) (hti:P.underlying 3=some (.int .i64)) (hi:P.info? 3=some i) (hz:i.zero=some (.int .i64 0)) (hs:i.size=1) (hb:i.bytes=8)
  (n:Nat) (h0:0<n) (hn:n*8≤140737488355328):
  ∃c,(∀ty,(Builtin.append_ #[t,3] ty #[.slice none 0 0, .int .i64 n]).run P w= .ok (.slice (some ⟨w.heap.size,0,none⟩) n c) (w.drew.alloc (.cells (Builtin.zeroCells (Value.int .i64 0).cells n++Builtin.zeroCells (Value.int .i64 0).cells (c-n)) 3)))∧n≤c∧c≤maxLen:=by
 refine⟨grownCap w n 0 3,fun ty=> ?_,grownCap_ge _ _ _ _,grownCap_le_maxLen _ _ _ _ (by unfold maxLen;omega)⟩
 have hn0:n≠0:=by omega
 have wl:IntKind.i64.wrap (n:Int)=n:=by rw[IntKind.wrap_i64];omega
 have h63':¬(9223372036854775807<(n:Int)):=by omega
 have h48':¬(281474976710656<Builtin.nextslicecap n 0*i.bytes):=by rw[nextslicecap_zero h0,hb];omega
 have h48'':¬(281474976710656<(n:Int)*i.bytes):=by rw[hb];omega
 have hneg:¬((n:Int)<0):=by omega
 simp[Builtin.append_,run_underlying ht,run_underlying hti,sizeOf,typeInfo,zeroValue,hi,hz,hs,asInt,asIntOf,wl,hn0,h63',h48',h48'',hneg,Question.forced,run_firstCells_none,newRow,grownCap]
theorem own_zeros (w:World) (n c:Nat) (hn:n≤c) (hc:c≤maxLen):
  Own (w.drew.alloc (.cells (Builtin.zeroCells (Value.int .i64 0).cells n++Builtin.zeroCells (Value.int .i64 0).cells (c-n)) 3)) w.heap.size (.slice (some ⟨w.heap.size,0,none⟩) n c) (List.replicate n 0):=by
 have e:∀k,(Builtin.zeroCells (Value.int .i64 0).cells k).toList=List.replicate k (Value.int .i64 0):=by
  intro k
  have:=toList_madeCells_one (Value.int .i64 0) k
  simpa[madeCells,Builtin.zeroCells,Value.cells]using this
 refine Own.mk (cur:=List.replicate n (Value.int .i64 0)++List.replicate (c-n) (Value.int .i64 0)) (Nat.le_refl _) ?_ hn hc (by simp;omega) (by simp) (by simp)
 have e2:(Builtin.zeroCells (Value.int .i64 0).cells n++Builtin.zeroCells (Value.int .i64 0).cells (c-n))=(List.replicate n (Value.int .i64 0)++List.replicate (c-n) (Value.int .i64 0)).toArray:=by
  apply Array.ext'
  simp only[Array.toList_append,e]
 rw[e2]
 exact heap_alloc_new w.drew _
theorem grow_nil (n:Nat) (w:World) (hn:n*8≤140737488355328):
  Calls Tryz.prog 98 #[.slice none 0 0, .int .i64 n] w fun e w'=>∃vo vc,e= .returned (.slice vo 0 vc)∧Own w' w.heap.size (.slice vo 0 vc) []∧Below w.heap.size w w':=by
 obtain⟨i0,hi,hz0,hz1,hz2⟩:=info_parts infoInt
 by_cases h0:n=0
 ·subst h0
  go_enter Tryz.func98,Tryz.ntmps98
  go_wp2
  go_ret
  exact⟨_,_,rfl,Own.nil _ _,Below.refl _ _⟩
 ·have hpos:(0:Int)<(n:Int):=by omega
  obtain⟨c,hr,hc1,hc2⟩:=run_zeros (P:=Tryz.prog) w 43 i0 Tryz.underlying43 Tryz.underlying3 hi hz0 hz1 hz2 n (by omega) hn
  obtain⟨W,hW⟩:∃W,W=(w.drew.alloc (.cells (Builtin.zeroCells (Value.int .i64 0).cells n++Builtin.zeroCells (Value.int .i64 0).cells (c-n)) 3)):=⟨_,rfl⟩
  have ho:=own_zeros w n c hc1 hc2
  have hb:Below w.heap.size w W:=by rw[hW];exact((Below.refl _ _).drew).alloc (Nat.le_refl _) _
  rw[←hW]at hr ho
  have hS:SlI W (some ⟨w.heap.size,0,none⟩) n c (List.replicate n 0):=by
   obtain⟨ao,cap,e,h⟩:=ho.sl
   simp at e
   obtain⟨rfl,rfl⟩:=e
   simpa using h
  have HR:=Lib.hid hr
  clear hr
  have HW:=Lib.hid hW
  clear hW
  go_enter Tryz.func98,Tryz.ntmps98
  go_wp2_with (first
   | (with_reducible show wpList _ _ _ (⟨_, .call {callee:= .builtin .append,args:=_,argTypes:=_},_,_,_,_⟩::_) _ _;refine wpList_append_run rfl (.tmp 20) (.tmp 21) 43 3 rfl (v1:= .slice none 0 0) (v2:= .int .i64 n) rfl rfl HR.out ?_)
   | (with_reducible show wpList _ _ _ (⟨_, .slice _ (.tmp 22) none (some _) none,_,_,_,_⟩::_) _ _;refine wpList_int_high rfl 43 (.tmp 22) (.tmp 24) rfl 3 i0 Tryz.underlying43 hi hz1 (k:=0) rfl hS rfl rfl (by omega) ?_;intro hb'))
  go_ret
  exact⟨_,_,rfl,by simpa using ho.take (Nat.zero_le n),hb⟩
theorem concat_calls {R:List (List Int)} {ao:Option Addr} {n c:Nat} (w:World) (hR:SlRows w ao n c R) (hreach:R.flatten.length*8≤140737488355328):
  Calls Tryz.prog 66 #[.slice ao n c] w fun e w'=>∃v,e= .returned v∧Own w' w.heap.size v R.flatten∧Below w.heap.size w w':=by
 have hm:=Nat.le_trans hR.le hR.max
 unfold maxLen at hm
 have hlR:=Lib.hid hR.len
 obtain⟨i0,hi,hz0,hz1,hz2⟩:=info_parts infoInt
 go_enter Tryz.func66,Tryz.ntmps66
 go_wp2
 go_loop [3,11] (fun t i=>∃k:Nat,k≤n∧i= .int .i64 k∧t= .int .i64 (tot R k)) (fun _ i=>n-(intOf i).toNat)
 case atStart=>exact⟨0,Nat.zero_le _,rfl,by rw[tot_zero];rfl⟩
 case round=>
  obtain⟨k,hk,rfl,rfl⟩:=hrel
  have ht:=tot_le R k
  by_cases hlt:k<n
  ·have hts:=Lib.hid (tot_succ (R:=R) (k:=k) (by rw[hlR.out];exact hlt))
   have ht1:=tot_le R (k+1)
   obtain⟨b,o,ra,rc,rfl,hcell,hrow⟩:=hR.at_ k hlt
   have hrl:(rx R k).length≤9223372036854775807:=by have:=Nat.le_trans (Sl.le hrow) (Sl.max hrow);unfold maxLen at this;omega
   have hrl2:tot R k+(rx R k).length≤R.flatten.length:=by rw[←hts.out];exact ht1
   go_wp2
   go_round
   case rel=>exact⟨k+1,by omega,by go_num,by rw[hts.out];go_num⟩
   case measure=>simp[intOf];omega
  ·obtain rfl:k=n:=by omega
   have hall:tot R k=R.flatten.length:=by rw[←hlR.out];exact tot_all R
   have Hall:=Lib.hid hall
   clear hall
   go_wp2_with (go_at_call 98;refine(grow_nil _ _ (by omega)).mono ?_;rintro e w1 ⟨vo,vc,rfl,ho1,hb1⟩)
   go_loopw [6,27] (fun v i wr=>∃j:Nat,j≤k∧i= .int .i64 j∧Own wr w.heap.size v (R.take j).flatten∧Below w.heap.size w wr) (fun _ i _=>k-(intOf i).toNat)
   case atStart=>exact⟨0,Nat.zero_le _,rfl,by simpa using ho1,hb1⟩
   case round=>
    obtain⟨j,hj,rfl,ho,hb⟩:=hrel
    by_cases hlt2:j<k
    ·have hfs:=Lib.hid (flat_succ (R:=R) (k:=j) (by rw[hlR.out];exact hlt2))
     obtain⟨b,o,ra,rc,rfl,hcell,hrow⟩:=(hR.below hb).at_ j hlt2
     have hb3:=tot_le R (j+1)
     unfold tot at hb3
     rw[hfs.out,List.length_append]at hb3
     go_wp2_with (at_builtin;refine wpList_int_app rfl _ _ 43 rfl i0 Tryz.underlying43 hi hz0 hz1 hz2 rfl ho rfl hrow (by omega) hb.size ?_;intro v' w' ho' hg' hb')
     go_roundw
     case rel=>exact⟨j+1,by omega,by go_num,by rw[hfs.out];exact ho',hb.trans hb'⟩
     case measure=>simp[intOf];omega
    ·obtain rfl:j=k:=by omega
     go_wp2
     go_ret
     exact⟨_,rfl,by have:=hlR.out;subst this;simpa using ho,hb⟩
theorem concat_len {R:List (List Int)} {ao:Option Addr} {n c L:Nat} (w:World) (hR:SlRows w ao n c R) (hL:R.flatten.length=L) (hreach:L*8≤140737488355328):
  Calls Tryz.prog 66 #[.slice ao n c] w fun e w'=>∃vo vc,e= .returned (.slice vo L vc)∧Own w' w.heap.size (.slice vo L vc) R.flatten∧Below w.heap.size w w':=by
 subst hL
 refine(concat_calls w hR hreach).mono fun e w' ⟨v,he,ho,hb⟩=> ?_
 obtain⟨vo,vc,rfl,_⟩:=ho.sl
 exact⟨vo,vc,he,ho,hb⟩
theorem pnew_calls (g:Nat) (w:World):Calls Tryz.prog 26 #[.pointer (some ⟨g,0,none⟩)] w fun E w'=>E= .returned (.pointer (some ⟨w.heap.size,0,none⟩))∧w'=w.alloc (.cells #[.pointer (some ⟨g,0,none⟩), .slice none 0 0, .int .i64 0, .int .i64 0, .bool false] 110):=by
 go_enter Tryz.func26,Tryz.ntmps26
 go_wp2_with (fail)
 go_ret
 exact⟨rfl,rfl⟩
theorem pat_calls {w:World} {pb g:Nat} {o:Option Addr} {R:List Int} {a t:Int} {e:Bool} (h:PtR w pb g o R a t e):Calls Tryz.prog 31 #[.pointer (some ⟨pb,0,none⟩)] w fun E w'=>E= .returned (.int .i64 a)∧w'=w:=by
 obtain⟨c,hx,-⟩:=h
 obtain⟨c0,c1,c2,c3,c4,cf⟩:=box5 hx
 clear hx
 go_enter Tryz.func31,Tryz.ntmps31
 go_wp2_with (fail)
 go_ret
 exact⟨rfl,rfl⟩
theorem ptok_calls {w:World} {pb g:Nat} {o:Option Addr} {R:List Int} {a t:Int} {e:Bool} (h:PtR w pb g o R a t e):Calls Tryz.prog 43 #[.pointer (some ⟨pb,0,none⟩)] w fun E w'=>E= .returned (.int .i64 t)∧w'=w:=by
 obtain⟨c,hx,-⟩:=h
 obtain⟨c0,c1,c2,c3,c4,cf⟩:=box5 hx
 clear hx
 go_enter Tryz.func43,Tryz.ntmps43
 go_wp2_with (fail)
 go_ret
 exact⟨rfl,rfl⟩
theorem prest_calls {w:World} {pb g:Nat} {o:Option Addr} {R:List Int} {a t:Int} {e:Bool} (h:PtR w pb g o R a t e) (hn:R.length≤1000000):Calls Tryz.prog 32 #[.pointer (some ⟨pb,0,none⟩)] w fun E w'=>∃vo vc,E= .returned (.slice vo R.length vc)∧Own w' w.heap.size (.slice vo R.length vc) R∧Below w.heap.size w w':=by
 obtain⟨c,hx,hs⟩:=h
 have HC:=Lib.hid (clone_calls w hs (by omega))
 obtain⟨c0,c1,c2,c3,c4,cf⟩:=box5 hx
 clear hx hs
 go_enter Tryz.func32,Tryz.ntmps32
 go_wp2_with (go_at_call 70;refine HC.out.mono ?_;rintro E w1 ⟨vo,vc,rfl,ho,hb⟩;have HO:=Lib.hid ho;have HB:=Lib.hid hb;clear ho hb)
 go_ret
 exact⟨vo,vc,rfl,HO.out,HB.out⟩
theorem popen_calls {V:Vc} {N:List ByteArray} {kind:Int} {T:List Rg} {base cb:Nat} {w:World} {pb g:Nat} {o:Option Addr} {R:List Int} {a t:Int} {e:Bool} (hcod:TCod w base g V N kind T cb) (h:PtR w pb g o R a t e) (hn:R.length≤1000000) (hT:MayTab T) (hk0:0≤kind) (hk3:kind≤3):
  Calls Tryz.prog 28 #[.pointer (some ⟨pb,0,none⟩)] w fun E w'=>E= .returned (.int .i64 ((splitF kind T R e).length:Int))∧Below w.heap.size w w':=by
 obtain⟨c,hx,hA⟩:=h
 obtain⟨ps,hps⟩:∃ps,splitF kind T R e=ps:=⟨_,rfl⟩
 have hSp:∀W,Ge w W→Calls Tryz.prog 18 #[.pointer (some ⟨g,0,none⟩), .slice o R.length c, .bool e] W fun E w'=>(∃ao cap,E= .returned (.slice ao ps.length cap))∧Below w.heap.size w w':=fun W hW=>by
  have h9:=tsplit_calls e W (hcod.below hW) (hA.below hW) (by omega) hT hk0 hk3
  rw[hps]at h9
  refine h9.mono ?_
  rintro E w' ⟨⟨v,rfl,h1⟩,h2⟩
  obtain⟨pa,pc',rfl,-⟩:=h1.sl
  exact⟨⟨pa,pc',rfl⟩,hW.below h2⟩
 rw[hps]
 have HSP:=Lib.hid hSp
 obtain⟨c0,c1,c2,c3,c4,cf⟩:=box5 hx
 have G0:=fun w' (hg:Ge w w')=>hg.at w w' c0
 have G1:=fun w' (hg:Ge w w')=>hg.at w w' c1
 have G4:=fun w' (hg:Ge w w')=>hg.at w w' c4
 have gr:=Ge.refl w
 clear hx hA hcod hps hSp c0 c1 c2 c3 c4 cf
 go_enter Tryz.func28,Tryz.ntmps28
 go_wp2_with (fail)
 go_region_held3 (Ge w) (first | (with_reducible assumption) | (with_reducible refine Ge.drew ?_;with_reducible assumption) | (with_reducible refine Ge.drewN ?_ _;with_reducible assumption)) ((go_at_call 18;refine(HSP.out _ (by exact below_drewN (Below.refl _ _) _)).mono ?_;rintro E w1 ⟨⟨pa,pc',rfl⟩,hb1⟩;have HB1:=Lib.hid hb1;have hg1:Ge w w1:=hb1;clear hb1))
 go_wp2_with (fail)
 go_ret
 exact⟨rfl,HB1.out⟩
theorem com_len {V:Vc} {N:List ByteArray} {kind:Int} {T:List Rg} (hT:MayTab T) {e:Bool} {A:List Int} (hc:checkF V N A=0):(comT V N kind T A e).length≤A.length:=ints_len (split_ok hT hc) hc
def GrQ (w:World) (base pb g:Nat) (V:Vc) (N:List ByteArray) (kind:Int) (T:List Rg) (room cnt:Int) (P:Nat→Prop) (R:List Int) (a t:Int) (e:Bool) (v:Value) (w':World):Prop:=
 ∃o' P',Own w' w.heap.size v (comT V N kind T R e)∧Cdr w' base g V N kind T room (cnt+comB kind T R e) P'∧
  PtR w' pb g o' (R.drop (comN kind T R e)) (a+comN kind T R e) (t+(comT V N kind T R e).length) e∧(∀q,P' q→P q∨w.heap.size≤q)∧
  (∀ad,o'=some ad→0<(R.drop (comN kind T R e)).length→w.heap.size≤ad.block∧¬P' ad.block)∧(∀q,v.ownBlock=some q→¬P' q)∧Keeps (fun q=>P q∨q=pb) w w'
theorem TkQ.from {w w3 w':World} {base pb g:Nat} {V:Vc} {N:List ByteArray} {kind:Int} {T:List Rg} {room cnt:Int} {P:Nat→Prop} {R:List Int} {a t:Int} {e:Bool} {E:Ending} (h:TkQ w3 base pb g V N kind T room cnt P R a t e E w') (hk:Keeps (fun q=>P q∨q=pb) w w3) (hp:∀q,P q→q<w.heap.size) (hb:pb<w.heap.size):
  ∃v,E= .returned v∧GrQ w base pb g V N kind T room cnt P R a t e v w':=by
 obtain⟨v,o',P',rfl,h1,h2,h3,h4,h5,h6,h7⟩:=h
 have hs:=hk.size
 exact⟨v,rfl,o',P',h1.mono hs,h2,h3,fun q hq=>(h4 q hq).imp id (fun h=>Nat.le_trans hs h),fun ad e h0=>⟨Nat.le_trans hs (h5 ad e h0).1,(h5 ad e h0).2⟩,h6,hk.trans h7⟩
theorem pgrow_calls {P:Nat→Prop} {V:Vc} {N:List ByteArray} {kind:Int} {T:List Rg} {base pb g:Nat} {room:Int} {cnt a t:Int} {R B:List Int} {o bo:Option Addr} {m d:Nat} (w:World) (h:Cdr w base g V N kind T room cnt P) (hM:May V) (hN:N.length≤16) (hT:MayTab T) (hk0:0≤kind) (hk3:kind≤3) (hr:room≤1048576)
  (hp:PtR w pb g o R a t false) (hpb:¬P pb) (hB:SlI w bo m d B) (hn:R.length+B.length≤100000) (hcnt:cnt+(R.length+B.length:Nat)<1000000) (hc:checkF V N R=0) (hc2:checkF V N B=0) (ha:0≤a∧a≤1000000) (ht:0≤t∧t≤1000000):
  Calls Tryz.prog 27 #[.pointer (some ⟨pb,0,none⟩), .slice bo m d] w (fun E w'=>∃v,E= .returned (.tuple #[v, .int .i64 0])∧GrQ w base pb g V N kind T room cnt P (R++B) a t false v w'):=by
 have hplt:=hp.lt
 obtain⟨c,hx,hA⟩:=hp
 obtain⟨cb,hcod⟩:=h.cod
 have hBl:=hB.len
 subst hBl
 have hCk:=check_calls w hcod hN hB (by omega)
 rw[hc2]at hCk
 have HCK:=Lib.hid hCk
 have hcc:checkF V N (R++B)=0:=by rw[checkF_cat hc];exact hc2
 have HV:=Lib.hid h
 have HM:=Lib.hid hM
 have HX:=Lib.hid hx
 have HPB:=Lib.hid (And.intro hplt hpb)
 have HCC:=Lib.hid hcc
 have HAB:=Lib.hid (SlRows.two hA hB 43 w.heap.size rfl)
 have HCN:=Lib.hid hcnt
 obtain⟨c0,c1,c2,c3,c4,cf⟩:=box5 hx
 clear h hM hx hplt hpb hcc hA hB hcod hCk hc hc2 hcnt
 go_enter Tryz.func27,Tryz.ntmps27
 go_wp2_with (first
  | (go_at_call 33;refine HCK.out.mono ?_;rintro e w1 ⟨rfl,rfl⟩)
  | (go_at_call 66;refine(concat_len (R:=[R,B]) (L:=R.length+B.length) _ (by exact HAB.out) (by simp) (by omega)).mono ?_;rintro E w2 ⟨vo,vc,rfl,ho,hb⟩;have hb2:=(below_alloc w _).trans (hb.mono (by simp));obtain⟨c0,c1,c2,c3,c4,cf⟩:=box5 ((hb2.block pb HPB.out.1).trans HX.out);have HO:=Lib.hid ho;have HB:=Lib.hid hb2;clear ho hb hb2))
 have hb2:=HB.out
 have ho2:=HO.out
 have hx2:=(hb2.block pb HPB.out.1).trans HX.out
 have hs2:=set_cellN (i:=1) (v:= .slice vo (R.length+B.length) vc) hx2
 have hp2:pb<w2.heap.size:=(Array.getElem?_eq_some_iff.1 hx2).1
 have hvo:∀ad,vo=some ad→0<(R++B).length→w.heap.size≤ad.block:=fun ad e h0=>by
  have ho3:Own w2 (w.alloc (.cells #[.slice o R.length c, .slice bo B.length d] 43)).heap.size (.slice vo (R.length+B.length) vc) (R++B):=by simpa using ho2
  obtain⟨b,c',hv⟩:=own_at0 ho3 h0
  obtain⟨rfl,-,-⟩:=Value.slice.inj hv
  obtain rfl:=Option.some.inj e
  exact Nat.le_trans (by simp) (World.ownsRow.lt ho3 b rfl).1
 have hcd:Cdr (w2.setCell ⟨pb,1,none⟩ (.slice vo (R.length+B.length) vc)) base g V N kind T room cnt P:=(HV.out.below hb2).stay (fun q hq=>heap_set_other (fun e=>HPB.out.2 (e▸hq))) (by simp)
 have hpt:PtR (w2.setCell ⟨pb,1,none⟩ (.slice vo (R.length+B.length) vc)) pb g vo (R++B) a t false:=by
  obtain⟨ra,rc,e3,hsl⟩:=ho2.sl
  obtain⟨rfl,e4,rfl⟩:=Value.slice.inj e3
  refine⟨vc,by rw[List.length_append];exact hs2,?_⟩
  have h9:SlI w2 vo (R++B).length vc (R++B):=by simpa using hsl
  exact h9.keep0 (fun ad e h0=>heap_set_other (fun e2=>by have:=hvo ad e h0;have:=HPB.out.1;omega))
 have hkk:Keeps (fun q=>P q∨q=pb) w (w2.setCell ⟨pb,1,none⟩ (.slice vo (R.length+B.length) vc)):=(Keeps.of_below hb2).set (Or.inr rfl) _
 have htk:=takes_calls _ hcd HM.out hN hT hk0 hk3 hr hpt HPB.out.2 (fun ad e h0=>⟨fun hq=>by have:=hvo ad e h0;have:=(HV.out.lt _ hq).2;omega,fun e2=>by have:=hvo ad e h0;have:=HPB.out.1;omega⟩) (by rw[List.length_append];omega) (by rw[List.length_append];exact HCN.out) HCC.out ha ht
 have HTK:=Lib.hid htk
 have HKK:=Lib.hid hkk
 clear hb2 ho2 hx2 hs2 hp2 hvo hcd hpt hkk htk c0 c1 c2 c3 c4 cf
 go_at_call 67
 refine HTK.out.mono ?_
 rintro E w4 hq
 obtain⟨v,rfl,hgr⟩:=hq.from HKK.out (fun q hq=>(HV.out.lt q hq).2) HPB.out.1
 have HGR:=Lib.hid hgr
 clear hgr hq
 go_wp2_with (fail)
 refine bodyPost_ret (v:= .tuple #[v, .int .i64 0]) ?_ rfl ⟨v,rfl,HGR.out⟩
 simp[results,Tryz.results27,go_sem]
theorem pgrow_fault {V:Vc} {N:List ByteArray} {kind:Int} {T:List Rg} {base pb g cb:Nat} {a t:Int} {R B:List Int} {o bo:Option Addr} {m d:Nat} (w:World) (hcod:TCod w base g V N kind T cb) (hN:N.length≤16)
  (hp:PtR w pb g o R a t false) (hB:SlI w bo m d B) (hn:m≤100000) (hc:checkF V N B≠0):
  Calls Tryz.prog 27 #[.pointer (some ⟨pb,0,none⟩), .slice bo m d] w (fun E w'=>E= .returned (.tuple #[.slice none 0 0, .int .i64 (checkF V N B)])∧w'=w):=by
 obtain⟨c,hx,hA⟩:=hp
 have hCk:=check_calls w hcod hN hB (by omega)
 obtain⟨x,hx9⟩:∃x,checkF V N B=x:=⟨_,rfl⟩
 rw[hx9]at hCk hc ⊢
 have gx:(x==0)=false:=by simpa using hc
 have HCK:=Lib.hid hCk
 obtain⟨c0,c1,c2,c3,c4,cf⟩:=box5 hx
 clear hCk hx9 hc hx hA
 go_enter Tryz.func27,Tryz.ntmps27
 go_wp2_with (go_at_call 33;refine HCK.out.mono ?_;rintro e w1 ⟨rfl,rfl⟩)
 refine bodyPost_ret (v:= .tuple #[.slice none 0 0, .int .i64 x]) ?_ rfl ⟨rfl,rfl⟩
 simp[results,Tryz.results27,go_sem]
theorem pend_calls {P:Nat→Prop} {V:Vc} {N:List ByteArray} {kind:Int} {T:List Rg} {base pb g:Nat} {room:Int} {cnt a t:Int} {R:List Int} {o:Option Addr} (w:World) (h:Cdr w base g V N kind T room cnt P) (hM:May V) (hN:N.length≤16) (hT:MayTab T) (hk0:0≤kind) (hk3:kind≤3) (hr:room≤1048576)
  (hp:PtR w pb g o R a t false) (hpb:¬P pb) (hO:∀ad,o=some ad→0<R.length→¬P ad.block∧ad.block≠pb) (hn:R.length≤100000) (hcnt:cnt+R.length<1000000) (hc:checkF V N R=0) (ha:0≤a∧a≤1000000) (ht:0≤t∧t≤1000000):
  Calls Tryz.prog 42 #[.pointer (some ⟨pb,0,none⟩)] w (fun E w'=>∃v,E= .returned v∧GrQ w base pb g V N kind T room cnt P R a t true v w'):=by
 have hplt:=hp.lt
 obtain⟨c,hx,hA⟩:=hp
 have hs:=set_cellN (i:=4) (v:= .bool true) hx
 have hcd:Cdr (w.setCell ⟨pb,4,none⟩ (.bool true)) base g V N kind T room cnt P:=h.stay (fun q hq=>heap_set_other (fun e=>hpb (e▸hq))) (by simp)
 have hpt:PtR (w.setCell ⟨pb,4,none⟩ (.bool true)) pb g o R a t true:=⟨c,hs,hA.keep0 (fun ad e h0=>heap_set_other (hO ad e h0).2)⟩
 have htk:=takes_calls _ hcd hM hN hT hk0 hk3 hr hpt hpb hO hn hcnt hc ha ht
 have HTK:=Lib.hid htk
 have HKK:Hid (Keeps (fun q=>P q∨q=pb) w (w.setCell ⟨pb,4,none⟩ (.bool true))):=Lib.hid ((Keeps.refl _ w).set (Or.inr rfl) _)
 have HV:=Lib.hid h
 have HPB:=Lib.hid (And.intro hplt hpb)
 obtain⟨c0,c1,c2,c3,c4,cf⟩:=box5 hx
 clear h hM hx hplt hpb hA hs hcd hpt htk hc hO hcnt
 go_enter Tryz.func42,Tryz.ntmps42
 go_wp2_with (fail)
 clear c0 c1 c2 c3 c4 cf
 go_at_call 67
 refine HTK.out.mono ?_
 rintro E w4 hq
 obtain⟨v,rfl,hgr⟩:=hq.from HKK.out (fun q hq=>(HV.out.lt q hq).2) HPB.out.1
 have HGR:=Lib.hid hgr
 clear hgr hq
 go_wp2_with (fail)
 go_ret
 exact⟨v,rfl,HGR.out⟩
open Go
def T3:List ByteArray:=(List.range 256).map one
theorem T3_len:T3.length=256:=by simp[T3]
theorem T3_at {i:Nat} (h:i<256):tk T3 i=one i:=by
 unfold tk T3
 rw[List.getD_eq_getElem?_getD]
 simp[h]
theorem top_R3:top R2 []=256:=by decide +kernel
theorem toks_R3:toksOf R2 []=T3:=by
 unfold toksOf
 rw[top_R3]
 refine List.ext_getElem? fun i=> ?_
 by_cases h:i<256
 ·rw[tk_eq (T:=T3) (by rw[T3_len];exact h)]
  simp only[List.getElem?_map,List.getElem?_range (show i<(256:Int).toNat from h),Option.map_some]
  congr 1
  unfold R2
  rw[rowsN_tok,T3_at h,if_pos h]
 ·rw[List.getElem?_eq_none (by simp;omega),List.getElem?_eq_none (by rw[T3_len];omega)]
theorem merges_T3:mergesOf T3= []:=mgs_inj (by decide +kernel)
def V5:Vc:=⟨T3,[],[]⟩
theorem uniq_T3:Uniq T3:=fun i j h1 h2 e=>by
 rw[T3_len]at h2
 exfalso
 rw[T3_at (by omega),T3_at (by omega)]at e
 have h3:tk T0 i=tk T0 j:=by rw[T0_low (by omega),T0_low (by omega)];exact e
 have:=uniq_T0 i j h1 (by rw[T0_len];omega) h3
 rw[T0_low (by omega)]at this
 exact absurd this (by show¬1=0;omega)
theorem mayTok_T3:MayTok T3:=⟨by rw[T3_len];omega,fun s hs=>by
 unfold T3 at hs
 obtain⟨b,_,rfl⟩:=List.mem_map.1 hs;exact show 1≤64 by omega,uniq_T3,fun b hb=>List.mem_map.2 ⟨b,List.mem_range.2 hb,rfl⟩⟩
theorem may_V5:May V5:=by
 refine⟨mayTok_T3,⟨by simp[V5],by simp[V5],by simp[V5]⟩,fun i hi h=> ?_,⟨by simp[V5],fun s hs=>by simp[V5]at hs,by simp[V5]⟩⟩
 simp only[V5]at hi h ⊢
 rw[T3_len]at hi
 rw[T3_at hi]at h
 exact absurd h (by show¬1<1;omega)
theorem voc_R3:vocOf R2 []=V5:=by
 unfold vocOf
 rw[toks_R3,merges_T3]
 have h1:sortMg []= []:=by unfold sortMg;simp
 have h2:sortSp []= []:=by unfold sortSp;simp
 rw[h1,h2];rfl
theorem good_R3:GoodVoc R2 []:=⟨⟨fun s hs=>by simp at hs,ok_R2.2.1,ok_R2.2.2⟩,by rw[voc_R3];exact may_V5⟩
theorem okKit_3:OkKit [] 2 [] 4:=⟨⟨by simp,fun s hs=>by simp at hs,by simp⟩,by omega,by omega,⟨by simp,by simp,by simp⟩,by omega,by omega⟩
theorem ofT_3 {x:Int} (h:0≤x∧x<256):ofT V5.tokens (one x.toNat)=x:=by
 have:=uniq_T3.of (i:=x.toNat) (by rw[T3_len];omega) (by rw[T3_at (by omega)];show 1≠0;omega)
 rw[T3_at (by omega)]at this
 show ofT T3 _=_
 rw[this];omega
theorem stepF_nil (r:List Int):stepF [] r=none:=stepF_none fun i a b _ _=>rfl
theorem encF_3 {b:List Int} (h:∀x∈b,0≤x∧x<256):encF V5 b=b:=by
 have e:rowOf V5 b=b:=by
  unfold rowOf
  conv=>rhs;rw[←List.map_id b]
  exact List.map_congr_left fun x hx=>ofT_3 (h x hx)
 unfold encF
 rw[e]
 exact runF_end (stepF_nil b) _
theorem fault_3 {x:Int} (h:0≤x∧x<256):faultF V5 [] x=0:=by unfold faultF;rw[if_neg (by simp;omega),if_neg (by omega)]
theorem check_3 {b:List Int} (h:∀x∈b,0≤x∧x<256):checkF V5 [] b=0:=checkF_all.2 fun x hx=>fault_3 (h x hx)
theorem piece_3 {b:List Int} (h:∀x∈b,0≤x∧x<256) (h0:b≠[]):pieceF V5 [] b=b:=by rw[pieceF_bytes (check_3 h) h0 h,encF_3 h]
theorem com_3:∀{ps:List (Int×Bool)} {A:List Int},PcsOk ps A→(∀x∈A,0≤x∧x<256)→piecesT V5 [] (decd ps) A=A.take (sumP (decd ps))
 | [],A,h,hb=>by
  show []=A.take 0
  simp
 | p::ps,A,h,hb=>by
  cases hp:p.2 with
  | false=>rw[decd_no hp];show []=A.take 0;simp
  | true=>
   rw[decd_yes hp,sumP_cons]
   simp only[piecesT]
   have h1:=h.1
   have h2:=h.2.1
   rw[piece_3 (fun x hx=>hb x (List.mem_of_mem_take hx)) (fun e=>by
    have h9:min p.1.toNat A.length=0:=by rw[←List.length_take,e];rfl
    omega),com_3 h.2.2.2 (fun x hx=>hb x (List.mem_of_mem_drop hx))]
   rw[List.take_add]
theorem byN_decd:∀{ps:List (Int×Bool)} {A:List Int},PcsOk ps A→0≤byN (decd ps) A∧byN (decd ps) A≤sumP (decd ps)
 | [],A,h=>by simp[decd,byN,sumP]
 | p::ps,A,h=>by
  have h2:=isBy_01 (A.take p.1.toNat)
  have h3:=h.1
  cases hp:p.2 with
  | false=>rw[decd_no hp];simp[byN,sumP]
  | true=>
   have h1:=byN_decd h.2.2.2
   rw[decd_yes hp,sumP_cons]
   simp only[byN]
   omega
theorem comB_le {V:Vc} {N:List ByteArray} {kind:Int} {T:List Rg} (hT:MayTab T) {e:Bool} {A:List Int} (hc:checkF V N A=0):0≤comB kind T A e∧comB kind T A e≤A.length:=by
 have h:=split_ok (kind:=kind) (final:=e) hT hc
 have h1:=byN_decd h
 have h2:=h.decd_le
 unfold comB
 omega
def A3:List Int:=[119,101,39,114,101,32,111,110]
theorem bytes_3:∀x∈A3,(0:Int)≤x∧x<256:=by decide +kernel
theorem n_3:comN 2 usR A3 false=5:=by decide +kernel
theorem n_4:comN 2 usR [32,111,110,32] false=3:=by decide +kernel
theorem open_3:(splitF 2 usR [32] false).length=1:=by decide +kernel
theorem bytes_4:∀x∈([32,111,110,32]:List Int),(0:Int)≤x∧x<256:=by decide +kernel
theorem sl_lit8 (w:World) (vs:List Int) (cs:Array Value) (hcs:cs=(vs.map (.int .i64)).toArray) (g n:Nat) (hg:g=w.heap.size) (hn:n=vs.length) (hm:n≤100) (t:TypeId):
  SlI (w.alloc (.cells cs t)) (some ⟨g,0, .none⟩) n n vs:=Sl.lit6 w _ _ hcs _ _ hg (by simpa using hn) hm t
theorem fixed20_calls (w:World) (hU:Usu w):Calls Tryz.prog 25 #[] w fun e w'=>e= .returned (.bool true)∧Below w.heap.size w w':=by
 have HU:=Lib.hid hU
 clear hU
 go_enter Tryz.func25,Tryz.ntmps25
 go_wp2_with (fail)
 refine(letters_calls (M:=[]) (N:=[]) w Sl.none Sl.none (by simp) (by simp) (by omega) (by omega)).mono ?_
 rintro e w2 ⟨hpost,hb2⟩
 rw[R2_eq,show lettersS [] []= [] from rfl,voc_R3]at hpost
 rcases hpost with⟨_,⟨ta,tn,tc,ma,mn,mc,sa,sn,sc⟩,rfl,hv⟩ | ⟨hn,_⟩
 rotate_left
 ·exact absurd good_R3 hn
 obtain⟨w3,hw3⟩:∃w3,w2.alloc (.cells #[.slice ta tn tc, .slice ma mn mc, .slice sa sn sc] 26)=w3:=⟨_,rfl⟩
 have hb3:Below w2.heap.size w2 w3:=hw3▸below_alloc w2 _
 have HB3:Hid (Below w.heap.size w w3):=Lib.hid (hb2.trans (hb3.mono hb2.size))
 have HV3:=Lib.hid (hv.below hb3)
 have HU3:=Lib.hid ((HU.out.below hb2).below hb3)
 have HW3:=Lib.hid hw3
 clear hw3 hb2 hb3 hv
 simp only[Vd.val]
 go_wp2_with (fail)
 rw[HW3.out]
 refine(textNew_calls (dd:=⟨ta,tn,tc,ma,mn,mc,sa,sn,sc⟩) (kind:=2) (N:=[]) (T:=[]) (room:=4) w3 HV3.out ⟨fun s hs=>Nat.le_trans (may_V5.1.2.1 s hs) (by unfold maxLen;omega),⟨(fun s hs=>(by cases hs)),(show 0≤1048576 by omega)⟩⟩ Sl.none (by simp) (by omega) (SlF.nothing _) (by omega) HU3.out).mono ?_
 rintro e w5 ⟨hpost,hb5⟩
 rcases hpost with⟨h,_⟩ | ⟨_,h,_⟩ | ⟨_,_,g,cb,mb,rfl,hcod⟩
 ·exact absurd may_V5 h
 ·exact absurd okKit_3 h
 have hT5:=Cdr.new hcod (by omega)
 rw[show tabOf ([]:List Rg)=usR from rfl]at hT5
 obtain⟨w6,hw6⟩:∃w6,w5.alloc (.cells #[.pointer (some ⟨g,0,none⟩), .slice none 0 0, .int .i64 0, .int .i64 0, .bool false] 110)=w6:=⟨_,rfl⟩
 have hb6:Below w5.heap.size w5 w6:=hw6▸below_alloc w5 _
 have hx6:w6.heap[w5.heap.size]?=some (.cells #[.pointer (some ⟨g,0,none⟩), .slice none 0 0, .int .i64 0, .int .i64 0, .bool false] 110):=by rw[←hw6];exact heap_alloc_new w5 _
 obtain⟨w7,hw7⟩:∃w7,w6.alloc (.cells #[.int .i64 119, .int .i64 101, .int .i64 39, .int .i64 114, .int .i64 101, .int .i64 32, .int .i64 111, .int .i64 110] 3)=w7:=⟨_,rfl⟩
 have hb7:Below w6.heap.size w6 w7:=hw7▸below_alloc w6 _
 have hS7:SlI w7 (some ⟨w6.heap.size,0,none⟩) 8 8 A3:=by rw[←hw7];exact sl_lit8 w6 A3 _ rfl _ 8 rfl rfl (by omega) _
 have hb57:=hb6.trans (hb7.mono hb6.size)
 have hp7:PtR w7 w5.heap.size g none [] 0 0 false:=⟨0,(hb7.block _ (by rw[←hw6];simp)).trans hx6,Sl.none⟩
 have hG:=pgrow_calls w7 (hT5.below hb57) may_V5 (by simp) mayTab_us (by omega) (by omega) (by omega) hp7 (fun h=>absurd h.2 (Nat.lt_irrefl _)) hS7 (show 0+8≤100000 by omega) (show(0:Int)+((0+8:Nat):Int)<1000000 by omega) rfl (check_3 bytes_3) (by omega) (by omega)
 rw[List.nil_append]at hG
 have HG:=Lib.hid hG
 have HZ6:Hid (w6.heap.size=w5.heap.size+1):=Lib.hid (by rw[←hw6];simp)
 have HW6:=Lib.hid hw6
 have HW7:=Lib.hid hw7
 have HB7:Hid (Below w.heap.size w w7):=Lib.hid (HB3.out.trans ((hb5.trans (hb57.mono hb5.size)).mono HB3.out.size))
 have HSZ:Hid (w5.heap.size<w7.heap.size∧w.heap.size≤w3.heap.size∧w3.heap.size≤w5.heap.size):=Lib.hid ⟨by have:=hp7.lt;exact this,HB3.out.size,hb5.size⟩
 clear hb5 hcod hT5 hb6 hx6 hw6 hw7 hb7 hS7 hb57 hp7 hG
 go_wp2_with (go_at_call 26;refine(pnew_calls g w5).mono ?_;rintro E W6 ⟨rfl,rfl⟩)
 rw[HW6.out,←HZ6.out,HW7.out]
 go_at_call 27
 refine HG.out.mono ?_
 rintro E w8 ⟨v8,rfl,o8,P8,ho8,hc8,hp8,hs8,hf8,-,hk8⟩
 have hcm:comT V5 [] 2 usR A3 false= [119,101,39,114,101]:=by
  have h1:=com_3 (split_ok (V:=V5) (N:=[]) (kind:=2) (final:=false) mayTab_us (check_3 bytes_3)) bytes_3
  have h2:sumP (decd (splitF 2 usR A3 false))=5:=n_3
  unfold comT
  rw[h1,h2];rfl
 have hcb:=comB_le (V:=V5) (N:=[]) (kind:=2) (T:=usR) mayTab_us (e:=false) (A:=A3) (check_3 bytes_3)
 rw[hcm]at ho8 hp8
 rw[n_3]at hp8 hf8
 obtain⟨a8,k8,rfl,-⟩:=ho8.sl
 have e5:A3.drop 5= [32,111,110]:=by decide +kernel
 rw[e5]at hp8 hf8
 have hb8:Below w3.heap.size w7 w8:=hk8.below (Nat.le_trans HSZ.out.2.2 (Nat.le_of_lt HSZ.out.1)) (fun q hq=>hq.elim (fun h=>h.1) (fun h=>h▸HSZ.out.2.2))
 obtain⟨w9,hw9⟩:∃w9,w8.alloc (.cells #[.int .i64 32] 3)=w9:=⟨_,rfl⟩
 have hb9:Below w8.heap.size w8 w9:=hw9▸below_alloc w8 _
 have hS9:SlI w9 (some ⟨w8.heap.size,0,none⟩) 1 1 [32]:=by rw[←hw9];exact sl_lit8 w8 [32] _ rfl _ 1 rfl rfl (by omega) _
 have hp8':PtR w8 w5.heap.size g o8 [32,111,110] 5 5 false:=by simpa using hp8
 have hp9:PtR w9 w5.heap.size g o8 [32,111,110] 5 5 false:=hp8'.stay (hb9.block _ hp8'.lt) (fun ad e h0=>hb9.block _ (hp8'.olt ad e h0))
 have hpn:¬P8 w5.heap.size:=fun hq=>by
  rcases hs8 _ hq with h | h
  ·exact absurd h.2 (Nat.lt_irrefl _)
  ·have:=HSZ.out.1;omega
 have h42:checkF V5 [] [32,111,110,32]=0:=check_3 bytes_4
 have hG:=pgrow_calls w9 (hc8.below hb9) may_V5 (by simp) mayTab_us (by omega) (by omega) (by omega) hp9 hpn hS9 (show 3+1≤100000 by omega) (by
  have h2:A3.length=8:=rfl
  show(0:Int)+comB 2 usR A3 false+((3+1:Nat):Int)<1000000
  omega) (check_3 (by decide +kernel)) (check_3 (by decide +kernel)) (by omega) (by omega)
 rw[show([32,111,110]:List Int)++ [32]= [32,111,110,32] from rfl]at hG
 have HG:=Lib.hid hG
 have HP8:=Lib.hid hp8'
 have HW9:=Lib.hid hw9
 have HB9:Hid (Below w.heap.size w w9):=Lib.hid (HB7.out.trans ((hb8.trans (hb9.mono (Nat.le_trans (Nat.le_trans HSZ.out.2.2 (Nat.le_of_lt HSZ.out.1)) hb8.size))).mono HSZ.out.2.1))
 have HP8S:=Lib.hid (And.intro hs8 hc8.lt)
 have HZ8:Hid (w7.heap.size≤w8.heap.size∧w8.heap.size≤w9.heap.size):=Lib.hid ⟨hk8.size,hb9.size⟩
 clear hG hcb hcm ho8 hc8 hp8 hs8 hf8 hk8 hb8 hw9 hb9 hS9 hp8' hp9 hpn e5 h42
 go_wp2_with (go_at_call 31;refine(pat_calls HP8.out).mono ?_;rintro E W8 ⟨rfl,rfl⟩)
 rw[HW9.out]
 go_at_call 27
 refine HG.out.mono ?_
 rintro E w10 ⟨v10,rfl,o10,P10,ho10,hc10,hp10,hs10,hf10,-,hk10⟩
 have hcm:comT V5 [] 2 usR [32,111,110,32] false= [32,111,110]:=by
  have h1:=com_3 (split_ok (V:=V5) (N:=[]) (kind:=2) (final:=false) mayTab_us (check_3 bytes_4)) bytes_4
  have h2:sumP (decd (splitF 2 usR [32,111,110,32] false))=3:=n_4
  unfold comT
  rw[h1,h2];rfl
 rw[hcm]at ho10 hp10
 rw[n_4]at hp10
 have hp10':PtR w10 w5.heap.size g o10 [32] 8 8 false:=by simpa using hp10
 obtain⟨a10,k10,rfl,-⟩:=ho10.sl
 obtain⟨cb10,hcod10⟩:=hc10.cod
 have hO:=popen_calls hcod10 hp10' (by simp) mayTab_us (by omega) (by omega)
 rw[open_3]at hO
 have hb10:Below w3.heap.size w9 w10:=hk10.below (by have:=HSZ.out;have:=HZ8.out;omega) (fun q hq=>hq.elim (fun h=>by
  rcases HP8S.out.1 q h with h2 | h2
  ·exact h2.1
  ·have:=HSZ.out;omega) (fun h=>h▸HSZ.out.2.2))
 have HO:=Lib.hid hO
 have HP10:=Lib.hid hp10'
 have HB10:Hid (Below w.heap.size w w10):=Lib.hid (HB9.out.trans (hb10.mono HSZ.out.2.1))
 clear hcm ho10 hc10 hp10 hp10' hs10 hf10 hk10 hcod10 hO hb10
 go_wp2_with (first
  | (go_at_call 43;refine(ptok_calls HP10.out).mono ?_;rintro E W10 ⟨rfl,rfl⟩)
  | (go_at_call 28;refine HO.out.mono ?_;rintro E w11 ⟨rfl,hb11⟩;have HB11:=Lib.hid hb11;clear hb11))
 go_ret
 exact⟨rfl,HB10.out.trans (HB11.out.mono HB10.out.size)⟩
end Go.Proofs.YtimkkkdabmhedaaGreatDoor
