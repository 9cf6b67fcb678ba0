/- Walks: the document's merging: Find, Best, Step, Run. -/
import Derived.Test.YtimkkkdabmhedaaGreatDoorF7
import Derived.Test.YtimkkkdabmhedaaGreatDoorF1
set_option linter.unusedVariables false
set_option maxHeartbeats 2000000
set_option maxRecDepth 100000
namespace Go.Proofs.YtimkkkdabmhedaaGreatDoor
open Go.RowKit Go.Sort
theorem ld3 {P:Program} {w:World} {b o:Nat} {x y z:Value} (h0:w.cell? ⟨b,o,none⟩=some x) (h1:w.cell? ⟨b,o+1,none⟩=some y) (h2:w.cell? ⟨b,o+2,none⟩=some z):
  Sem.run P (loadCellsFrom ⟨b,o,none⟩ 0 3 #[]) w= .ok #[x,y,z] w:=
 run_loadCellsFrom_list P w ⟨b,o,none⟩ [x,y,z] 3 rfl (fun j v hj=>by
  rw[Addr.add_lit]
  match j,hj with
  | 0,hj=>simp at hj;subst hj;exact h0
  | 1,hj=>simp at hj;subst hj;exact h1
  | 2,hj=>simp at hj;subst hj;exact h2
  | j+3,hj=>simp at hj)
theorem find10_g {V:Vc} {ta ma sa:Option Addr} {tn tc mn mc sn sc:Nat} (x y:Int) (w:World) (hM:SlF 4 w ma mn mc (flat Mg.enc V.merges)) (hm:mn<=16384):
  Calls Tryz.prog 187 #[.agg #[.slice ta tn tc, .slice ma mn mc, .slice sa sn sc], .int .i64 x, .int .i64 y] w
   fun e w'=>e= .returned (.int .i64 (ixM V.merges x y))/\∃q os,w'=grow (w.drewN q) os:=by
 obtain⟨w0,hw0⟩:∃w0,w.alloc (.cells #[.slice ta tn tc, .slice ma mn mc, .slice sa sn sc] 26)=w0:=⟨_,rfl⟩;have hb0:Below w.heap.size w w0:=hw0▸aA w _;have hx0:w0.heap[w.heap.size]?=some (.cells #[.slice ta tn tc, .slice ma mn mc, .slice sa sn sc] 26):=by rw[<-hw0];exact heap_alloc_new w _
 obtain⟨b0,b1,b2⟩:=qA hx0;have HG:Hid (∃q os,w0=grow (w.drewN q) os):=hW_ ⟨0,#[.cells #[.slice ta tn tc, .slice ma mn mc, .slice sa sn sc] 26],by rw[<-hw0,alloc_eq_grow];rfl⟩;have HL:=hW_ (hM.count Mg.enc_len (by omega));have HM:=hW_ (hM.below hb0);have HW0:=hW_ hw0;clear hM hb0 hx0 hw0;go_enter Tryz.func187,Tryz.ntmps187;go_wp2_with (fail);rw[HW0.out];go_wp2_with (fail);go_loop [7,11] (fun _ i=>∃k:Nat,k<=mn/\i= .int .i64 k/\Hid (∀j z,j<k->V.merges[j]?=some z->wM x y z=false)) (fun _ i=>mn-(intOf i).toNat)
 case atStart=>exact⟨0,Nat.zero_le _,rfl,hW_ (fun j z h=>by omega)⟩
 case round=>
  obtain⟨k,hk,rfl,hno⟩:=hrel
  by_cases hlt:k<mn
  ·have gk:(k:Int)<(mn:Int):=by omega
   have hkM:k<V.merges.length:=by have:=HL.out;omega
   obtain⟨b,of,rfl,hce⟩:=HM.out.elem Mg.enc_len (by omega) (List.getElem?_eq_getElem hkM);obtain⟨⟨l,r,o,d⟩,hseq⟩:∃m,V.merges[k]=m:=⟨_,rfl⟩;rw[hseq]at hce;have HAT:Hid (V.merges[k]?=some ⟨l,r,o,d⟩):=hW_ (by rw[List.getElem?_eq_getElem hkM,hseq]);have d0:=hce 0 _ rfl;have d1:=hce 1 _ rfl;rw[Nat.add_zero]at d0;simp only at d0 d1;have HNX:Hid (wM x y ⟨l,r,o,d⟩=false->∀j z,j<k+1->V.merges[j]?=some z->wM x y z=false):=hW_ (fun g j z hj hz=>by
    by_cases e:j=k
    ·subst e;obtain rfl:=Option.some.inj (HAT.out.symm.trans hz);exact g
    ·exact hno.out j z (by omega) hz)
   clear hce hseq hkM
   by_cases hl:l=x
   ·have n1:(l==x)=true:=by simpa using hl
    by_cases hr:r=y
    ·have n2:(r==y)=true:=by simpa using hr
     have HF:Hid (ixM V.merges x y=k):=hW_ (pY HAT.out (by unfold wM;simp[hl,hr]) hno.out).1;clear hl hr;go_wp2_with (fail);go_ret;exact⟨nD HF.out.symm,HG.out⟩
    ·have n2:(r==y)=false:=by simpa using hr
     have HN2:=hW_ (HNX.out (by unfold wM;simp[hr]));clear hl hr;go_wp2_with (fail);go_round
     case rel=>exact⟨k+1,by omega,by go_num,HN2⟩
     case measure=>simp[intOf];omega
   ·have n1:(l==x)=false:=by simpa using hl
    have HN2:=hW_ (HNX.out (by unfold wM;simp[hl]));clear hl;go_wp2_with (fail);go_round
    case rel=>exact⟨k+1,by omega,by go_num,HN2⟩
    case measure=>simp[intOf];omega
  ·have HF:Hid (ixM V.merges x y= -1):=hW_ (oY (fun j z hz=>hno.out j z (by have:=(List.getElem?_eq_some_iff.1 hz).1;have:=HL.out;omega) hz)).1;go_wp2_with (fail);go_ret;exact⟨nD HF.out.symm,HG.out⟩
theorem zD.q {M:List Mg} {row:List Int} {i:Nat} {p q:Int} (h:zD M row i p q):q= -1\/∃(k0 j0:Nat) (z:Mg),p=j0/\q=k0/\M[k0]?=some z:=by
 rcases h with⟨h1,h2,h3⟩ | ⟨j,k,m,a,b,h1,h2,h3,h4,h5,h6,h7,h8⟩
 ·exact .inl h2
 ·exact .inr ⟨k,j,m,h1,h2,h6⟩
theorem eW {V:Vc} {R:List Int} {ta ma sa ro:Option Addr} {tn tc mn mc sn sc rn rc:Nat} (w:World) (hM:SlF 4 w ma mn mc (flat Mg.enc V.merges)) (hm:mn<=16384) (hR:SlI w ro rn rc R) (hrn:rn<=1000000):
  Calls Tryz.prog 179 #[.agg #[.slice ta tn tc, .slice ma mn mc, .slice sa sn sc], .slice ro rn rc] w
   fun e w'=>(∃p q,e= .returned (.tuple #[.int .i64 p, .int .i64 q])/\BestIs V.merges R p q)/\Below w.heap.size w w':=by
 obtain⟨w0,hw0⟩:∃w0,w.alloc (.cells #[.slice ta tn tc, .slice ma mn mc, .slice sa sn sc] 26)=w0:=⟨_,rfl⟩;have hb0:Below w.heap.size w w0:=hw0▸aA w _;have hx0:w0.heap[w.heap.size]?=some (.cells #[.slice ta tn tc, .slice ma mn mc, .slice sa sn sc] 26):=by rw[<-hw0];exact heap_alloc_new w _
 have hs0:w.heap.size<w0.heap.size:=by rw[<-hw0];simp
 have HL:=hW_ (hM.count Mg.enc_len (by omega));have HM:=hW_ (hM.below hb0);have HR:=hW_ (Sl.below hR hb0);have HRL:=hW_ hR.len;have HX0:=hW_ hx0;have HB0:=hW_ hb0;have HW0:=hW_ hw0;clear hM hR hb0 hx0 hw0;go_enter Tryz.func179,Tryz.ntmps179;go_wp2_with (fail);rw[HW0.out];go_wp2_with (fail);go_loopw [6,7,8,9] (fun a b i _ wr=>∃(k:Nat) (p q:Int),i= .int .i64 k/\a= .int .i64 p/\b= .int .i64 q/\k<=rn/\Hid (zD V.merges R k p q)/\Below w0.heap.size w0 wr) (fun _ _ i _ _=>rn-(intOf i).toNat)
 case atStart=>exact⟨0,-1,-1,rfl,rfl,rfl,Nat.zero_le _,hW_ (zD.zero _ _),Below.refl _ _⟩
 case round=>
  obtain⟨k,p,q,rfl,rfl,rfl,hk,HT,hb⟩:=hrel;have HB:=hW_ hb;have hwk:IntKind.i64.wrap ((k:Int)+1)=((k+1:Nat):Int):=by rw[IntKind.wrap_i64];omega
  by_cases hlt:k+1<rn
  ·have gk:((k+1:Nat):Int)<(rn:Int):=by omega
   have hbx:=(hb.block w.heap.size hs0).trans HX0.out;obtain⟨b0,b1,b2⟩:=qA hbx;have hRb:=Sl.below HR.out hb;obtain⟨rb,ro',hao,hc1⟩:=SlI.at_ hRb (i:=k) (by omega);obtain⟨rb2,ro2,hao2,hc2⟩:=SlI.at_ hRb (i:=k+1) hlt;subst hao;obtain⟨rfl,rfl⟩:rb=rb2/\ro'=ro2:=by simpa using hao2
   have HE1:=hW_ (uD (A:=R) (i:=k) (by have:=HRL.out;omega));have HE2:=hW_ (uD (A:=R) (i:=k+1) (by have:=HRL.out;omega));obtain⟨x,hx⟩:∃s,ix R k=s:=⟨_,rfl⟩;obtain⟨y,hy⟩:∃s,ix R (k+1)=s:=⟨_,rfl⟩;rw[hx]at hc1 HE1;rw[hy]at hc2 HE2;clear hx hy hao2 hRb;have hltb:w.heap.size<wr.heap.size:=World.block_lt_of_cell? wr _ b0;have hltr:rb<wr.heap.size:=World.block_lt_of_cell? wr _ hc1;have r0:=cell_grown (w:=wr) hltb b0;have r1:=cell_grown (w:=wr) hltb b1;have r2:=cell_grown (w:=wr) hltb b2;have r3:=cell_grown (w:=wr) hltr hc1;have r4:=cell_grown (w:=wr) hltr hc2;have l1:=fun n os=>ld3 (P:=Tryz.prog) (r0 n os) (r1 n os) (r2 n os)
   have hfd:=fun n os=>find10_g (V:=V) (ta:=ta) (sa:=sa) (tn:=tn) (tc:=tc) (mc:=mc) (sn:=sn) (sc:=sc) x y (grow (wr.drewN n) os) (HM.out.below (HB.out.trans ((fC _ _ _).mono HB.out.size))) hm
   have hdk:decide (((k:Int)+1)<(rn:Int))=true:=by simp;omega
   have hmix:=C7;rcases aCF V.merges x y with⟨hi,hf⟩ | ⟨j,z,hi,hj,hf⟩
   ·rw[hi]at hfd;have HT2:=hW_ (HT.out.skip HE1.out HE2.out hf);clear hi hf hb;go_wp2_with (fail);refine wp_region_quiet_grown (by assumption) (by kernel_rfl) ?_
    repeat (any_goals (first | go_big_quiet_step ((go_at_call 187;exact Calls.grown_of (hfd _ _))) | quiet_step ((go_at_call 187;exact Calls.grown_of (hfd _ _)))))
    refine wpQuiet_nil ?_
    intro _ hw';obtain⟨⟨nq2,osq2⟩,hw''⟩:=hw';subst hw'';have HB2:=hW_ (HB.out.trans ((fC wr nq2 osq2).mono HB.out.size));have s1:=r1 nq2 osq2;obtain⟨wq,hwq⟩:∃wq,grow (wr.drewN nq2) osq2=wq:=⟨_,rfl⟩;rw[hwq]at HB2 s1 |-;clear hwq r0 r1 r2 r3 r4 l1 hfd b0 b1 b2 hc1 hc2 hbx;go_wp2_with (fail);go_quiet (fail);go_wp2_with (fail);go_roundw
    case rel=>exact⟨k+1,p,q,by go_num,rfl,rfl,by omega,HT2,bA HB2.out _⟩
    case measure=>simp[intOf];omega
   ·rw[hi]at hfd;have HJ:=hW_ hj;have HF:=hW_ hf;have hjm:j<mn:=by have:=(List.getElem?_eq_some_iff.1 hj).1;have:=HL.out;omega
    have gj:decide ((j:Int)>=0)=true:=by simp
    clear hi hf hb hj;rcases HT.out.q with hq | ⟨k0,j0,z0,hp,hq,hz0⟩
    ·subst hq;have HT2:=hW_ (HT.out.take HE1.out HE2.out HF.out HJ.out (.inl (by omega)));go_wp2_with (fail);refine wp_region_quiet_grown (by assumption) (by kernel_rfl) ?_
     repeat (any_goals (first | go_big_quiet_step ((go_at_call 187;exact Calls.grown_of (hfd _ _))) | quiet_step ((go_at_call 187;exact Calls.grown_of (hfd _ _)))))
     refine wpQuiet_nil ?_
     intro _ hw';obtain⟨⟨nq2,osq2⟩,hw''⟩:=hw';subst hw'';have HB2:=hW_ (HB.out.trans ((fC wr nq2 osq2).mono HB.out.size));have s1:=r1 nq2 osq2;obtain⟨wq,hwq⟩:∃wq,grow (wr.drewN nq2) osq2=wq:=⟨_,rfl⟩;rw[hwq]at HB2 s1 |-;clear hwq r0 r1 r2 r3 r4 l1 hfd b0 b1 b2 hc1 hc2 hbx;go_wp2_with (fail);go_quiet (fail);go_wp2_with (fail);go_roundw
     case rel=>exact⟨k+1,k,j,by go_num,rfl,rfl,by omega,HT2,bA HB2.out _⟩
     case measure=>simp[intOf];omega
    ·subst hq hp;have HZ:=hW_ hz0;have hkm:k0<mn:=by have:=(List.getElem?_eq_some_iff.1 hz0).1;have:=HL.out;omega
     have gk0:decide ((k0:Int)<0)=false:=by simp
     clear hz0;go_wp2_with (fail);refine wp_region_quiet_grown (by assumption) (by kernel_rfl) ?_
     repeat (any_goals (first | go_big_quiet_step ((go_at_call 187;exact Calls.grown_of (hfd _ _))) | quiet_step ((go_at_call 187;exact Calls.grown_of (hfd _ _)))))
     refine wpQuiet_nil ?_
     intro _ hw';obtain⟨⟨nq2,osq2⟩,hw''⟩:=hw';subst hw'';have HB2:=hW_ (HB.out.trans ((fC wr nq2 osq2).mono HB.out.size));have s1:=r1 nq2 osq2;obtain⟨wq,hwq⟩:∃wq,grow (wr.drewN nq2) osq2=wq:=⟨_,rfl⟩;rw[hwq]at HB2 s1 |-;clear hwq r0 r1 r2 r3 r4 l1 hfd b0 b1 b2 hc1 hc2 hbx;obtain⟨mb,mf,hma,hce⟩:=(HM.out.below HB2.out).elem Mg.enc_len (by omega) HJ.out;obtain⟨mb2,mf2,hma2,hce2⟩:=(HM.out.below HB2.out).elem Mg.enc_len (by omega) HZ.out;have d3:=hce 3 _ rfl;have e3:=hce2 3 _ rfl;subst hma;obtain⟨rfl,rfl⟩:mb=mb2/\mf=mf2:=by simpa using hma2
     obtain⟨o,ho⟩:∃o,z.order=o:=⟨_,rfl⟩;obtain⟨o0,ho0⟩:∃o,z0.order=o:=⟨_,rfl⟩;rw[ho]at d3;rw[ho0]at e3
     by_cases hlo:o<o0
     ·have glo:decide (o<o0)=true:=by simpa using hlo
      have HT2:=hW_ (HT.out.take HE1.out HE2.out HF.out HJ.out (.inr ⟨k0,z0,rfl,HZ.out,by omega⟩));clear hce hce2 hma2 ho ho0 hlo;go_wp2_with (fail);go_quiet (fail);go_wp2_with (fail);go_roundw
      case rel=>exact⟨k+1,k,j,by go_num,rfl,rfl,by omega,HT2,bA HB2.out _⟩
      case measure=>simp[intOf];omega
     ·have glo:decide (o<o0)=false:=by simpa using hlo
      have HT2:=hW_ (HT.out.keep HE1.out HE2.out HF.out HZ.out (by omega));clear hce hce2 hma2 ho ho0 hlo;go_wp2_with (fail);go_quiet (fail);go_wp2_with (fail);go_roundw
      case rel=>exact⟨k+1,j0,k0,by go_num,rfl,rfl,by omega,HT2,bA HB2.out _⟩
      case measure=>simp[intOf];omega
  ·have gk:¬((k+1:Nat):Int)<(rn:Int):=by omega
   have HF:=hW_ (HT.out.done (by have:=HRL.out;omega));go_wp2_with (fail);go_ret2;exact⟨⟨p,q,rfl,HF.out⟩,HB0.out.trans (HB.out.mono HB0.out.size)⟩
def StepIs (M:List Mg) (R:List Int) (w':World) (base:Nat) (v:Value) (b:Bool):Prop:=(b=false/\rK M R)\/(b=true/\∃i m,F2 M R i m/\i+2<=R.length/\Own w' base v (F6 R i m.out))
theorem U6 {V:Vc} {R:List Int} {ta ma sa ro:Option Addr} {tn tc mn mc sn sc rn rc:Nat} (w:World) (hM:SlF 4 w ma mn mc (flat Mg.enc V.merges)) (hm:mn<=16384) (hR:SlI w ro rn rc R) (hrn:rn<=1000000):
  Calls Tryz.prog 165 #[.agg #[.slice ta tn tc, .slice ma mn mc, .slice sa sn sc], .slice ro rn rc] w
   fun e w'=>(∃v b,e= .returned (.tuple #[v, .bool b])/\StepIs V.merges R w' w.heap.size v b)/\Below w.heap.size w w':=by
 obtain⟨i0,hi,hz0,hz1,hz2⟩:=info_parts aBw;obtain⟨w0,hw0⟩:∃w0,w.alloc (.cells #[.slice ta tn tc, .slice ma mn mc, .slice sa sn sc] 26)=w0:=⟨_,rfl⟩;have hb0:Below w.heap.size w w0:=hw0▸aA w _;have hx0:w0.heap[w.heap.size]?=some (.cells #[.slice ta tn tc, .slice ma mn mc, .slice sa sn sc] 26):=by rw[<-hw0];exact heap_alloc_new w _
 have HSZ0:Hid (w0.heap.size=w.heap.size+1):=hW_ (by rw[<-hw0];simp);obtain⟨b0,b1,b2⟩:=qA hx0;have l1:=ld3 (P:=Tryz.prog) b0 b1 b2;have HL:=hW_ (hM.count Mg.enc_len (by omega));have HM:=hW_ (hM.below hb0);have HR:=hW_ (SlI.below hR hb0);have HRL:=hW_ hR.len;have HX0:=hW_ hx0;have HB0:=hW_ hb0;have HW0:=hW_ hw0;clear hM hR hb0 hx0 hw0;go_enter Tryz.func165,Tryz.ntmps165;go_wp2_with (fail);rw[HW0.out];go_wp2_with (fail);go_at_call 179;refine(eW (V:=V) w0 HM.out hm HR.out hrn).mono ?_
 rintro e w1 ⟨⟨p,q,rfl,hpq⟩,hb1⟩;have HB1:=hW_ hb1;have HBW1:=hW_ (HB0.out.trans (hb1.mono HB0.out.size));obtain⟨c0,c1,c2⟩:=qA ((hb1.block _ (by have:=HSZ0.out;omega)).trans HX0.out);clear hb1 b0 b1 b2 l1;rcases hpq with⟨rfl,rfl,hno⟩ | ⟨i,k,m,rfl,rfl,hi2,hk,hbest⟩
 ·have HN:=hW_ hno;clear hno;go_wp2_with (fail);go_ret2;exact⟨⟨_,_,rfl, .inl ⟨rfl,HN.out⟩⟩,HBW1.out.alloc HBW1.out.size _⟩
 ·have hkm:k<mn:=by have:=(List.getElem?_eq_some_iff.1 hk).1;have:=HL.out;omega
  have hin:i+2<=rn:=by have:=HRL.out;omega
  obtain⟨mb,mf,hma,hce⟩:=(HM.out.below HB1.out).elem Mg.enc_len (by omega) hk;have d2:=hce 2 _ rfl;obtain⟨o,ho⟩:∃o,m.out=o:=⟨_,rfl⟩;rw[ho]at d2;have HO:=hW_ ho;subst hma;have HBEST:=hW_ hbest;have gk:decide ((k:Int)<0)=false:=by simp
  have hw2:IntKind.i64.wrap ((i:Int)+2)=((i+2:Nat):Int):=by rw[IntKind.wrap_i64];omega
  have HR1:=hW_ (fun(W:World) (h:Below w1.heap.size w1 W)=>(HR.out.below HB1.out).below h);have hown:=hW_ (K5 w1);have HCV:=hW_ (fun(W:World) (h:Below w1.heap.size w1 W)=>And.intro (dA h _ _ c1) (dA h _ _ d2));have HRLT:Hid ((R.take i).length=i):=hW_ (by rw[List.length_take];have:=HRL.out;omega);clear hbest hk hce ho c0 hi2;go_wp2_with (first
   | (with_reducible show wpList _ _ _ (⟨_, .slice _ _ none (some _) none,_,_,_,_⟩::_) _ _;refine gJ rfl 43 _ _ rfl 3 i0 Tryz.underlying43 hi hz1 (k:=i) rfl (HR1.out _ (aA w1 _)) rfl rfl (by omega) ?_;intro hs1;have HS1:=hW_ hs1;clear hs1)
   | (with_reducible show wpList _ _ _ (⟨_, .slice _ _ (some _) none none,_,_,_,_⟩::_) _ _;refine uQ rfl 43 _ _ rfl 3 i0 Tryz.underlying43 hi hz1 (k:=i+2) rfl (HR1.out _ HB3.out) rfl rfl (by omega) ?_;intro bo hs3;have HS3:=hW_ hs3;clear hs3)
   | (at_builtin;refine pD rfl _ _ 43 rfl (base:=w1.heap.size) i0 Tryz.underlying43 hi hz0 hz1 hz2 rfl hown.out rfl HS1.out (by simp;omega) (by simp) ?_;intro v1 w2 ho1 hg1 hb1;have HO1:=hW_ ho1;have HB2:=hW_ ((aA w1 _).trans hb1);obtain⟨q1,q2⟩:=HCV.out _ HB2.out;clear ho1 hg1 hb1 c1 d2)
   | (at_builtin;refine pD rfl _ _ 43 rfl (base:=w1.heap.size) i0 Tryz.underlying43 hi hz0 hz1 hz2 rfl (Own.alloc HO1.out _) rfl (SlI.one _ o _) (by have:=HRLT.out;simp;omega) (by have:=HB2.out.size;simp;omega) ?_;intro v2 w3 ho2 hg2 hb2;have HO2:=hW_ ho2;have HB3:=hW_ ((HB2.out.alloc HB2.out.size _).trans hb2);clear ho2 hg2 hb2)
   | (at_builtin;refine pD rfl _ _ 43 rfl (base:=w1.heap.size) i0 Tryz.underlying43 hi hz0 hz1 hz2 rfl HO2.out rfl HS3.out (by have:=HRLT.out;simp;omega) HB3.out.size ?_;intro v3 w4 ho3 hg3 hb3;have HO3:=hW_ ho3;have HB4:=hW_ (HB3.out.trans hb3);clear ho3 hg3 hb3))
  go_ret2;refine⟨⟨_,_,rfl, .inr ⟨rfl,i,m,HBEST.out,by have:=HRL.out;omega,?_⟩⟩,HBW1.out.trans (HB4.out.mono HBW1.out.size)⟩;have h:=HO3.out;rw[List.nil_append,<-HO.out,List.append_assoc]at h;exact Own.mono h HBW1.out.size
theorem eX {V:Vc} {R:List Int} {ta ma sa ro:Option Addr} {tn tc mn mc sn sc rn rc base:Nat} (w:World) (hM:SlF 4 w ma mn mc (flat Mg.enc V.merges)) (hm:mn<=16384) (hR:Own w base (.slice ro rn rc) R) (hrn:rn<=1000000) (hbase:base<=w.heap.size):
  Calls Tryz.prog 134 #[.agg #[.slice ta tn tc, .slice ma mn mc, .slice sa sn sc], .slice ro rn rc] w
   fun e w'=>(∃v,e= .returned v/\Own w' base v (yG V.merges R.length R))/\Below w.heap.size w w':=by
 obtain⟨w0,hw0⟩:∃w0,w.alloc (.cells #[.slice ta tn tc, .slice ma mn mc, .slice sa sn sc] 26)=w0:=⟨_,rfl⟩;have hb0:Below w.heap.size w w0:=hw0▸aA w _;have hx0:w0.heap[w.heap.size]?=some (.cells #[.slice ta tn tc, .slice ma mn mc, .slice sa sn sc] 26):=by rw[<-hw0];exact heap_alloc_new w _
 have HSZ0:Hid (w0.heap.size=w.heap.size+1):=hW_ (by rw[<-hw0];simp);have HM:=hW_ (hM.below hb0);have HR:=hW_ (hR.below hb0);have HRL:Hid (R.length=rn):=hW_ (by
  obtain⟨_,_,e,_⟩:=hR.sl;obtain⟨-,e2,-⟩:=Value.slice.inj e;exact e2.symm)
 have HX0:=hW_ hx0;have HB0:=hW_ hb0;have HW0:=hW_ hw0;clear hM hR hb0 hx0 hw0;go_enter Tryz.func134,Tryz.ntmps134;go_wp2_with (fail);rw[HW0.out];go_wp2_with (fail);go_loopw [5,6,7,11,13] (fun v _ _ i _ wr=>∃(k:Nat) (out:List Int),i= .int .i64 k/\k<=rn/\Hid (pK V.merges R k out)/\Hid (Own wr base v out)/\Below w0.heap.size w0 wr) (fun _ _ _ i _ _=>rn-(intOf i).toNat)
 case atStart=>exact⟨0,R,rfl,Nat.zero_le _,hW_ (pK.zero _ _),HR,Below.refl _ _⟩
 case round=>
  obtain⟨k,out,rfl,hk,HT,HO,hb⟩:=hrel;have HB:=hW_ hb
  by_cases hlt:k<rn
  ·have gk:(k:Int)<(rn:Int):=by omega
   have hbx:=(hb.block w.heap.size (by have:=HSZ0.out;omega)).trans HX0.out;obtain⟨b0,b1,b2⟩:=qA hbx;have l1:=ld3 (P:=Tryz.prog) b0 b1 b2;obtain⟨oo,oc,rfl,hsl⟩:=Own.sl HO.out;have hol:out.length<=1000000:=by have:=HT.out.2;have:=HRL.out;omega
   have HSL:=hW_ hsl;clear hb hsl;go_wp2_with (fail);go_at_call 165;refine(U6 (V:=V) wr (HM.out.below HB.out) hm HSL.out hol).mono ?_
   rintro e w1 ⟨⟨v,b,rfl,hst⟩,hb1⟩;have HB1:=hW_ (HB.out.trans (hb1.mono HB.out.size));have HO1:=hW_ (HO.out.below hb1);have hbase2:base<=wr.heap.size:=by have:=HB.out.size;have:=HSZ0.out;omega
   clear hb1;rcases hst with⟨rfl,hno⟩ | ⟨rfl,i,m,hbest,-,hown⟩
   ·have HF:=hW_ (HT.out.stop hno);clear hno;go_wp2_with (fail);go_ret;exact⟨⟨_,rfl,by rw[HF.out];exact HO1.out⟩,HB0.out.trans (HB1.out.mono HB0.out.size)⟩
   ·have HT2:=hW_ (HT.out.next (by have:=HRL.out;omega) hbest);have HO2:=hW_ (Own.mono hown hbase2);clear hbest hown;go_wp2_with (fail);go_roundw
    case rel=>exact⟨k+1,_,by go_num,by omega,HT2,HO2,HB1.out⟩
    case measure=>simp[intOf];omega
  ·have HF:=hW_ (HT.out.done (by have:=HRL.out;omega));go_wp2_with (fail);go_ret;exact⟨⟨_,rfl,by rw[HF.out];exact HO.out⟩,HB0.out.trans (HB.out.mono HB0.out.size)⟩
open Go
def jB (final:Bool) (n:Int):Nat->Int->Int->Int->List Int->Int×Int×Bool
 | 0,p,_,_,_=>(p,n,false)
 | _+1,_,_,_,[]=>if final then(-1,1,false)else(-1,0,true)
 | k+1,p,lo,hi,x::l=>if x<lo\/hi<x then(-1,1,false)else jB final n k (p*64+x % 64) 128 191 l
def A0 (c:Int):Nat×Int×Int×Int:=
 if c<128 then(1,c,0,0)
 else if c<194\/244<c then(0,0,0,0)
 else if c<224 then(2,c % 32,128,191)
 else if c=224 then(3,0,160,191)
 else if c=237 then(3,c % 16,128,159)
 else if c<240 then(3,c % 16,128,191)
 else if c=240 then(4,0,144,191)
 else if c=244 then(4,c % 8,128,143)
 else(4,c % 8,128,191)
def dec (final:Bool):List Int->Int×Int×Bool
 | []=>(-1,0,true)
 | c::l=>if(A0 c).1=0 then(-1,1,false)else jB final (A0 c).1 ((A0 c).1-1) (A0 c).2.1 (A0 c).2.2.1 (A0 c).2.2.2 l
theorem aBC {final:Bool} {n:Int}:∀{k:Nat} {p lo hi:Int} {l:List Int},(n=(k:Int)+1\/(k:Int)+1<=n)->1<=n->
  let r:=jB final n k p lo hi l
  (r.2.2=true->final=false/\r.2.1=0)/\(r.2.2=false->1<=r.2.1/\r.2.1<=n/\(r.2.1=1\/(r.2.1=n/\k<=l.length)))
 | 0,p,lo,hi,l,_,h1=>by simp[jB,h1]
 | k+1,p,lo,hi,[],_,h1=>by
  cases final<;>simp[jB,h1]
 | k+1,p,lo,hi,x::l,h,h1=>by
  simp only[jB];split
  ·simp[h1]
  ·have ih:=aBC (final:=final) (n:=n) (k:=k) (p:=p*64+x % 64) (lo:=128) (hi:=191) (l:=l) (by omega) h1;refine⟨ih.1,fun h2=> ?_⟩;obtain⟨a,b,c⟩:=ih.2 h2;refine⟨a,b,c.imp_right fun⟨e,f⟩=>⟨e,by simp;omega⟩⟩
theorem X8 (c:Int):(A0 c).1<=4:=by
 unfold A0
 repeat' split
 all_goals simp
theorem N8 {final:Bool} {b:List Int} (hb:b≠[]):((dec final b).2.2=true->final=false/\(dec final b).2.1=0)/\((dec final b).2.2=false->1<=(dec final b).2.1/\(dec final b).2.1<=b.length/\(dec final b).2.1<=4):=by
 cases b with
 | nil=>exact absurd rfl hb
 | cons c l=>
  simp only[dec];have h4:=X8 c;split
  ·simp;omega
  ·next h0=>
   have h:=aBC (final:=final) (n:=((A0 c).1:Int)) (k:=(A0 c).1-1) (p:=(A0 c).2.1) (lo:=(A0 c).2.2.1) (hi:=(A0 c).2.2.2) (l:=l) (by omega) (by omega);refine⟨h.1,fun h2=> ?_⟩;obtain⟨a,b',c'⟩:=h.2 h2;refine⟨a,?_,by omega⟩;simp only[List.length_cons];omega
structure Pt where
 code:Int
 cls:Int
 n:Int
 sure:Bool
instance :Inhabited Pt:=⟨⟨0,0,0,false⟩⟩
def uC (t:List Rg) (p:Int):Int:=match t.find? (fun r=>decide (r.lo<=p) && decide (p<=r.hi))with
 | some r=>r.cls
 | none=>0
def yA:Pt:=⟨-1,0,1,false⟩
def lN (t:List Rg):Nat->List Int->List Pt
 | 0,_=>[]
 | k+1,b=>if b= []then []else if(dec false b).2.2=true then b.map (fun _=>yA)
  else⟨(dec false b).1,uC t (dec false b).1,(dec false b).2.1,true⟩::lN t k (b.drop (dec false b).2.1.toNat)
def pts (t:List Rg) (b:List Int):List Pt:=lN t b.length b
theorem K4 (t:List Rg) (k:Nat):lN t k []= []:=by cases k<;>simp[lN]
theorem cR (t:List Rg):∀{k j:Nat} {b:List Int},b.length<=k->b.length<=j->lN t k b=lN t j b
 | 0,j,b,h,_=>by
  have:b= []:=List.eq_nil_of_length_eq_zero (by omega);subst this;rw[K4,K4]
 | k+1,0,b,_,h=>by
  have:b= []:=List.eq_nil_of_length_eq_zero (by omega);subst this;rw[K4,K4]
 | k+1,j+1,b,h1,h2=>by
  simp only[lN]
  by_cases hb:b= []
  ·simp[hb]
  ·rw[if_neg hb,if_neg hb];split
   ·rfl
   ·next hm=>
    have hn:=(N8 (final:=false) hb).2 (by simpa using hm);rw[cR t (k:=k) (j:=j) (b:=b.drop (dec false b).2.1.toNat) (by simp;omega) (by simp;omega)]
theorem aBe (t:List Rg):pts t []= []:=rfl
theorem xJ (t:List Rg) {b:List Int} (hb:b≠[]) (hm:(dec false b).2.2=true):pts t b=b.map (fun _=>yA):=by
 unfold pts
 cases b with
 | nil=>exact absurd rfl hb
 | cons c l=>simp only[List.length_cons,lN];rw[if_neg (by simp),if_pos hm]
theorem F8 (t:List Rg) {b:List Int} (hb:b≠[]) (hm:(dec false b).2.2=false):
  pts t b=⟨(dec false b).1,uC t (dec false b).1,(dec false b).2.1,true⟩::pts t (b.drop (dec false b).2.1.toNat):=by
 have hn:=(N8 (final:=false) hb).2 hm;unfold pts
 cases b with
 | nil=>exact absurd rfl hb
 | cons c l=>
  simp only[List.length_cons,lN];rw[if_neg (by simp),if_neg (by rw[hm];simp)];rw[cR t (k:=l.length) (j:=((c::l).drop (dec false (c::l)).2.1.toNat).length) (by simp only[List.length_drop,List.length_cons]at hn |-;omega) (Nat.le_refl _)]
theorem lQ {t:List Rg} {P:List Int->List Pt->Prop} (h0:P [] []) (h1:∀b,b≠[]->(dec false b).2.2=true->P b (b.map (fun _=>yA)))
  (h2:∀b,b≠[]->(dec false b).2.2=false->P (b.drop (dec false b).2.1.toNat) (pts t (b.drop (dec false b).2.1.toNat))->P b (pts t b)) (b:List Int):P b (pts t b):=by
 induction hn:b.length using Nat.strongRecOn generalizing b with
 | _ n ih=>
  by_cases hb:b= []
  ·subst hb;exact h0
  ·cases hm:(dec false b).2.2 with
   | true=>rw[xJ t hb hm];exact h1 b hb hm
   | false=>
    have h3:=(N8 (final:=false) hb).2 hm;exact h2 b hb hm (ih _ (by simp only[List.length_drop];omega) _ rfl)
theorem aBd {t:List Rg} {b:List Int} (hb:b≠[]):0<(pts t b).length:=by
 cases hm:(dec false b).2.2 with
 | true=>rw[xJ t hb hm];simp;exact List.length_pos_iff.2 hb
 | false=>rw[F8 t hb hm];simp
theorem sum_ones (l:List Int):(l.map (Pt.n∘fun _=>yA)).sum=(l.length:Int):=by
 induction l with
 | nil=>rfl
 | cons c l ih=>
  rw[List.map_cons,List.sum_cons,ih,List.length_cons];simp[yA];omega
def bB (L:List Pt) (n:Nat):Int:=((L.take n).map Pt.n).sum
theorem pts_n1 {t:List Rg} (b:List Int):∀p∈pts t b,1<=p.n:=by
 refine lQ (P:=fun b L=>∀p∈L,1<=p.n) (by simp) ?_ ?_ b
 ·intro b _ _ p hp;obtain⟨_,_,rfl⟩:=List.mem_map.1 hp;simp[yA]
 ·intro b hb hm ih p hp;rw[F8 t hb hm]at hp;rcases List.mem_cons.1 hp with rfl | h
  ·exact((N8 hb).2 hm).1
  ·exact ih p h
theorem aBc {t:List Rg} (b:List Int):((pts t b).map Pt.n).sum=(b.length:Int):=by
 refine lQ (P:=fun b L=>(L.map Pt.n).sum=(b.length:Int)) (by simp) ?_ ?_ b
 ·intro b _ _;rw[List.map_map];exact sum_ones b
 ·intro b hb hm ih;have h3:=(N8 (final:=false) hb).2 hm;rw[F8 t hb hm];simp only[List.map_cons,List.sum_cons,ih,List.length_drop];omega
theorem U5 {L:List Pt} (h:∀p∈L,1<=p.n):(L.length:Int)<=(L.map Pt.n).sum:=by
 induction L with
 | nil=>simp
 | cons p L ih=>
  have h1:=h p (by simp);have h2:=ih fun q hq=>h q (by simp[hq])
  simp only[List.map_cons,List.sum_cons,List.length_cons];omega
theorem D0 {t:List Rg} (b:List Int) (n:Nat):((min n (pts t b).length:Nat):Int)<=bB (pts t b) n/\bB (pts t b) n<=b.length:=by
 have h:=pts_n1 (t:=t) b;have hs:=aBc (t:=t) b;unfold bB;have e:(pts t b).map Pt.n=((pts t b).take n).map Pt.n++((pts t b).drop n).map Pt.n:=by rw[<-List.map_append,List.take_append_drop]
 have h1:=U5 (L:=(pts t b).take n) fun p hp=>h p (List.mem_of_mem_take hp)
 have h2:=U5 (L:=(pts t b).drop n) fun p hp=>h p (List.mem_of_mem_drop hp)
 rw[e,List.sum_append]at hs;rw[List.length_take]at h1;constructor
 ·exact h1
 ·omega
def zA (L:List Pt):Nat:=(L.takeWhile (fun p=>p.sure)).length
def bP (p:Pt):Prop:=(p.sure=false->p.code= -1/\p.cls=0/\p.n=1)/\ -1<=p.code/\0<=p.cls/\p.cls<=4
theorem clsOf_le {t:List Rg} (ht:kA t) (p:Int):0<=uC t p/\uC t p<=4:=by
 unfold uC
 cases h:t.find? (fun r=>decide (r.lo<=p) && decide (p<=r.hi))with
 | none=>simp
 | some r=>
  have:=ht.2.1 r (List.mem_of_find?_eq_some h);obtain⟨_,_,_,h1,h2⟩:=this;exact⟨by simp only;omega,by simp only;omega⟩
theorem aCZ {t:List Rg} (ht:kA t) {p:Int} (hp:p<0):uC t p=0:=by
 unfold uC;rw[List.find?_eq_none.2];intro r hr;have:=(ht.2.1 r hr).1;simp;omega
theorem xR {final:Bool} {n:Int}:∀{k:Nat} {p lo hi:Int} {l:List Int},0<=p->(∀x∈l,0<=x/\x<256)-> -1<=(jB final n k p lo hi l).1
 | 0,p,lo,hi,l,h,_=>by simp only[jB];omega
 | k+1,p,lo,hi,[],h,_=>by cases final<;>simp[jB]
 | k+1,p,lo,hi,x::l,h,hl=>by
  simp only[jB];split
  ·simp
  ·have:=hl x (by simp);exact xR (by omega) fun y hy=>hl y (by simp[hy])
theorem aAp {c:Int} (hc:0<=c):0<=(A0 c).2.1:=by
 unfold A0
 repeat' split
 all_goals simp only
 all_goals omega
theorem dec_code {final:Bool} {b:List Int} (hb:∀x∈b,0<=x/\x<256): -1<=(dec final b).1:=by
 cases b with
 | nil=>simp[dec]
 | cons c l=>
  simp only[dec];split
  ·simp
  ·exact xR (aAp (hb c (by simp)).1) fun y hy=>hb y (by simp[hy])
theorem oX {t:List Rg} (ht:kA t) {b:List Int} (hb:∀x∈b,0<=x/\x<256):∀p∈pts t b,bP p:=by
 refine lQ (P:=fun b L=>(∀x∈b,0<=x/\x<256)->∀p∈L,bP p) (by simp) ?_ ?_ b hb
 ·intro b _ _ _ p hp;obtain⟨_,_,rfl⟩:=List.mem_map.1 hp;simp[yA,bP]
 ·intro b h0 hm ih hb p hp;rw[F8 t h0 hm]at hp;rcases List.mem_cons.1 hp with rfl | h
  ·exact⟨by simp,dec_code hb,clsOf_le ht _⟩
  ·exact ih (fun x hx=>hb x (List.mem_of_mem_drop hx)) p h
theorem nX {t:List Rg} (b:List Int):∀(i:Nat) (p:Pt),(pts t b)[i]?=some p->(p.sure=true↔i<zA (pts t b)):=by
 refine lQ (P:=fun b L=>∀(i:Nat) (p:Pt),L[i]?=some p->(p.sure=true↔i<zA L)) (by simp) ?_ ?_ b
 ·intro b hb _ i p hp;obtain⟨_,_,rfl⟩:=List.mem_map.1 (List.mem_of_getElem? hp);have:zA (b.map (fun _=>yA))=0:=by
   unfold zA
   cases b<;>simp[yA]
  rw[this];simp[yA]
 ·intro b hb hm ih i p hp;rw[F8 t hb hm]at hp |-;have e:∀(q:Pt) (L:List Pt),q.sure=true->zA (q::L)=zA L+1:=fun q L h=>by unfold zA;simp[h]
  rw[e _ _ rfl]
  cases i with
  | zero=>simp at hp;subst hp;simp
  | succ i=>
   rw[List.getElem?_cons_succ]at hp;rw[ih i p hp];omega
def B2 (c:Int):Nat:=if c<128 then 1 else if 192<=c/\c<224 then 2 else if 224<=c/\c<240 then 3 else if 240<=c/\c<248 then 4 else 0
def kB:Nat->Int->List Int->Int
 | 0,p,_=>p
 | _+1,_,[]=> -1
 | k+1,p,x::l=>if x<128\/191<x then -1 else kB k (64*p+x-128) l
def jC (b:List Int) (n:Nat):Int:=match b with
 | []=> -1
 | c::l=>if n=1 then c else kB (n-1) (c-(if n=4 then 240 else if n=3 then 224 else 192)) l
def gK (p:Int):Option (List Int):=
 if p<0\/1114111<p\/(55296<=p/\p<=57343)then none
 else if p<128 then some [p]
 else if p<2048 then some [192+p / 64,128+p % 64]
 else if p<65536 then some [224+p / 4096,128+p / 64 % 64,128+p % 64]
 else some [240+p / 262144,128+p / 4096 % 64,128+p / 64 % 64,128+p % 64]
def rD (b:List Int) (n:Nat):Int:=if gK (jC b n)=some (b.take n)then jC b n else -1
def iI (n:Nat):Int:=if n=4 then 65536 else if n=3 then 2048 else 128
def jD (a c m:Int):Prop:=0<=a/\0<=c/\max a m<=min c 1114111/\¬(55296<=max a m/\min c 1114111<=57343)
instance (a c m:Int):Decidable (jD a c m):=by unfold jD;infer_instance
def sI (b:List Int) (n:Nat) (x:Int):List Int:=b++List.replicate (n-b.length) x
def wC (b:List Int) (n:Nat):Prop:=jD (jC (sI b n 128) n) (jC (sI b n 191) n) (iI n)
instance (b:List Int) (n:Nat):Decidable (wC b n):=by unfold wC;infer_instance
def aO (final:Bool):List Int->Int×Int×Bool
 | []=>(-1,0,true)
 | c::l=>if 0<B2 c/\B2 c<=(c::l).length then(if 0<=rD (c::l) (B2 c)then(rD (c::l) (B2 c),B2 c,false)else(-1,1,false))
  else if 0<B2 c/\final=false/\wC (c::l) (B2 c)then(-1,0,true)else(-1,1,false)
theorem aBA {final:Bool} {c:Int} {l:List Int} (h:194<=c/\c<224):dec final (c::l)=jB final 2 1 (c % 32) 128 191 l:=by
 have:A0 c=(2,c % 32,128,191):=by unfold A0;rw[if_neg (by omega),if_neg (by omega),if_pos (by omega)]
 simp only[dec,this];rfl
theorem zH {final:Bool} {c:Int} {l:List Int} (h:(128<=c/\c<194)\/244<c):dec final (c::l)=(-1,1,false):=by
 have:A0 c=(0,0,0,0):=by unfold A0;rw[if_neg (by omega),if_pos (by omega)]
 simp only[dec,this];rfl
theorem dec_one {final:Bool} {c:Int} {l:List Int} (h:c<128):dec final (c::l)=(c,1,false):=by
 have:A0 c=(1,c,0,0):=by unfold A0;rw[if_pos h]
 simp only[dec,this];rfl
def lo3 (c:Int):Int:=if c=224 then 160 else 128
def hi3 (c:Int):Int:=if c=237 then 159 else 191
def lo4 (c:Int):Int:=if c=240 then 144 else 128
def hi4 (c:Int):Int:=if c=244 then 143 else 191
theorem aCT {final:Bool} {c:Int} {l:List Int} (h:224<=c/\c<240):dec final (c::l)=jB final 3 2 (c-224) (lo3 c) (hi3 c) l:=by
 have:A0 c=(3,c-224,lo3 c,hi3 c):=by
  unfold A0 lo3 hi3;rw[if_neg (by omega),if_neg (by omega),if_neg (by omega)]
  by_cases h1:c=224
  ·subst h1;rfl
  by_cases h2:c=237
  ·subst h2;rfl
  rw[if_neg h1,if_neg h2,if_pos (by omega),if_neg h1,if_neg h2];simp only[Prod.mk.injEq,and_true,true_and];omega
 simp only[dec,this];rfl
theorem N9 {final:Bool} {c:Int} {l:List Int} (h:240<=c/\c<=244):dec final (c::l)=jB final 4 3 (c-240) (lo4 c) (hi4 c) l:=by
 have:A0 c=(4,c-240,lo4 c,hi4 c):=by
  unfold A0 lo4 hi4;rw[if_neg (by omega),if_neg (by omega),if_neg (by omega),if_neg (by omega),if_neg (by omega),if_neg (by omega)]
  by_cases h1:c=240
  ·subst h1;rfl
  by_cases h2:c=244
  ·subst h2;rfl
  rw[if_neg h1,if_neg h2,if_neg h1,if_neg h2];simp only[Prod.mk.injEq,and_true,true_and];omega
 simp only[dec,this];rfl
theorem qD {b:List Int} {n:Nat} (h:gK (jC b n)≠some (b.take n)):rD b n= -1:=by unfold rD;rw[if_neg h]
theorem nI {b:List Int} {n:Nat} (h:gK (jC b n)=some (b.take n)):rD b n=jC b n:=by unfold rD;rw[if_pos h]
theorem nC {p:Int} (h:p<0\/1114111<p\/(55296<=p/\p<=57343)):gK p=none:=by unfold gK;rw[if_pos h]
theorem sY {p:Int} (h:0<=p/\p<128):gK p=some [p]:=by unfold gK;rw[if_neg (by omega),if_pos h.2]
theorem aBy {p:Int} (h:128<=p/\p<2048):gK p=some [192+p / 64,128+p % 64]:=by unfold gK;rw[if_neg (by omega),if_neg (by omega),if_pos h.2]
theorem encU3 {p:Int} (h:2048<=p/\p<65536) (h2:¬(55296<=p/\p<=57343)):gK p=some [224+p / 4096,128+p / 64 % 64,128+p % 64]:=by unfold gK;rw[if_neg (by omega),if_neg (by omega),if_neg (by omega),if_pos h.2]
theorem encU4 {p:Int} (h:65536<=p/\p<=1114111):gK p=some [240+p / 262144,128+p / 4096 % 64,128+p / 64 % 64,128+p % 64]:=by unfold gK;rw[if_neg (by omega),if_neg (by omega),if_neg (by omega),if_neg (by omega)]
theorem aBQ {c:Int} {l:List Int} (h:0<=c/\c<128):rD (c::l) 1=c:=nI (sY h)
theorem aBP {c x:Int} {l:List Int} (h:192<=c/\c<224) (hx:0<=x/\x<256):rD (c::x::l) 2=if x<128\/191<x then -1 else if c<194 then -1 else 64*(c-192)+x-128:=by
 have e:jC (c::x::l) 2=if x<128\/191<x then -1 else 64*(c-192)+x-128:=by
  unfold jC;simp[kB]
 by_cases h1:x<128\/191<x
 ·rw[if_pos h1]at e |-;exact qD (by rw[e,nC (.inl (by omega))];simp)
 ·rw[if_neg h1]at e |-
  by_cases h2:c<194
  ·rw[if_pos h2];exact qD (by rw[e,sY (by omega)];simp)
  ·rw[if_neg h2,nI (by rw[e,aBy (by omega)];simp only[List.take_succ_cons,List.take_zero,Option.some.injEq,List.cons.injEq,and_true];omega),e]
theorem pW {c x y:Int} {l:List Int} (h:224<=c/\c<240) (hx:0<=x/\x<256) (hy:0<=y/\y<256):rD (c::x::y::l) 3=if x<lo3 c\/hi3 c<x then -1 else if y<128\/191<y then -1 else 64*(64*(c-224)+x-128)+y-128:=by
 have e:jC (c::x::y::l) 3=if x<128\/191<x then -1 else if y<128\/191<y then -1 else 64*(64*(c-224)+x-128)+y-128:=by
  unfold jC;simp[kB]
 by_cases h1:x<128\/191<x
 ·rw[if_pos h1]at e;rw[if_pos (by unfold lo3 hi3;split<;>split<;>omega)];exact qD (by rw[e,nC (.inl (by omega))];simp)
 rw[if_neg h1]at e
 by_cases h3:y<128\/191<y
 ·rw[if_pos h3]at e |-;rw[qD (by rw[e,nC (.inl (by omega))];simp)];split<;>rfl
 rw[if_neg h3]at e |-
 by_cases h2:x<lo3 c\/hi3 c<x
 ·rw[if_pos h2];unfold lo3 hi3 at h2;refine qD ?_
  rw[e]
  by_cases h4:c=224
  ·rw[if_pos h4,if_neg (by omega)]at h2
   by_cases h7:64*(64*(c-224)+x-128)+y-128<128
   ·rw[sY (by omega)];simp
   ·rw[aBy (by omega)];simp
  ·rw[if_neg h4]at h2
   by_cases h5:c=237
   ·rw[if_pos h5]at h2;rw[nC (by omega)];simp
   ·rw[if_neg h5]at h2;omega
 ·rw[if_neg h2];unfold lo3 hi3 at h2;rw[nI (by
   rw[e,encU3 (by split at h2<;>omega) (by split at h2<;>split at h2<;>omega)];simp only[List.take_succ_cons,List.take_zero,Option.some.injEq,List.cons.injEq,and_true];omega),e]
theorem lZ {c x y z:Int} {l:List Int} (h:240<=c/\c<248) (hx:0<=x/\x<256) (hy:0<=y/\y<256) (hz:0<=z/\z<256):rD (c::x::y::z::l) 4=if 244<c\/x<lo4 c\/hi4 c<x then -1 else if y<128\/191<y then -1 else if z<128\/191<z then -1 else 64*(64*(64*(c-240)+x-128)+y-128)+z-128:=by
 have e:jC (c::x::y::z::l) 4=if x<128\/191<x then -1 else if y<128\/191<y then -1 else if z<128\/191<z then -1 else 64*(64*(64*(c-240)+x-128)+y-128)+z-128:=by
  unfold jC;simp[kB]
 by_cases h1:x<128\/191<x
 ·rw[if_pos h1]at e;rw[if_pos (by unfold lo4 hi4;split<;>split<;>omega)];exact qD (by rw[e,nC (.inl (by omega))];simp)
 rw[if_neg h1]at e
 by_cases h3:y<128\/191<y
 ·rw[if_pos h3]at e |-;rw[qD (by rw[e,nC (.inl (by omega))];simp)];split<;>rfl
 rw[if_neg h3]at e |-
 by_cases h6:z<128\/191<z
 ·rw[if_pos h6]at e |-;rw[qD (by rw[e,nC (.inl (by omega))];simp)];split<;>rfl
 rw[if_neg h6]at e |-
 by_cases h2:244<c\/x<lo4 c\/hi4 c<x
 ·rw[if_pos h2];unfold lo4 hi4 at h2;refine qD ?_
  rw[e]
  by_cases h4:c=240
  ·rw[if_pos h4,if_neg (by omega)]at h2
   by_cases h7:64*(64*(64*(c-240)+x-128)+y-128)+z-128<128
   ·rw[sY (by omega)];simp
   ·by_cases h8:64*(64*(64*(c-240)+x-128)+y-128)+z-128<2048
    ·rw[aBy (by omega)];simp
    ·by_cases h9:55296<=64*(64*(64*(c-240)+x-128)+y-128)+z-128/\64*(64*(64*(c-240)+x-128)+y-128)+z-128<=57343
     ·rw[nC (.inr (.inr h9))];simp
     ·rw[encU3 (by omega) h9];simp
  ·rw[if_neg h4]at h2;rw[nC (by split at h2<;>omega)];simp
 ·rw[if_neg h2];unfold lo4 hi4 at h2;rw[nI (by
   rw[e,encU4 (by split at h2<;>split at h2<;>omega)];simp only[List.take_succ_cons,List.take_zero,Option.some.injEq,List.cons.injEq,and_true];omega),e]
theorem aBB {final:Bool}:∀{b:List Int},(∀x∈b,0<=x/\x<256)->aO final b=dec final b
 | [],_=>rfl
 | c::l,hb=>by
  have hc:=hb c (by simp);have hl:∀x∈l,0<=x/\x<256:=fun x hx=>hb x (by simp[hx])
  by_cases r1:c<128
  ·have hn:B2 c=1:=by unfold B2;rw[if_pos r1]
   simp only[aO,hn];rw[if_pos ⟨by omega,by simp⟩,aBQ ⟨hc.1,r1⟩,if_pos hc.1,dec_one r1];rfl
  by_cases r2:c<192
  ·have hn:B2 c=0:=by unfold B2;rw[if_neg r1,if_neg (by omega),if_neg (by omega),if_neg (by omega)]
   simp only[aO,hn];rw[if_neg (by omega),if_neg (by omega),zH (.inl ⟨by omega,by omega⟩)]
  by_cases r3:c<224
  ·have hn:B2 c=2:=by unfold B2;rw[if_neg r1,if_pos ⟨by omega,r3⟩]
   simp only[aO,hn]
   match l,hl with
   | [],hl=>
    rw[if_neg (by simp)];have hm:wC [c] 2↔194<=c:=by
     unfold wC jD iI sI jC;simp[kB];omega
    by_cases r4:c<194
    ·rw[if_neg (fun h=>by have:=hm.1 h.2.2;omega),zH (.inl ⟨by omega,r4⟩)]
    ·rw[aBA ⟨by omega,r3⟩]
     cases final with
     | true=>rw[if_neg (by simp)];simp[jB]
     | false=>rw[if_pos ⟨by omega,rfl,hm.2 (by omega)⟩];simp[jB]
   | x::l,hl=>
    have hx:=hl x (by simp);rw[if_pos ⟨by omega,by simp⟩,aBP ⟨by omega,r3⟩ hx]
    by_cases r4:c<194
    ·rw[zH (.inl ⟨by omega,r4⟩)]
     by_cases r5:x<128\/191<x
     ·rw[if_pos r5];rfl
     ·rw[if_neg r5,if_pos r4];rfl
    ·rw[aBA ⟨by omega,r3⟩];simp only[jB]
     by_cases r5:x<128\/191<x
     ·rw[if_pos r5,if_pos r5];rfl
     ·rw[if_neg r5,if_neg r5,if_neg r4,if_pos (by omega)];simp only[Prod.mk.injEq,and_true];exact⟨by omega,rfl⟩
  by_cases r4:c<240
  ·have hn:B2 c=3:=by unfold B2;rw[if_neg r1,if_neg (by omega),if_pos ⟨by omega,r4⟩]
   simp only[aO,hn];rw[aCT ⟨by omega,r4⟩]
   match l,hl with
   | [],hl=>
    rw[if_neg (by simp)];have hm:wC [c] 3:=by
     unfold wC jD iI sI jC;simp[kB];omega
    cases final with
    | true=>rw[if_neg (by simp)];simp[jB]
    | false=>rw[if_pos ⟨by omega,rfl,hm⟩];simp[jB]
   | [x],hl=>
    have hx:=hl x (by simp);rw[if_neg (by simp)];have hm:wC [c,x] 3↔¬(x<lo3 c\/hi3 c<x):=by
     unfold wC jD iI sI jC lo3 hi3
     by_cases r5:x<128\/191<x
     ·simp[kB,r5];split<;>split<;>omega
     ·simp[kB,r5];split<;>split<;>omega
    simp only[jB]
    by_cases r5:x<lo3 c\/hi3 c<x
    ·rw[if_pos r5,if_neg (fun h=>hm.1 h.2.2 r5)]
    ·rw[if_neg r5]
     cases final with
     | true=>rw[if_neg (by simp)];rfl
     | false=>rw[if_pos ⟨by omega,rfl,hm.2 r5⟩];rfl
   | x::y::l,hl=>
    have hx:=hl x (by simp);have hy:=hl y (by simp);rw[if_pos ⟨by omega,by simp⟩,pW ⟨by omega,r4⟩ hx hy];simp only[jB]
    by_cases r5:x<lo3 c\/hi3 c<x
    ·rw[if_pos r5,if_pos r5];rfl
    ·rw[if_neg r5,if_neg r5];have hx2:128<=x/\x<=191:=by unfold lo3 hi3 at r5;split at r5<;>split at r5<;>omega
     by_cases r6:y<128\/191<y
     ·rw[if_pos r6,if_pos r6];rfl
     ·rw[if_neg r6,if_neg r6,if_pos (by omega)];simp only[Prod.mk.injEq,and_true];exact⟨by omega,rfl⟩
  by_cases r5:c<248
  ·have hn:B2 c=4:=by unfold B2;rw[if_neg r1,if_neg (by omega),if_neg (by omega),if_pos ⟨by omega,r5⟩]
   simp only[aO,hn]
   match l,hl with
   | [],hl=>
    rw[if_neg (by simp)];have hm:wC [c] 4↔c<=244:=by
     unfold wC jD iI sI jC;simp[kB];omega
    by_cases r6:c<=244
    ·rw[N9 ⟨by omega,r6⟩]
     cases final with
     | true=>rw[if_neg (by simp)];simp[jB]
     | false=>rw[if_pos ⟨by omega,rfl,hm.2 r6⟩];simp[jB]
    ·rw[if_neg (fun h=>r6 (hm.1 h.2.2)),zH (.inr (by omega))]
   | [x],hl=>
    have hx:=hl x (by simp);rw[if_neg (by simp)];have hm:wC [c,x] 4↔¬(244<c\/x<lo4 c\/hi4 c<x):=by
     unfold wC jD iI sI jC lo4 hi4
     by_cases r5:x<128\/191<x
     ·simp[kB,r5];split<;>split<;>omega
     ·simp[kB,r5];split<;>split<;>omega
    by_cases r6:244<c
    ·rw[if_neg (fun h=>hm.1 h.2.2 (.inl r6)),zH (.inr r6)]
    ·rw[N9 ⟨by omega,by omega⟩];simp only[jB]
     by_cases r7:x<lo4 c\/hi4 c<x
     ·rw[if_pos r7,if_neg (fun h=>hm.1 h.2.2 (.inr r7))]
     ·rw[if_neg r7]
      cases final with
      | true=>rw[if_neg (by simp)];rfl
      | false=>rw[if_pos ⟨by omega,rfl,hm.2 (by omega)⟩];rfl
   | [x,y],hl=>
    have hx:=hl x (by simp);have hy:=hl y (by simp);rw[if_neg (by simp)];have hm:wC [c,x,y] 4↔¬(244<c\/x<lo4 c\/hi4 c<x)/\¬(y<128\/191<y):=by
     unfold wC jD iI sI jC lo4 hi4
     by_cases r5:x<128\/191<x
     ·simp[kB,r5];split<;>split<;>omega
     ·by_cases r6:y<128\/191<y
      ·simp[kB,r5,r6];try omega
      ·simp[kB,r5,r6];split<;>split<;>omega
    by_cases r6:244<c
    ·rw[if_neg (fun h=>(hm.1 h.2.2).1 (.inl r6)),zH (.inr r6)]
    ·rw[N9 ⟨by omega,by omega⟩];simp only[jB]
     by_cases r7:x<lo4 c\/hi4 c<x
     ·rw[if_pos r7,if_neg (fun h=>(hm.1 h.2.2).1 (.inr r7))]
     ·rw[if_neg r7]
      by_cases r8:y<128\/191<y
      ·rw[if_pos r8,if_neg (fun h=>(hm.1 h.2.2).2 r8)]
      ·rw[if_neg r8]
       cases final with
       | true=>rw[if_neg (by simp)];rfl
       | false=>rw[if_pos ⟨by omega,rfl,hm.2 ⟨by omega,r8⟩⟩];rfl
   | x::y::z::l,hl=>
    have hx:=hl x (by simp);have hy:=hl y (by simp);have hz:=hl z (by simp);rw[if_pos ⟨by omega,by simp⟩,lZ ⟨by omega,r5⟩ hx hy hz]
    by_cases r6:244<c
    ·have q:244<c\/x<lo4 c\/hi4 c<x:= .inl r6;rw[if_pos q,zH (.inr r6)];rfl
    ·rw[N9 ⟨by omega,by omega⟩];simp only[jB]
     by_cases r7:x<lo4 c\/hi4 c<x
     ·have q:244<c\/x<lo4 c\/hi4 c<x:= .inr r7;rw[if_pos r7,if_pos q];rfl
     ·have q:¬(244<c\/x<lo4 c\/hi4 c<x):=by omega
      rw[if_neg r7,if_neg q];have hx2:128<=x/\x<=191:=by unfold lo4 hi4 at r7;split at r7<;>split at r7<;>omega
      by_cases r8:y<128\/191<y
      ·rw[if_pos r8,if_pos r8];rfl
      ·rw[if_neg r8,if_neg r8]
       by_cases r9:z<128\/191<z
       ·rw[if_pos r9,if_pos r9];rfl
       ·rw[if_neg r9,if_neg r9,if_pos (by omega)];simp only[Prod.mk.injEq,and_true];exact⟨by omega,rfl⟩
  ·have hn:B2 c=0:=by unfold B2;rw[if_neg r1,if_neg (by omega),if_neg (by omega),if_neg (by omega)]
   simp only[aO,hn];rw[if_neg (by omega),if_neg (by omega),zH (.inr (by omega))]
structure Ent where
 place:Int
 order:Int
 out:Int
 deriving DecidableEq
instance :Inhabited Ent:=⟨⟨0,0,0⟩⟩
def Ent.less (a b:Ent):Bool:=decide (a.order<b.order) || (decide (a.order=b.order) && decide (a.place<b.place))
theorem Ent.less_iff {a b:Ent}:a.less b=true↔a.order<b.order\/(a.order=b.order/\a.place<b.place):=by
 simp[Ent.less]
theorem Ent.ge_trans {a b c:Ent} (h1:¬a.less b=true) (h2:¬b.less c=true):¬a.less c=true:=by
 rw[Ent.less_iff]at *;omega
theorem Ent.less_asymm {a b:Ent} (h1:a.less b=true):¬b.less a=true:=by
 rw[Ent.less_iff]at *;omega
theorem Ent.not_self (a:Ent):¬a.less a=true:=by
 rw[Ent.less_iff];omega
def en (L:List Ent) (i:Nat):Ent:=L.getD i default
theorem iE {L:List Ent} {i:Nat} (h:i<L.length):L[i]?=some (en L i):=by simp[en,List.getD,h]
theorem kD {L:List Ent} {i:Nat} (h:i<L.length):L[i]=en L i:=by simp[en,List.getD,h]
def swp (L:List Ent) (i j:Nat):List Ent:=(L.set i (en L j)).set j (en L i)
theorem pC (L:List Ent) (i j:Nat):(swp L i j).length=L.length:=by simp[swp]
theorem O4 {L:List Ent} {i:Nat} {x:Ent} (k:Nat) (h:i<L.length):en (L.set i x) k=if k=i then x else en L k:=by
 unfold en;simp only[List.getD,List.getElem?_set]
 by_cases hk:i=k
 ·subst hk;simp[h]
 ·rw[if_neg hk,if_neg (fun e=>hk e.symm)]
theorem gG {L:List Ent} {i j:Nat} (k:Nat) (hi:i<L.length) (hj:j<L.length):en (swp L i j) k=if k=j then en L i else if k=i then en L j else en L k:=by
 unfold swp;rw[O4 k (by simpa using hj),O4 k hi]
def par (i:Nat):Nat:=(i-1) / 2
def sE (L:List Ent) (n:Nat):Prop:=∀i,0<i->i<n->¬(en L i).less (en L (par i))=true
structure P1 (L:List Ent) (n j:Nat):Prop where
 ok:∀i,0<i->i<n->i≠j->¬(en L i).less (en L (par i))=true
 kid:∀c,0<c->c<n->par c=j->0<j->¬(en L c).less (en L (par j))=true
theorem zU {L:List Ent} {n j:Nat} (h:P1 L n j) (hs:j=0\/¬(en L j).less (en L (par j))=true):sE L n:=fun i h0 hn=>by
 by_cases e:i=j
 ·subst e;rcases hs with h1 | h1
  ·omega
  ·exact h1
 ·exact h.ok i h0 hn e
theorem sD {i:Nat} (h:0<i):par i<i:=by unfold par;omega
theorem up_step {L:List Ent} {n j:Nat} (h:P1 L n j) (h0:0<j) (hj:j<n) (hl:n<=L.length) (hs:(en L j).less (en L (par j))=true):P1 (swp L (par j) j) n (par j):=by
 have hp:=sD h0;have hE:=fun k=>gG (L:=L) (i:=par j) (j:=j) k (by omega) (by omega)
 refine⟨fun i i0 hi hne=> ?_,fun c c0 hc hcp hp0=> ?_⟩
 ·rw[hE i,hE (par i)]
  by_cases e1:i=j
  ·subst e1;rw[if_pos rfl,if_neg (by omega),if_pos rfl];exact Ent.less_asymm hs
  ·rw[if_neg e1,if_neg hne]
   by_cases e2:par i=j
   ·rw[if_pos e2];exact h.kid i i0 hi e2 h0
   ·rw[if_neg e2]
    by_cases e3:par i=par j
    ·rw[if_pos e3];have h1:=h.ok i i0 hi e1;rw[e3]at h1;exact Ent.ge_trans h1 (Ent.less_asymm hs)
    ·rw[if_neg e3];exact h.ok i i0 hi e1
 ·rw[hE c,hE (par (par j))];have hpp:=sD hp0;rw[if_neg (show par (par j)≠j by omega),if_neg (show par (par j)≠par j by omega)];have hq:¬(en L (par j)).less (en L (par (par j)))=true:=h.ok (par j) hp0 (by omega) (by omega)
  by_cases e1:c=j
  ·rw[if_pos e1];exact hq
  ·have e2:c≠par j:=fun e=>by have:=sD c0;rw[hcp,e]at this;omega
   rw[if_neg e1,if_neg e2];have h1:=h.ok c c0 hc e1;rw[hcp]at h1;exact Ent.ge_trans h1 hq
structure mO (L:List Ent) (n i:Nat) (g:Prop):Prop where
 ok:∀k,0<k->k<n->par k≠i->(k=i->g)->¬(en L k).less (en L (par k))=true
 kid:∀c,0<c->c<n->par c=i->0<i->¬(en L c).less (en L (par i))=true
theorem aCR {L:List Ent} {n i:Nat} {g:Prop} (h:mO L n i g) (hs:∀c,0<c->c<n->par c=i->¬(en L c).less (en L i)=true):(g->sE L n)/\P1 L n i:=by
 have key:∀k,0<k->k<n->(k=i->g)->¬(en L k).less (en L (par k))=true:=fun k k0 hk hg=>by
  by_cases e:par k=i
  ·have:=hs k k0 hk e;rw[e];exact this
  ·exact h.ok k k0 hk e hg
 exact⟨fun hg k k0 hk=>key k k0 hk (fun _=>hg),fun k k0 hk e=>key k k0 hk (fun e2=>absurd e2 e),h.kid⟩
theorem aCS {L:List Ent} {n i j:Nat} {g:Prop} (h:mO L n i g) (hj:j<n) (hl:n<=L.length) (hj0:0<j) (hp:par j=i) (hm:∀c,0<c->c<n->par c=i->¬(en L c).less (en L j)=true) (hs:(en L j).less (en L i)=true):mO (swp L i j) n j True:=by
 have hij:i<j:=by have:=sD hj0;omega
 have hE:=fun k=>gG (L:=L) (i:=i) (j:=j) k (by omega) (by omega)
 refine⟨fun k k0 hk hne _=> ?_,fun c c0 hc hcp _=> ?_⟩
 ·rw[hE k,hE (par k),if_neg hne];have hpk:=sD k0
  by_cases e1:k=j
  ·subst e1;rw[if_pos rfl,if_pos hp];exact Ent.less_asymm hs
  ·rw[if_neg e1]
   by_cases e2:k=i
   ·subst e2;rw[if_pos rfl,if_neg (by omega)];exact h.kid j hj0 hj hp k0
   ·rw[if_neg e2]
    by_cases e3:par k=i
    ·rw[if_pos e3];exact hm k k0 hk e3
    ·rw[if_neg e3];exact h.ok k k0 hk e3 (fun e=>absurd e e2)
 ·have hcj:j<c:=by have:=sD c0;omega
  have e1:en (swp L i j) c=en L c:=by rw[hE c,if_neg (by omega),if_neg (by omega)]
  have e2:en (swp L i j) (par j)=en L j:=by rw[hE (par j),if_neg (by omega),if_pos hp]
  rw[e1,e2];have:=h.ok c c0 hc (by rw[hcp];omega) (fun e=>by omega);rw[hcp]at this;exact this
theorem lY {L:List Ent} {n i:Nat} {x:Ent} (h:sE L n) (hi:i<n) (hl:n<=L.length):mO (L.set i x) n i False:=by
 have hE:=fun k=>O4 (L:=L) (i:=i) (x:=x) k (by omega)
 refine⟨fun k k0 hk hne hg=> ?_,fun c c0 hc hcp hi0=> ?_⟩
 ·rw[hE k,hE (par k),if_neg hne,if_neg (fun e=>hg e)];exact h k k0 hk
 ·have hci:c≠i:=by have:=sD c0;omega
  have hpi:par i≠i:=by have:=sD hi0;omega
  rw[hE c,hE (par i),if_neg hci,if_neg hpi];have h1:=h c c0 hc;rw[hcp]at h1;exact Ent.ge_trans h1 (h i hi0 hi)
theorem dU {L:List Ent} {n i:Nat} (h:sE L (n+1)) (hi:i<n) (hl:n+1<=L.length):mO (swp L i n) n i False:=by
 have h2:sE L n:=fun k k0 hk=>h k k0 (by omega)
 have h3:=lY (x:=en L n) h2 hi (by omega);have hE:=fun k=>O4 (L:=L) (i:=i) (x:=en L n) k (by omega)
 have hS:=fun k=>gG (L:=L) (i:=i) (j:=n) k (by omega) (by omega)
 have same:∀k,k<n->en (swp L i n) k=en (L.set i (en L n)) k:=fun k hk=>by
  rw[hS k,hE k,if_neg (by omega)]
 refine⟨fun k k0 hk hne hg=> ?_,fun c c0 hc hcp hi0=> ?_⟩
 ·rw[same k hk,same (par k) (by have:=sD k0;omega)];exact h3.ok k k0 hk hne hg
 ·rw[same c hc,same (par i) (by have:=sD hi0;omega)];exact h3.kid c c0 hc hcp hi0
theorem aCM {L:List Ent} {x:Ent} (h:sE L L.length):P1 (L++ [x]) (L.length+1) L.length:=by
 have hE:∀k,k<L.length->en (L++ [x]) k=en L k:=fun k hk=>by simp[en,List.getD,List.getElem?_append,hk]
 refine⟨fun i i0 hi hne=> ?_,fun c c0 hc hcp _=> ?_⟩
 ·rw[hE i (by omega),hE (par i) (by have:=sD i0;omega)];exact h i i0 (by omega)
 ·have:=sD c0;unfold par at *;omega
theorem sE.min {L:List Ent} {n:Nat} (h:sE L n):∀i,i<n->¬(en L i).less (en L 0)=true:=by
 intro i
 induction i using Nat.strongRecOn with
 | _ i ih=>
  intro hi;rcases Nat.eq_zero_or_pos i with h0 | h0
  ·subst h0;exact Ent.not_self _
  ·have hp:=sD h0;exact Ent.ge_trans (h i h0 hi) (ih (par i) hp (by omega))
theorem sE.zero (L:List Ent):sE L 0:=fun i _ h=>by omega
theorem sE.less {L:List Ent} {n m:Nat} (h:sE L n) (hm:m<=n):sE L m:=fun i i0 hi=>h i i0 (by omega)
def oF (L:List Ent):Prop:=∀i j,i<L.length->j<L.length->(en L i).place=(en L j).place->i=j
def agL (L:List Ent) (p:Int):Option (Int×Int):=(L.find? (fun e=>decide (e.place=p))).map (fun e=>(e.order,e.out))
theorem bS {L:List Ent} (h:oF L) {p o d:Int}:agL L p=some (o,d)↔∃i,i<L.length/\en L i=⟨p,o,d⟩:=by
 unfold agL;rw[Option.map_eq_some_iff];constructor
 ·rintro⟨e,he,h1⟩;obtain⟨h2,i,hi,h3,_⟩:=List.find?_eq_some_iff_getElem.1 he;refine⟨i,hi,?_⟩;rw[<-kD hi,h3];obtain⟨a,b,c⟩:=e;simp at h2 h1;rw[h2,h1.1,h1.2]
 ·rintro⟨i,hi,h1⟩;refine⟨⟨p,o,d⟩,List.find?_eq_some_iff_getElem.2 ⟨by simp,i,hi,by rw[kD hi,h1],fun j hj=> ?_⟩,rfl⟩;rw[kD (by omega)];simp only[Bool.not_eq_true',decide_eq_false_iff_not];intro e;have:=h j i (by omega) hi (by rw[h1];exact e);omega
theorem agL_none {L:List Ent} {p:Int}:agL L p=none↔∀i,i<L.length->(en L i).place≠p:=by
 unfold agL;rw[Option.map_eq_none_iff,List.find?_eq_none];constructor
 ·intro h i hi e;have:=h (en L i) (List.mem_of_getElem? (iE hi));simp at this;exact this e
 ·intro h x hx;obtain⟨i,hi,rfl⟩:=List.getElem_of_mem hx;rw[kD hi];simpa using h i hi
def atL (L:List Ent) (p:Int):Option Int:=(L.findIdx? (fun e=>decide (e.place=p))).map (fun(i:Nat)=>(i:Int))
theorem C4 {L:List Ent} (h:oF L) {p:Int} {i:Nat}:atL L p=some (i:Int)↔i<L.length/\(en L i).place=p:=by
 unfold atL;rw[Option.map_eq_some_iff];constructor
 ·rintro⟨k,hk,e⟩;obtain rfl:k=i:=by omega
  obtain⟨h1,h2,_⟩:=List.findIdx?_eq_some_iff_getElem.1 hk;rw[kD h1]at h2;exact⟨h1,by simpa using h2⟩
 ·rintro⟨h1,h2⟩;refine⟨i,List.findIdx?_eq_some_iff_getElem.2 ⟨h1,by rw[kD h1];simpa using h2,fun j hj=> ?_⟩,rfl⟩;rw[kD (by omega)];simp only[decide_eq_true_eq];intro e;have:=h j i (by omega) h1 (by rw[h2];exact e);omega
theorem oH {L:List Ent} {p:Int}:atL L p=none↔∀i,i<L.length->(en L i).place≠p:=by
 unfold atL;rw[Option.map_eq_none_iff,List.findIdx?_eq_none_iff];constructor
 ·intro h i hi e;have:=h (en L i) (List.mem_of_getElem? (iE hi));simp at this;exact this e
 ·intro h x hx;obtain⟨i,hi,rfl⟩:=List.getElem_of_mem hx;rw[kD hi];simpa using h i hi
open Go.RowKit Go.Maps Go.ChangeMaps Go.WideMaps
set_option linter.unusedSimpArgs false
section
variable {P:Program} {k t e:TypeId} {α:Type} {V:B3 P k α}
def nG (V:B3 P k α) (e:TypeId) (w:World) (mb sz:Nat) (f:α->Option Int) (st:α->Nat):Prop:=
 ∃es clock,w.heap[mb]?=some (.map es clock)/\xA V e w mb sz f/\∀s,V.ok s->(f s).isSome=true->∃x∈es.toList,x.key=V.val s/\st s=x.born
theorem nG.rep {w:World} {mb sz:Nat} {f:α->Option Int} {st:α->Nat} (h:nG V e w mb sz f st):xA V e w mb sz f:=let ⟨_,_,_,h1,_⟩:=h;h1
theorem xA.stamped (ht:P.underlying t=some (.map k e)) (he:P.underlying e=some (.int .i64)) (hz:∀w:World,(zeroValue e).run P w= .ok (.int .i64 0) w) {w:World} {mb sz:Nat} {f:α->Option Int} (h:xA V e w mb sz f):∃st,nG V e w mb sz f st:=by
 have hm:=h;obtain⟨D,h1,h2,h3,h4⟩:=h;have h1':=h1;obtain⟨es,clock,hb,F,hsz,hD⟩:=h1;have key:∀s,V.ok s->(f s).isSome=true->∃x∈es.toList,x.key=V.val s:=fun s hs hf=>by
  rcases V.keyed.find w (V.key s hs) es.toList F.keys with⟨hn,_⟩ | ⟨j,e0,h5,h6,h7⟩
  ·obtain⟨v,ps,hrun,_⟩:=h1'.look_ok V.keyed ht (hz w) (plainElem_int he (by decide)) (V.key s hs);rw[(h4 s hs).1,hf]at hrun;simp[Instr.lookup,run_underlying ht,MapKept.run_getObj_map hb,V.keyed.check w _ (V.key s hs),hn,hz w,Result.andThen]at hrun
  ·exact⟨e0,List.mem_of_getElem? (show es.toList[j]?=some e0 from h6),h7⟩
 refine⟨fun s=>open Classical in if h:∃x∈es.toList,x.key=V.val s then h.choose.born else 0,es,clock,hb,hm,fun s hs hf=> ?_⟩;have h8:=key s hs hf;refine⟨h8.choose,h8.choose_spec.1,h8.choose_spec.2,?_⟩;simp only[dif_pos h8]
theorem nG.find {w:World} {mb sz:Nat} {f:α->Option Int} {es:Array MapEntry} {clock:Nat} (hb:w.heap[mb]?=some (.map es clock)) (h:xA V e w mb sz f) {s:α} (hs:V.ok s) {x:MapEntry} (hxm:x∈es.toList) (hxk:x.key=V.val s):
  (es.toList.map (·.born)).Nodup/\∃j,es[j]?=some x/\∀W:World,(Instr.findKey k (V.val s) es.toList).run P W= .ok (some (j,x.val)) W:=by
 obtain⟨D,⟨es',clock',hb',F,hsz,hD⟩,_⟩:=h;rw[hb]at hb'
 cases hb'
 obtain⟨j,hj⟩:∃j,es[j]?=some x:=by
  obtain⟨j,hj,rfl⟩:=List.getElem_of_mem hxm;exact⟨j,by simp at hj;exact Array.getElem?_eq_getElem hj⟩
 have hjl:=(Array.getElem?_eq_some_iff.1 hj).1;have hnd:=F.stamped.2.2;refine⟨F.stamped.2.1,j,hj,fun W=> ?_⟩;rcases V.keyed.find W (V.key s hs) es.toList F.keys with⟨_,h2⟩ | ⟨j',e0,h1,h2,h3⟩
 ·exact absurd hxk (h2 x hxm)
 ·have hjj:j'=j:=by
   have hj':es[j']?=some e0:=by simpa using h2
   have hjl':=(Array.getElem?_eq_some_iff.1 hj').1;rcases Nat.lt_trichotomy j' j with h4 | h4 | h4
   ·have:=(List.pairwise_iff_getElem.1 hnd) j' j (by simpa using hjl') (by simpa using hjl) h4;simp only[List.getElem_map,Array.getElem_toList]at this;rw[(Array.getElem?_eq_some_iff.1 hj).2,(Array.getElem?_eq_some_iff.1 hj').2,hxk,h3]at this;exact absurd rfl this
   ·exact h4
   ·have:=(List.pairwise_iff_getElem.1 hnd) j j' (by simpa using hjl) (by simpa using hjl') h4;simp only[List.getElem_map,Array.getElem_toList]at this;rw[(Array.getElem?_eq_some_iff.1 hj).2,(Array.getElem?_eq_some_iff.1 hj').2,hxk,h3]at this;exact absurd rfl this
  subst hjj;have hj':es[j']?=some e0:=by simpa using h2
  rw[hj]at hj'
  cases hj'
  exact h1
theorem uS {W:World} {mb:Nat} {o:Obj} (h:W.heap[mb]?=some o):ChangeMaps.setBlock W mb o=W:=by
 have e:W.heap.setIfInBounds mb o=W.heap:=by
  apply Array.ext_getElem?;intro i;rw[Array.getElem?_setIfInBounds];split
  ·rename_i h1;subst h1;rw[if_pos (Array.getElem?_eq_some_iff.1 h).1,h]
  ·rfl
 unfold ChangeMaps.setBlock;rw[e]
theorem nG.entry (ht:P.underlying t=some (.map k e)) (he:P.underlying e=some (.int .i64)) (hz:∀w:World,(zeroValue e).run P w= .ok (.int .i64 0) w) {w:World} {mb sz:Nat} {f:α->Option Int} {st:α->Nat} (h:nG V e w mb sz f st) {s:α} (hs:V.ok s) {c:Int} (hf:f s=some c):
  (Instr.mapEntry t (.map (some mb)) (V.val s)).run P w= .ok (.tuple #[.int .i64 c,goInt (st s)]) w:=by
 obtain⟨es,clock,hb,hm,hst⟩:=h;obtain⟨x,hxm,hxk,hxs⟩:=hst s hs (by rw[hf];rfl);obtain⟨hnd,j,hj,hfind⟩:=nG.find hb hm hs hxm hxk;have hjl:=(Array.getElem?_eq_some_iff.1 hj).1;have hkey:=V.key s hs;have hmod:es.modify j (fun e=>{e with key:=V.val s})=es:=by
  apply Array.ext
  ·simp
  ·intro i h1 h2;rw[Array.getElem_modify];split
   ·subst i;have:es[j]=x:=(Array.getElem?_eq_some_iff.1 hj).2;rw[this,<-hxk]
   ·rfl
 have hstay:∀W:World,(Instr.keyThatStays x.key (V.val s)).run P W= .ok (V.val s) W:=fun W=>by
  rw[hxk];exact V.keyed.stays W hkey
 have hg:=xA.get (s:=s) ht he hz hm hs;have hv:x.val= .int .i64 c:=by
  rw[hf]at hg;simp[Instr.lookup,run_underlying ht,MapKept.run_getObj_map hb,V.keyed.check w _ hkey,hfind,Result.andThen]at hg;exact hg
 have hsame:({w with heap:=w.heap.setIfInBounds mb (.map es clock)}:World)=w:=uS hb;simp[Instr.mapEntry,run_underlying ht,MapKept.run_getObj_map hb,V.keyed.check w false hkey,hfind w,hstay w,hmod,MapKept.run_setObj_map _ hb,Result.andThen,hj,hsame,hv,hxs,ChangeMaps.setBlock]
theorem nG.store [DecidableEq α] (ht:P.underlying t=some (.map k e)) (he:P.underlying e=some (.int .i64)) {w:World} {mb sz:Nat} {f:α->Option Int} {st:α->Nat} (h:nG V e w mb sz f st) {s:α} (hs:V.ok s) (hf:(f s).isSome=true) {c:Int} (hc:(Lit.int .i64 c).wf=true) (hn:sz<maxLen):
  ∃o,(Instr.entryStore t (.map (some mb)) (goInt (st s)) (.int .i64 c)).run P w= .ok () (ChangeMaps.setBlock w mb o)/\nG V e (ChangeMaps.setBlock w mb o) mb sz (fun t=>if t=s then some c else f t) st:=by
 obtain⟨es,clock,hb,hm,hst⟩:=h;obtain⟨x,hxm,hxk,hxs⟩:=hst s hs hf;obtain⟨hnd,j,hj,hfind⟩:=nG.find hb hm hs hxm hxk;have hjl:=(Array.getElem?_eq_some_iff.1 hj).1;have hkey:=V.key s hs;have hstay:∀W:World,(Instr.keyThatStays x.key (V.val s)).run P W= .ok (V.val s) W:=fun W=>by
  rw[hxk];exact V.keyed.stays W hkey
 have hmod2:(es.modify j fun e=>{e with key:=V.val s,val:= .int .i64 c})=es.modify j (fun e=>{e with val:= .int .i64 c}):=by
  apply Array.ext
  ·simp
  ·intro i h1 h2;rw[Array.getElem_modify,Array.getElem_modify];split
   ·subst i;have:es[j]=x:=(Array.getElem?_eq_some_iff.1 hj).2;rw[this,<-hxk]
   ·rfl
 obtain⟨w',hrun,hm',hg'⟩:=xA.update (s:=s) ht he hm hs hc hn;have hrun2:(Instr.mapUpdate t (.map (some mb)) (V.val s) (.int .i64 c)).run P w= .ok () (ChangeMaps.setBlock w mb (.map (es.modify j (fun e=>{e with val:= .int .i64 c})) clock)):=by
  simp[Instr.mapUpdate,run_underlying ht,MapKept.run_getObj_map hb,V.keyed.check w false hkey,hfind w,hj,hstay w,hmod2,MapKept.run_setObj_map _ hb,Result.andThen,ChangeMaps.setBlock]
 rw[hrun]at hrun2;have hw':w'=_:=(Result.ok.inj hrun2).2;subst hw';refine⟨.map (es.modify j (fun e=>{e with val:= .int .i64 c})) clock,?_,_,_,heap_setBlock_same hb _,by rw[hf]at hm';exact hm',fun s' hs' hf'=> ?_⟩
 ·rw[hxs];simp[Instr.entryStore,MapKept.run_getObj_map hb,MapKept.run_setObj_map _ hb,Result.andThen,ChangeMaps.setBlock,goInt,asInt,asIntOf,bM hnd hj]
 ·have hf2:(f s').isSome=true:=by
   by_cases e1:s'=s
   ·subst e1;exact hf
   ·simpa[e1]using hf'
  obtain⟨x',hxm',hxk',hxs'⟩:=hst s' hs' hf2;obtain⟨i,hi,rfl⟩:=List.getElem_of_mem hxm';simp only[Array.length_toList]at hi;refine⟨(es.modify j (fun e=>{e with val:= .int .i64 c}))[i]'(by simpa using hi),Array.getElem_mem_toList _,?_,?_⟩
  ·rw[Array.getElem_modify];split<;>simpa using hxk'
  ·rw[Array.getElem_modify];split<;>simpa using hxs'
theorem xA.del [DecidableEq α] (ht:P.underlying t=some (.map k e)) {w:World} {mb sz:Nat} {f:α->Option Int} (h:xA V e w mb sz f) {s:α} (hs:V.ok s) (ty:TypeId):
  ∃w',(Builtin.delete_ #[t,k] ty #[.map (some mb),V.val s]).run P w= .ok (.tuple #[]) w'/\xA V e w' mb (if(f s).isSome then sz-1 else sz) (fun t=>if t=s then none else f t)/\w.mapTurned w' mb:=by
 obtain⟨D,h1,h2,h3,h4⟩:=h;obtain⟨w',hrun,hown,hturn⟩:=h1.drop V.keyed ht (V.key s hs) ty;have e1:size (D.del (V.lit s))=if(f s).isSome then sz-1 else sz:=by
  have:=size_del (k:=V.lit s) h2;rw[(h4 s hs).1,h3]at this;split at this<;>simp_all<;>omega
 refine⟨w',hrun,⟨D.del (V.lit s),?_,h2.del _,e1,fun t ht'=> ?_⟩,hturn⟩
 ·have:=dI hown;rw[e1]at this;exact this
 ·by_cases e2:t=s
  ·subst e2;simp only[if_true,Option.isSome_none];exact⟨has_del_same,fun c' hc'=>by cases hc'⟩
  ·have hne:V.lit t≠V.lit s:=fun h=>e2 (V.inj t s ht' hs h)
   simp only[e2,if_false];rw[has_del_other hne];exact⟨(h4 t ht').1,fun c' hc'=>by rw[atKey_del_other hne];exact(h4 t ht').2 c' hc'⟩
theorem xA.getOk (ht:P.underlying t=some (.map k e)) (he:P.underlying e=some (.int .i64)) (hz:∀w:World,(zeroValue e).run P w= .ok (.int .i64 0) w) {w:World} {mb sz:Nat} {f:α->Option Int} (h:xA V e w mb sz f)
  {s:α} (hs:V.ok s):(Instr.lookup t (.map (some mb)) (V.val s) true).run P w= .ok (.tuple #[.int .i64 ((f s).getD 0), .bool (f s).isSome]) w:=by
 obtain⟨D,h1,h2,h3,h4⟩:=h;obtain⟨v,ps,hrun,hv⟩:=h1.look_ok V.keyed ht (hz w) (plainElem_int he (by decide)) (V.key s hs);obtain⟨c,rfl,hc,_⟩:=plainElem_int_inv he hv;have hat:=congrArg Prod.fst hc;have hh:=h4 s hs;rw[hh.1]at hrun;have hcc:c=(f s).getD 0:=by
  cases hf:f s with
  | none=>
   rw[hf]at hh;rw[atKey_of_not_has (by simpa using hh.1)]at hat;simpa using hat.symm
  | some c'=>
   have:=hh.2 c' hf;rw[this]at hat;simpa using hat.symm
 rw[<-hcc];exact hrun
end
end Go.Proofs.YtimkkkdabmhedaaGreatDoor
