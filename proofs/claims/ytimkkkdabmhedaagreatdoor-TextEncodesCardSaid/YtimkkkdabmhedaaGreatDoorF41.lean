/- Walks: the document's pieces: Split, Decided, Same; how many symbols are committed. -/
import Derived.Test.YtimkkkdabmhedaaGreatDoorF36
import Derived.Test.YtimkkkdabmhedaaGreatDoorF39
import Derived.Test.YtimkkkdabmhedaaGreatDoorF40
import Derived.Test.YtimkkkdabmhedaaGreatDoorF31
import Derived.Deep.CutBlock
import Derived.Test.YtimkkkdabmhedaaGreatDoorF34
import Derived.Test.YtimkkkdabmhedaaGreatDoorF7
import Derived.Test.YtimkkkdabmhedaaGreatDoorF1
import Derived.Test.YtimkkkdabmhedaaGreatDoorF33
import Derived.LoopN
set_option linter.unusedVariables false
set_option maxHeartbeats 2000000
set_option maxRecDepth 100000
namespace Go.Proofs.YtimkkkdabmhedaaGreatDoor
open Go.RowKit
theorem SlF.pc1 (w:World) (n:Int) (b:Bool):SlF 2 (w.alloc (.cells #[.int .i64 n, .bool b] 51)) (some ⟨w.heap.size,0, .none⟩) 1 1 (flat dD [(n,b)]):=SlF.one D1 w (n,b) _ rfl
theorem iN {text:List Int} {T:List Rg} {ao to_:Option Addr} {tn tc rn rc:Nat} (kind:Int) (final:Bool) (w:World) (hS:SlI w ao tn tc text) (hsz:tn<=100000)
  (hR:SlF 3 w to_ rn rc (flat Rg.enc T)) (hT:kA T) (hk0:0<=kind) (hk3:kind<=3) (hrn:rn<=1048576):
  Calls Tryz.prog 37 #[.int .i64 kind, .slice to_ rn rc, .slice ao tn tc, .bool final] w fun e w'=>(∃v,e= .returned v/\eA dD 2 51 w' w.heap.size v (B6 kind T text final))/\Below w.heap.size w w':=by
 obtain⟨i0,z0,hci,hz0,hz1,hz2,hz3⟩:=eC infoPc;obtain⟨w0,hw0⟩:∃w0,w.alloc (.cells #[] 51)=w0:=⟨_,rfl⟩;have HB0:Hid (Below w.heap.size w w0):=hW_ (hw0▸aA w _);have HO0:Hid (eA dD 2 51 w0 w.heap.size (.slice (some ⟨w.heap.size,0, .none⟩) 0 0) []):=hW_ (hw0▸eA.made0 w);have HW0:=hW_ hw0;have HT:=hW_ hT;have HTL:=hW_ hS.len;have HS:=hW_ (fun(W:World) (h:Below w.heap.size w W)=>Sl.below hS h);have HR:=hW_ (fun(W:World) (h:Below w.heap.size w W)=>SlF.below hR h);have g0:decide (kind<0)=false:=by simpa using hk0
 have g3:decide (kind>3)=false:=by simpa using hk3
 clear hw0 hT hS hR;go_enter Tryz.func37,Tryz.ntmps37;go_wp2_with (fail);rw[HW0.out];go_wp2_with (fail);go_at_call 57;refine(nE w0 (HR.out w0 HB0.out)).mono ?_
 rintro e w1 ⟨⟨b,rfl,hb⟩,hb1⟩;obtain rfl:b=true:=hb.2 HT.out;have HB1:=hW_ (HB0.out.trans (hb1.mono HB0.out.size));have HO1:=hW_ (HO0.out.below hb1);clear hb hb1;go_wp2_with (fail);go_loopw [9,10,11,12,13,14,15] (fun v i o _ _ _ _ wr=>∃(k:Nat) (op:Bool) (ps:List (Int×Bool)),i= .int .i64 k/\o= .bool op/\Hid (SpS kind T final text k op ps)/\Hid (eA dD 2 51 wr w.heap.size v ps)/\Hid (Below w.heap.size w wr)) (fun _ i _ _ _ _ _ _=>tn-(intOf i).toNat)
 case atStart=>exact⟨0,false,[],rfl,rfl,hW_ SpS.zero,HO1,HB1⟩
 case round=>
  obtain⟨k,op,ps,rfl,rfl,HP,HO,HB⟩:=hrel;have hk:k<=tn:=by have:=HP.out.2.1;have:=HTL.out;omega
  have hpl:ps.length<=k:=HP.out.2.2
  by_cases hlt:k<tn
  ·have gk:(k:Int)<(tn:Int):=by omega
   have hkt:k<text.length:=by have:=HTL.out;omega
   obtain⟨R,hRR⟩:∃R,A5 (text.drop k)=R:=⟨_,rfl⟩;have hrb:∀y∈R,0<=y/\y<256:=hRR▸fN;have hrl:k+R.length<=tn:=by have:=Q5 (text.drop k);rw[hRR,List.length_drop]at this;have:=HTL.out;omega
   have hrun:=Z5 k wr (HS.out wr HB.out) hk hsz;rw[hRR]at hrun;have HRUN:=hW_ hrun;have hks:=O0 hrb;have hkb:=qE hrb;obtain⟨s,hs⟩:∃s,rI R=s:=⟨_,rfl⟩;rw[hs]at HRUN hks hkb;have HKS:=hW_ hks;have HKB:=hW_ hkb
   by_cases h0:R= []
   ·have HP2:=hW_ (HP.out.mark hkt (by rw[hRR,h0]));obtain⟨e1,e2,e3⟩:=qC (s:=s) (by rw[hks,h0];rfl);clear hrun hks hkb hs hRR hrb h0;go_wp2_with (fail);go_at_call 69;refine HRUN.out.mono ?_
    rintro e w2 ⟨rfl,hb2⟩;have HB2:=hW_ (HB.out.trans (hb2.mono HB.out.size));have HO2:=hW_ (HO.out.below hb2);clear hb2;go_wp2_with (at_builtin;refine gA rfl _ _ 48 rfl i0 z0 16 Tryz.underlying48 hci hz0 hz1 hz2 hz3 D1 (by omega) T3 rfl (HO2.out.alloc _) rfl (SlF.pc1 w2 1 true) (by unfold maxLen;omega) (by omega) (by have:=HB2.out.size;simp;omega) ?_;intro v3 w3 hown3 _ hbl3);have HO3:=hW_ hown3;have HB3:Hid (Below w.heap.size w w3):=hW_ ((HB2.out.alloc HB2.out.size _).trans hbl3);clear hown3 hbl3;go_wp2_with (fail);go_roundw
    case rel=>exact⟨k+1,op,_,by go_num,rfl,HP2,HO3,HB3⟩
    case measure=>simp[intOf];omega
   ·obtain⟨e1,e2,e3⟩:=yC (s:=s) (by rw[hks];exact fun h=>h0 (List.eq_nil_of_length_eq_zero h));obtain⟨⟨n,d⟩,hn⟩:∃x,A6 kind T R (final || decide (k+R.length<text.length))=x:=⟨_,rfl⟩;have hp2:=HP.out.run HT.out (by rw[hRR];exact h0) (n:=n) (d:=d) (by rw[hRR];exact hn);obtain⟨m,rfl⟩:∃m:Nat,n=m:=⟨n.toNat,by have:=hp2.2.1;omega⟩;rw[Int.toNat_natCast]at hp2;have HP2:=hW_ hp2.1;have hm1:1<=m:=by have:=hp2.2.1;omega
    have hm2:k+m<=tn:=by have:=hp2.2.2;have:=HTL.out;omega
    have hov:(final || decide (((k:Int)+(s.size:Int))<(tn:Int)))=(final || decide (k+R.length<text.length)):=by
     congr 1;exact decide_eq_decide.2 (by rw[hks,HTL.out];omega)
    have hwk:IntKind.i64.wrap ((k:Int)+(s.size:Int))=(k:Int)+(s.size:Int):=by rw[IntKind.wrap_i64];omega
    have hwm:IntKind.i64.wrap ((k:Int)+(m:Int))=((k+m:Nat):Int):=by rw[IntKind.wrap_i64];omega
    obtain⟨ov,hO⟩:∃ov,(final || decide (((k:Int)+(s.size:Int))<(tn:Int)))=ov:=⟨_,rfl⟩;have hnx:=fun(W:World) (h:Below w.heap.size w W)=>qV (kind:=kind) ov s W (HR.out W h) HT.out hrn hk0 hk3 (by rw[hks];omega) (by rw[hks];exact fun h=>h0 (List.eq_nil_of_length_eq_zero h))
    rw[hkb,<-hO,hov,hn]at hnx;simp only at hnx;rw[<-hov,hO]at hnx;have HNX:=hW_ hnx;have HOV:=hW_ hO;clear hrun hks hkb hs hRR hrb h0 hn hp2 hov hnx hO
    cases final<;>cases op<;>cases d<;>(
     first
      | (obtain rfl:true=ov:=HOV.out)
      | (have hO1:decide (((k:Int)+(s.size:Int))<(tn:Int))=ov:=by simpa using HOV.out)
     go_wp2_with (fail);go_at_call 69;refine HRUN.out.mono ?_
     rintro e w2 ⟨rfl,hb2⟩;have HB2:=hW_ (HB.out.trans (hb2.mono HB.out.size));have HO2:=hW_ (HO.out.below hb2);clear hb2;go_wp2_with (fail);go_at_call 74;refine(HNX.out w2 HB2.out).mono ?_
     rintro e w3 ⟨rfl,hb3⟩;have HB3:=hW_ (HB2.out.trans (hb3.mono HB2.out.size));have HO3:=hW_ (HO2.out.below hb3);clear hb3;go_wp2_with (at_builtin;refine gA rfl _ _ 48 rfl i0 z0 16 Tryz.underlying48 hci hz0 hz1 hz2 hz3 D1 (by omega) T3 rfl (HO3.out.alloc _) rfl (SlF.pc1 w3 (m:Int) _) (by unfold maxLen;omega) (by omega) (by have:=HB3.out.size;simp;omega) ?_;intro v4 w4 hown4 _ hbl4);have HO4:=hW_ hown4;have HB4:Hid (Below w.heap.size w w4):=hW_ ((HB3.out.alloc HB3.out.size _).trans hbl4);clear hown4 hbl4;go_wp2_with (fail);go_roundw
     case rel=>exact⟨k+m,_,_,by go_num,rfl,HP2,HO4,HB4⟩
     case measure=>simp[intOf];omega)
  ·obtain rfl:k=tn:=by omega
   have HD:=hW_ (HP.out.done (by rw[HTL.out];exact Nat.le_refl _));go_wp2_with (fail);go_ret;exact⟨⟨_,rfl,by rw[HD.out];exact HO.out⟩,HB.out⟩
theorem bV {A B:List (Int×Bool)} {ao bo:Option Addr} {n m c d:Nat} (w:World) (hA:SlF 2 w ao n c (flat dD A)) (hB:SlF 2 w bo m d (flat dD B)) (hAB:A=B):
  Calls Tryz.prog 36 #[.slice ao n c, .slice bo m d] w fun e w'=>e= .returned (.bool true)/\Below w.heap.size w w':=by
 subst hAB;have hl1:=hA.count D1 (by omega);have hl2:=hB.count D1 (by omega);obtain rfl:n=m:=by omega
 have HN:=hW_ hl1;have hm:=Nat.le_trans hA.le hA.max;unfold maxLen at hm;have HA:=hW_ hA;have HB:=hW_ hB;clear hA hB hl1 hl2;go_enter Tryz.func36,Tryz.ntmps36;go_wp2_with (fail);go_loopw [5,13] (fun _ i wr=>∃k:Nat,i= .int .i64 k/\k<=n/\Below w.heap.size w wr) (fun _ i _=>n-(intOf i).toNat)
 case atStart=>exact⟨0,rfl,Nat.zero_le _,Below.refl _ _⟩
 case round=>
  obtain⟨k,rfl,hk,hb⟩:=hrel;have HBR:=hW_ hb
  by_cases hlt:k<n
  ·have gk:(k:Int)<(n:Int):=by omega
   obtain⟨⟨x,b⟩,hp⟩:∃p,A[k]?=some p:=⟨_,List.getElem?_eq_getElem (by have:=HN.out;omega)⟩
   obtain⟨bb,oo,hao,hce⟩:=(HA.out.below hb).elem D1 (by omega) hp;obtain⟨bb2,oo2,hao2,hce2⟩:=(HB.out.below hb).elem D1 (by omega) hp;have d0:=hce 0 _ rfl;have d1:=hce 1 _ rfl;have e0:=hce2 0 _ rfl;have e1:=hce2 1 _ rfl;rw[Nat.add_zero]at d0 e0;simp only at d0 d1 e0 e1;subst hao hao2;clear hce hce2 hp hb;go_wp2_with (fail);go_quiet (fail);go_wp2_with (fail);go_roundw
   case rel=>exact⟨k+1,by go_num,by omega,bA HBR.out _⟩
   case measure=>simp[intOf];omega
  ·go_wp2_with (fail);go_ret;exact⟨rfl,HBR.out⟩
theorem Q1 {w:World} {ops:Array Oper} {o:Oper} {a:Act} {K:Act->World->Prop} {Q:Exit->Act->World->Prop} {E:Prop} (hgd:o.guard=none) (s x:Operand)
  (ho:o.op= .call {callee:= .builtin .append,args:=#[s,x],argTypes:=#[43,43]})
  {base b m c k:Nat} {v:Value} {A R:List Int} (hs:a.eval s=v) (hown:Own w base v A) (hk:A.length=k) (hx:a.eval x= .slice (some ⟨b,0,none⟩) m c)
  (hl:SlI w (some ⟨b,0,none⟩) m c R) (hm0:0<m) (hm:k+m<1048576) (hbase:base<=w.heap.size)
  (hK:∀g cap' w',Own w' base (.slice (some ⟨g,0,none⟩) (k+m) cap') (A++R)->w.grownBy w' v.ownBlock->(v.ownBlock=some g\/g=w.heap.size)->K (a.put o.dst (.slice (some ⟨g,0,none⟩) (k+m) cap')) w'):
  if Region.wanted o (yielded ops a.tmps)=true then Oper.wp Tryz.prog o a w K Q else E:=by
 obtain⟨i0,hi0,hz0,hz1,hz2⟩:=info_parts cF;subst hk;have hRl:=hl.len;refine step_append_lies (P:=Tryz.prog) (w:=w) hgd s x 43 ho base 3 i0 _ 1 8 Tryz.underlying43 hi0 hz0 hz1 hz2 rfl (by omega) _ A.length _ hs hown ⟨b,0,none⟩ m c (R.map (.int .i64)) hx (by rw[List.length_map];omega)
  (fun j u hu=> ?_) (oQ R) hm0 (by unfold maxLen;omega) (by omega) hbase w.heap.size rfl ?_
 ·obtain⟨b',o',e,hc⟩:=Sl.at_ hl j u hu;simp only[Option.some.injEq,Addr.mk.injEq,and_true]at e;obtain⟨rfl,rfl⟩:=e;rw[Addr.add_lit];exact hc
 ·intro g cap' w' ho' hgr hat hlt;refine hK g cap' w' ?_ hgr hat
  unfold Own;rw[List.length_append,List.map_append,hRl];exact ho'
theorem Z2 {ao:Option Addr} {n cap k m:Nat} {K M:Int} (hK:K=(k:Int)) (hM:M=(m:Int)) (hk:k<=m) (hm:m<=n) (hn:n<=cap) {i0:TypeInfo} (hi:Tryz.prog.info? 3=some i0) (h1:i0.size=1):
  ∃so,(∀W,(Instr.sliceAt 43 (.slice ao n cap) (some (.int .i64 K)) (some (.int .i64 M)) none).run Tryz.prog W= .ok (.slice so (m-k) (cap-k)) W)/\
   (∀W A,SlI W ao n cap A->SlI W so (m-k) (cap-k) ((A.drop k).take (m-k))):=by
 subst hK hM;refine⟨if cap=k then ao else ao.map (·.add k),fun W=> ?_,fun W A h=> ?_⟩
 ·have:=cC Tryz.underlying43 hi W ao n cap (some (.int .i64 k)) (some (.int .i64 m)) k m (fun w=>by simp[Instr.sliceBounds,run_sliceBound,Nat.le_trans hm hn,hk]);rw[h1,Nat.mul_one]at this;exact this
 ·rw[<-List.drop_take];exact(h.take hm).drop hk
theorem cV {V:Vc} {N:List ByteArray} {dd:Vd} {no to_:Option Addr} {nn nc tn' tc':Nat} {kind:Int} {A:List Int} {ao:Option Addr} {n c:Nat} (w:World) (h:CR w dd no nn nc V N) (hmn:dd.mn<=16384) (hA:SlI w ao n c A) (hp:sU A) (hck:lA V N A=0) (hn:n<=100000):
  Calls Tryz.prog 73 #[lL dd no nn nc kind to_ tn' tc', .slice ao n c] w fun e w'=>(∃v,e= .returned v/\Own w' w.heap.size v (tB V N A))/\Below w.heap.size w w':=by
 obtain⟨ta,tn,tc,ma,mn,mc,sa,sn,sc⟩:=dd;obtain⟨w0,hw0⟩:∃w0,w.alloc (.cells #[.slice ta tn tc, .slice ma mn mc, .slice sa sn sc, .slice no nn nc, .int .i64 kind, .slice to_ tn' tc'] 37)=w0:=⟨_,rfl⟩;have hb0:Below w.heap.size w w0:=hw0▸aA w _;have hx0:w0.heap[w.heap.size]?=some (.cells #[.slice ta tn tc, .slice ma mn mc, .slice sa sn sc, .slice no nn nc, .int .i64 kind, .slice to_ tn' tc'] 37):=by rw[<-hw0];exact heap_alloc_new w _
 have HSZ0:Hid (w0.heap.size=w.heap.size+1):=hW_ (by rw[<-hw0];simp);obtain⟨b0,b1,b2,b3,b4,b5,bf⟩:=lK hx0;have hA0:=SlI.below hA hb0;have hAl:=hA.len;have hn0:0<n:=by
  rcases hp with⟨x,rfl,_⟩ | ⟨h0,_⟩
  ·rw[<-hAl];simp
  ·rw[<-hAl];exact List.length_pos_iff.2 h0
 obtain⟨rb,ro,hao,hc1⟩:=hA0.at_ hn0;subst hao;rw[Nat.add_zero]at hc1;have HA:=hW_ hA0;have HAL:=hW_ hAl;have HC:=hW_ (h.below hb0);have HB0:=hW_ hb0;have HX0:=hW_ hx0;have HW0:=hW_ hw0;unfold lL;have gn:(0:Int)<(n:Int):=by omega
 rcases hp with⟨x,rfl,h6⟩ | ⟨h0,hby⟩
 ·have e1:ix [x] 0=x:=rfl;rw[e1]at hc1;have g6:decide (x>=256)=true:=by simpa using h6
  obtain⟨hs1,hs2⟩:=xM (uB.1 hck x (by simp));have HF:Hid (tB V N [x]= [C9 V N x]):=hW_ (wH hck h6);obtain⟨z,hz⟩:∃z,C9 V N x=z:=⟨_,rfl⟩;rw[hz]at HF;have hid:=fun W (hg:Ge w0 W)=>T1 (dd:=⟨ta,tn,tc,ma,mn,mc,sa,sn,sc⟩) (kind:=kind) (to_:=to_) (tn':=tn') (tc':=tc') x W (HC.out.below hg) h6 hs2
  rw[hz]at hid;unfold lL at hid;dsimp only at hid;have HID:=hW_ hid;have G0:=fun w' (hg:Ge w0 w')=>hg.at w0 w' b0
  have G1:=fun w' (hg:Ge w0 w')=>hg.at w0 w' b1
  have G2:=fun w' (hg:Ge w0 w')=>hg.at w0 w' b2
  have G3:=fun w' (hg:Ge w0 w')=>hg.at w0 w' b3
  have G4:=fun w' (hg:Ge w0 w')=>hg.at w0 w' b4
  have G5:=fun w' (hg:Ge w0 w')=>hg.at w0 w' b5
  have G6:=fun w' (hg:Ge w0 w')=>hg.at w0 w' hc1
  have gr:=Ge.refl w0;have hc2:=hc1;rw[<-HW0.out]at hc2;clear h hA hA0 hAl hb0 hx0 hw0 hck hz hid h6 hs1 hs2;go_enter Tryz.func73,Tryz.ntmps73;go_wp2_with (fail);rw[HW0.out];clear hc2;go_wp2_with (fail);clear b0 b1 b2 b3 b4 b5 bf hc1
  go_region_held3 (Ge w0) (first | (with_reducible assumption) | (with_reducible refine Ge.drew ?_;with_reducible assumption) | (with_reducible refine Ge.drewN ?_ _;with_reducible assumption) | (with_reducible refine Ge.alloc ?_ _;with_reducible assumption) | (with_reducible refine Ge.alloc (Ge.drew ?_) _;with_reducible assumption) | (with_reducible refine Ge.alloc (Ge.drewN ?_ _) _;with_reducible assumption) | (with_reducible refine Ge.drew (Ge.alloc ?_ _);with_reducible assumption)) ((go_at_call 62;refine(HID.out _ (by first | assumption | exact Ge.drewN gr _)).mono ?_;rintro E w1 ⟨rfl,hb1⟩;have hg1:Ge w0 w1:=Below.trans (by first | assumption | exact Ge.drewN gr _) (hb1.mono (by first | exact Nat.le_refl _ | (simp;omega)))))
  go_wp2_with (fail);go_ret;refine⟨⟨_,rfl,?_⟩,HB0.out.trans (Below.mono (by assumption) HB0.out.size)⟩;rw[HF.out];exact Own.mono (oV w1 z) (by have:=hg1.size;have:=HSZ0.out;omega)
 ·obtain⟨i0,hi,hz0,hz1,hz2⟩:=info_parts cU;obtain⟨x,hx⟩:∃x,ix A 0=x:=⟨_,rfl⟩;have hx6:x<256:=by
   have h9:=uD (A:=A) (i:=0) (by omega);rw[hx]at h9;exact(hby x (List.mem_of_getElem? h9)).2
  rw[hx]at hc1;have g6:decide (x>=256)=false:=by simp;omega
  have HF:Hid (tB V N A=fG V A):=hW_ (sG hck h0 hby);have HKB:=hW_ (qE hby);have HKS:=hW_ (O0 hby);have HBY:=hW_ hby;have HOM:Hid ((w0.alloc (.cells #[] 5)).ownsRow w0.heap.size 5 1 (.slice (some ⟨w0.heap.size,0,none⟩) 0 0) 0 []):=hW_ (World.ownsRow_made w0 #[] 0 (Nat.le_refl _) (by unfold maxLen;omega) rfl);have hc2:=hc1;rw[<-HW0.out]at hc2;clear h hA hA0 hAl hb0 hx0 hw0 hck hx hx6 h0 hby;go_enter Tryz.func73,Tryz.ntmps73;go_wp2_with (fail);rw[HW0.out];clear hc2;go_wp2_with (fail);clear b0 b1 b2 b3 b4 b5 bf hc1;go_loopw [5,6,20] (fun v _ i wr=>∃k:Nat,i= .int .i64 k/\k<=n/\Hid (∃g cap,v= .slice (some ⟨g,0,none⟩) k cap)/\Hid (wr.ownsRow w0.heap.size 5 1 v k ((A.take k).map (.int .u8)))/\Hid (Below w0.heap.size w0 wr)) (fun _ _ i _=>n-(intOf i).toNat)
  case atStart=>exact⟨0,rfl,Nat.zero_le _,hW_ ⟨_,_,rfl⟩,hW_ (by rw[<-HSZ0.out];simpa using HOM.out),hW_ (aA w0 _)⟩
  case round=>
   obtain⟨k,rfl,hk,HV,HOW,HB⟩:=hrel
   by_cases hlt:k<n
   ·have gk:(k:Int)<(n:Int):=by omega
    obtain⟨b1,o1,hao,hc1⟩:=(SlI.below HA.out HB.out).at_ hlt;obtain⟨rfl,rfl⟩:rb=b1/\ro=o1:=by simpa using hao
    have hix:=uD (A:=A) (i:=k) (by have:=HAL.out;omega);obtain⟨s,hs⟩:∃s,ix A k=s:=⟨_,rfl⟩;rw[hs]at hc1 hix;have hs8:=HBY.out s (List.mem_of_getElem? hix);have hw8:IntKind.u8.wrap s=s:=by rw[IntKind.wrap_u8];omega
    have HTK:Hid (A.take (k+1)=A.take k++ [s]):=hW_ (by rw[List.take_add_one,hix];rfl);have HLO:=hW_ (World.ownsRow.lt HOW.out);have hsW:w0.heap.size<=wr.heap.size:=HB.out.size;clear hix hs hao hs8;go_wp2_with (at_builtin;refine wpList_append_own _ rfl _ _ 121 rfl w0.heap.size 5 i0 (.int .u8 0) 1 1 Tryz.underlying121 hi hz0 hz1 hz2 rfl (by decide) _ _ _ rfl (HOW.out.alloc _) ⟨wr.heap.size,0,none⟩ 1 1 [.int .u8 s] rfl rfl (cell_one_new _ _ _) (by simp[Value.oneCell']) (by unfold maxLen;omega) (by omega) (by simp;omega) ?_;intro v' w2 hown' hgrow _);have hown2:w2.ownsRow w0.heap.size 5 1 v' (k+1) ((A.take (k+1)).map (.int .u8)):=by rw[HTK.out,List.map_append];exact hown'
    have HOW2:=hW_ hown2;have HV2:Hid (∃g cap,v'= .slice (some ⟨g,0,none⟩) (k+1) cap):=hW_ (by
     have hl:(A.take (k+1)).length=k+1:=by rw[List.length_take];have:=HAL.out;omega
     have h3:w2.ownsRow w0.heap.size 5 1 v' (A.take (k+1)).length ((A.take (k+1)).map (.int .u8)):=by rw[hl];exact hown2
     obtain⟨gb,cap,e,_⟩:=rN h3 (by omega);rw[hl]at e;exact⟨gb,cap,e⟩)
    have HB2:Hid (Below w0.heap.size w0 w2):=hW_ ((HB.out.alloc hsW _).trans ((Below.refl _ _).grown hgrow (by simp;omega) (fun k hk=>(HLO.out k hk).1)));clear hown' hgrow hown2;go_wp2_with (fail);go_roundw
    case rel=>exact⟨k+1,by go_num,by omega,HV2,HOW2,HB2⟩
    case measure=>simp[intOf];omega
   ·obtain rfl:k=n:=by omega
    have hlA:A.take k=A:=List.take_of_length_le (by rw[HAL.out];exact Nat.le_refl _);have hcv:(convert 121 9 u5).run Tryz.prog wr= .ok (.string (rI A)) wr:=yY (by have:=HOW.out;rw[hlA]at this;rw[HAL.out];exact this) (by rw[HAL.out];exact HV.out);obtain⟨b0,b1,b2,b3,b4,b5,bf⟩:=lK ((HB.out.block w.heap.size (by have:=HSZ0.out;omega)).trans HX0.out);have l1:=ld3 (P:=Tryz.prog) b0 b1 b2;have hcr:=HC.out.below HB.out;have HE:=hW_ (dQ (V:=V) (ta:=ta) (tn:=tn) (tc:=tc) (ma:=ma) (mn:=mn) (mc:=mc) (sa:=sa) (sn:=sn) (sc:=sc) (rI A) wr hcr.voc.tok hcr.voc.mrg hmn (by rw[HKS.out,HAL.out];exact hn));obtain⟨sb,hsb⟩:∃s,rI A=s:=⟨_,rfl⟩;have hkb:=HKB.out;rw[hsb]at hcv HE hkb;have HKB2:=hW_ hkb;clear hlA hcr hsb hkb;go_wp2_with (fail);go_at_call 102;refine HE.out.mono ?_
    rintro e w2 ⟨⟨v,rfl,hown⟩,hb2⟩;have HO2:=hW_ hown;have HB2:=hW_ (HB.out.trans (hb2.mono HB.out.size));clear hown hb2;go_wp2_with (fail);go_ret;exact⟨⟨_,rfl,by rw[HF.out,<-HKB2.out];exact Own.mono HO2.out (Nat.le_trans HB0.out.size HB.out.size)⟩,HB0.out.trans (HB2.out.mono HB0.out.size)⟩
theorem H8.at_:∀{ps:List (Int×Bool)} {A:List Int},H8 ps A->∀{k:Nat} {p:Int×Bool},ps[k]?=some p->1<=p.1/\I0 (ps.take k)+p.1.toNat<=A.length/\sU ((A.drop (I0 (ps.take k))).take p.1.toNat)
 | [],A,_,k,p,h=>by simp at h
 | q::ps,A,⟨h1,h2,h3,h4⟩,0,p,h=>by
  simp at h;subst h;refine⟨h1,?_,?_⟩
  ·show 0+_<=_;omega
  ·exact h3
 | q::ps,A,⟨h1,h2,h3,h4⟩,k+1,p,h=>by
  have ih:=H8.at_ h4 (k:=k) (p:=p) (by simpa using h);rw[List.length_drop,List.drop_drop]at ih;rw[List.take_succ_cons,aCc];exact⟨ih.1,by omega,ih.2.2⟩
theorem qT {ps:List (Int×Bool)} {k:Nat} {p:Int×Bool} (h:ps[k]?=some p):I0 (ps.take (k+1))=I0 (ps.take k)+p.1.toNat:=by
 rw[List.take_add_one,h,Option.toList_some,sumP_app];simp[I0]
theorem pN {V:Vc} {N:List ByteArray} {ps:List (Int×Bool)} {A:List Int} {k:Nat} {p:Int×Bool} (h:ps[k]?=some p):qB V N (ps.take (k+1)) A=qB V N (ps.take k) A++tB V N ((A.drop (I0 (ps.take k))).take p.1.toNat):=by
 rw[List.take_add_one,h,Option.toList_some,nN];rfl
theorem gR {V:Vc} {N:List ByteArray} {ps:List (Int×Bool)} {A:List Int} (h:H8 ps A) (hc:lA V N A=0):∀k,(qB V N (ps.take k) A).length<=I0 (ps.take k)/\I0 (ps.take k)<=A.length
 | 0=>by simp[qB,I0]
 | k+1=>by
  obtain⟨h1,h2⟩:=gR h hc k
  cases hp:ps[k]? with
  | none=>
   have hl:ps.length<=k:=by simpa using hp
   rw[List.take_of_length_le (by omega)]at h1 h2 |-;exact⟨h1,h2⟩
  | some p=>
   obtain⟨g1,g2,g3⟩:=h.at_ hp;have hl:=(cH (vC (vC hc (I0 (ps.take k))).2 p.1.toNat).1 g3).2;rw[pN hp,qT hp,List.length_append];rw[List.length_take,List.length_drop]at hl;omega
theorem cQ {V:Vc} {N:List ByteArray} {dd:Vd} {no to_:Option Addr} {nn nc tn' tc':Nat} {kind:Int} {T:List Rg} {A:List Int} {ao:Option Addr} {n c:Nat} (w:World) (h:CR w dd no nn nc V N) (hmn:dd.mn<=16384) (hR:SlF 3 w to_ tn' tc' (flat Rg.enc T)) (hT:kA T) (hk0:0<=kind) (hk3:kind<=3) (hrn:tn'<=1048576)
  (hA:SlI w ao n c A) (hck:lA V N A=0) (hn:n<=100000):
  Calls Tryz.prog 35 #[lL dd no nn nc kind to_ tn' tc', .slice ao n c] w fun e w'=>(∃v,e= .returned v/\Own w' w.heap.size v (qL V N kind T A))/\Below w.heap.size w w':=by
 obtain⟨ta,tn,tc,ma,mn,mc,sa,sn,sc⟩:=dd;obtain⟨w0,hw0⟩:∃w0,w.alloc (.cells #[.slice ta tn tc, .slice ma mn mc, .slice sa sn sc, .slice no nn nc, .int .i64 kind, .slice to_ tn' tc'] 37)=w0:=⟨_,rfl⟩;have hb0:Below w.heap.size w w0:=hw0▸aA w _;have hx0:w0.heap[w.heap.size]?=some (.cells #[.slice ta tn tc, .slice ma mn mc, .slice sa sn sc, .slice no nn nc, .int .i64 kind, .slice to_ tn' tc'] 37):=by rw[<-hw0];exact heap_alloc_new w _
 have hz0:w0.heap.size=w.heap.size+1:=by rw[<-hw0];simp
 obtain⟨wa,hwa⟩:∃wa,w0.alloc (.cells #[] 3)=wa:=⟨_,rfl⟩;have hba:Below w0.heap.size w0 wa:=hwa▸aA w0 _;have hza:wa.heap.size=w.heap.size+2:=by rw[<-hwa];simp;omega
 have HOA:Hid (Own wa w0.heap.size (.slice (some ⟨w.heap.size+1,0,none⟩) 0 0) []):=hW_ (by rw[<-hwa,<-hz0];exact K5 w0);have hbw:Below w.heap.size w wa:=hb0.trans (hba.mono (by omega));obtain⟨b0,b1,b2,b3,b4,b5,bf⟩:=lK ((hba.block w.heap.size (by omega)).trans hx0);have HS:=hW_ (iN kind true wa (SlI.below hA hbw) hn (hR.below hbw) hT hk0 hk3 hrn);have HP:=hW_ (aN (kind:=kind) (final:=true) hT hck);have HE:Hid (qL V N kind T A=qB V N (B6 kind T A true) A):=hW_ rfl;obtain⟨ps,hps⟩:∃ps,B6 kind T A true=ps:=⟨_,rfl⟩;rw[hps]at HS HP HE;have HA:=hW_ hA;have HAL:=hW_ hA.len;have HC:=hW_ h;have HCK:=hW_ hck;have HX0:=hW_ hx0;have HBA:=hW_ hba;have HB0:=hW_ hb0;have HZ:=hW_ (And.intro hz0 hza);have HW0:=hW_ hw0;have HWA:=hW_ hwa;unfold lL;clear h hR hT hA hck hx0 hba hb0 hz0 hza hbw hps hw0 hwa;go_enter Tryz.func35,Tryz.ntmps35;go_wp2_with (fail);rw[HW0.out,HWA.out];go_wp2_with (fail);go_at_call 37;refine HS.out.mono ?_
 rintro e w1 ⟨⟨v,rfl,hown⟩,hb1⟩;clear b0 b1 b2 b3 b4 b5 bf;obtain⟨po,pc,rfl,hsl⟩:=eA.sl hown;have hpb:∀ad,po=some ad->wa.heap.size<=ad.block/\ad.block<w1.heap.size:=fun ad e=>World.ownsRow.lt hown ad.block (by rw[e];rfl)
 have HPB:=hW_ hpb;have HSL:=hW_ hsl;have HB1:=hW_ hb1;have HO1:Hid (Own w1 w0.heap.size (.slice (some ⟨w.heap.size+1,0,none⟩) 0 0) []):=hW_ (HOA.out.below hb1);obtain⟨m,hm⟩:∃m,ps.length=m:=⟨_,rfl⟩;rw[hm]at HSL |-;have HM:=hW_ hm;have HBW:Hid (∀W,Below w0.heap.size w1 W->Below w.heap.size w W):=hW_ (fun W hW=>HB0.out.trans (((HBA.out.trans (hb1.mono HBA.out.size)).trans hW).mono HB0.out.size));have HX1:Hid (w1.heap[w.heap.size]?=_):=hW_ ((hb1.block w.heap.size (by have:=HZ.out;omega)).trans ((HBA.out.block w.heap.size (by have:=HZ.out;omega)).trans HX0.out));have HS1:Hid (wa.heap.size<=w1.heap.size):=hW_ hb1.size;have hmm:=Nat.le_trans HSL.out.le HSL.out.max;unfold maxLen at hmm;obtain⟨i0,hi0,hz0,hz1,hz2⟩:=info_parts cF;clear hown hsl hb1 hm hpb;go_wp2_with (fail);go_loopw [5,7,8,18] (fun v q _ i wr=>∃(k:Nat),i= .int .i64 k/\k<=m/\q= .int .i64 ((I0 (ps.take k):Nat):Int)/\Hid (Own wr w0.heap.size v (qB V N (ps.take k) A))/\Hid (∀b,v.ownBlock=some b->b=w.heap.size+1\/w1.heap.size<=b)/\Hid (iA (fun b=>b=w.heap.size+1) w1 wr)) (fun _ _ _ i _=>m-(intOf i).toNat)
 case atStart=>exact⟨0,rfl,Nat.zero_le _,rfl,HO1,hW_ (fun b hb=>by simp[Value.ownBlock]at hb;omega),hW_ (iA.refl _ _)⟩
 case round=>
  obtain⟨k,rfl,hk,rfl,HO,HV,HK⟩:=hrel;have hle:=gR HP.out HCK.out k
  by_cases hlt:k<m
  ·have gk:(k:Int)<(m:Int):=by omega
   obtain⟨p,hp⟩:∃p,ps[k]?=some p:=⟨_,List.getElem?_eq_getElem (by have:=HM.out;omega)⟩
   obtain⟨p1,p2,p3⟩:=HP.out.at_ hp;have hnx:=qT hp;have hpx:=pN (V:=V) (N:=N) (A:=A) hp;obtain⟨j,hj⟩:∃j:Nat,p.1=j:=⟨p.1.toNat,by omega⟩;obtain⟨s,hs⟩:∃s,I0 (ps.take k)=s:=⟨_,rfl⟩;rw[hj,Int.toNat_natCast,hs]at p2 p3 hnx hpx;rw[hs]at hle |-;have hAn:=HAL.out;have hbr:Below w0.heap.size w1 wr:=HK.out.below (by have:=HZ.out;have:=HS1.out;omega) (fun b hb=>by have:=HZ.out;omega);have hxr:=(HK.out.block w.heap.size (by have:=HZ.out;have:=HS1.out;omega) (by omega)).trans HX1.out;obtain⟨b0,b1,b2,b3,b4,b5,bf⟩:=lK hxr;have hpr:SlF 2 wr po m pc (flat dD ps):=HSL.out.keep0 (fun ad e h0=>HK.out.block _ (HPB.out ad e).2 (by have:=(HPB.out ad e).1;have:=HZ.out;omega));obtain⟨pb,pf,hao,hce⟩:=hpr.elem D1 (by omega) hp;have d0:=hce 0 _ rfl;rw[Nat.add_zero,hj]at d0;subst hao;obtain⟨oo,oc,hoe,hol⟩:=HO.out.sl;subst hoe;obtain⟨O,hO⟩:∃O,qB V N (ps.take k) A=O:=⟨_,rfl⟩;rw[hO]at hle hpx HO HV hol |-;have hcp:=(vC (vC HCK.out s).2 j).1;obtain⟨so,hso,hss⟩:=Z2 (ao:=ao) (n:=n) (cap:=c) (k:=s) (m:=s+j) (K:=(s:Int)) (M:=(s:Int)+(j:Int)) rfl (by simp) (by omega) (by omega) (Sl.le HA.out) hi0 hz1;have hsm:s+j-s=j:=by omega
   rw[hsm]at hso hss;have hPC:∀W,Below wr.heap.size wr W->Calls Tryz.prog 73 #[.agg #[.slice ta tn tc, .slice ma mn mc, .slice sa sn sc, .slice no nn nc, .int .i64 kind, .slice to_ tn' tc'], .slice so j (c-s)] W fun e w'=>(∃rb rc,e= .returned (.slice (some ⟨rb,0,none⟩) (tB V N ((A.drop s).take j)).length rc)/\SlI w' (some ⟨rb,0,none⟩) (tB V N ((A.drop s).take j)).length rc (tB V N ((A.drop s).take j)))/\Below W.heap.size W w':=fun W hW=>by
    have hw2:Below w.heap.size w W:=HBW.out W (hbr.trans (hW.mono (by have:=hbr.size;have:=HZ.out;have:=HS1.out;omega)));have hpc:=cV (dd:=⟨ta,tn,tc,ma,mn,mc,sa,sn,sc⟩) (kind:=kind) (to_:=to_) (tn':=tn') (tc':=tc') W (HC.out.below hw2) hmn (hss W A (SlI.below HA.out hw2)) p3 hcp (by omega);unfold lL at hpc;dsimp only at hpc;refine hpc.mono ?_
    rintro e w' ⟨⟨v,rfl,hv⟩,hb⟩;obtain⟨rb,rc,rfl⟩:=K6 hv (cH hcp p3).1;obtain⟨_,_,e2,hs2⟩:=hv.sl;obtain⟨rfl,-,rfl⟩:=Value.slice.inj e2;exact⟨⟨rb,rc,rfl,hs2⟩,hb⟩
   have hpl:=cH hcp p3;rw[List.length_take,List.length_drop]at hpl;obtain⟨R,hR⟩:∃R,tB V N ((A.drop s).take j)=R:=⟨_,rfl⟩;rw[hR]at hPC hpl hpx;have HPC:=hW_ hPC;have HPL:Hid (0<R.length/\O.length+R.length<=n):=hW_ (by omega);have HPM:Hid (O.length+R.length<1048576):=hW_ (by have:=HPL.out.2;omega);have HLT:=hW_ (World.ownsRow.lt HO.out);have HNX:=hW_ (And.intro hnx hpx);have hsj:IntKind.i64.wrap ((s:Int)+(j:Int))=(s:Int)+(j:Int):=by rw[IntKind.wrap_i64];omega
   have HBR:Hid (w0.heap.size<=wr.heap.size):=hW_ (by have:=hbr.size;have:=HZ.out;have:=HS1.out;omega);have hnz:∀b,b<w.heap.size+1\/wa.heap.size<=b/\b<w1.heap.size->¬(Value.slice oo O.length oc).ownBlock=some b:=fun b hb e=>by
    have h1:=HV.out b e;have h2:=(HLT.out b e).1;have:=HZ.out;omega
   have hnb:=hnz w.heap.size (.inl (by omega));have hnp:=hnz pb (.inr (HPB.out _ rfl));have G0:=fun w' (hg:iA (fun b=>(Value.slice oo O.length oc).ownBlock=some b) wr w')=>hg.cell b0 hnb
   have G1:=fun w' (hg:iA (fun b=>(Value.slice oo O.length oc).ownBlock=some b) wr w')=>hg.cell b1 hnb
   have G2:=fun w' (hg:iA (fun b=>(Value.slice oo O.length oc).ownBlock=some b) wr w')=>hg.cell b2 hnb
   have G3:=fun w' (hg:iA (fun b=>(Value.slice oo O.length oc).ownBlock=some b) wr w')=>hg.cell b3 hnb
   have G4:=fun w' (hg:iA (fun b=>(Value.slice oo O.length oc).ownBlock=some b) wr w')=>hg.cell b4 hnb
   have G5:=fun w' (hg:iA (fun b=>(Value.slice oo O.length oc).ownBlock=some b) wr w')=>hg.cell b5 hnb
   have GP:=fun w' (hg:iA (fun b=>(Value.slice oo O.length oc).ownBlock=some b) wr w')=>hg.cell d0 hnp
   have gr:=iA.refl (fun b=>(Value.slice oo O.length oc).ownBlock=some b) wr;clear hp p1 p2 p3 hnx hpx hj hs hle hAn hbr hxr b0 b1 b2 b3 b4 b5 bf hpr hce d0 hol hO hcp hss hsm hPC hpl hR hnz hnb hnp;go_wp2_with (fail)
   go_region_held3 (iA (fun b=>(Value.slice oo O.length oc).ownBlock=some b) wr) (first | (with_reducible assumption) | (with_reducible refine iA.drew ?_;with_reducible assumption) | (with_reducible refine iA.drewN ?_ _;with_reducible assumption)) (first
    | (go_at_call 73;refine(HPC.out _ (by exact bA (Below.refl _ _) _)).mono ?_;rintro e w3 ⟨⟨rb,rc,rfl,hs3⟩,hb3⟩;have hg3:Below wr.heap.size wr w3:=Below.trans (Below.drew (Below.refl wr.heap.size wr)) hb3;have hz3:iA (fun b=>(Value.slice oo O.length oc).ownBlock=some b) wr w3:=iA.of_below hg3;have HO3:=hW_ (HO.out.below hg3);have HS3:=hW_ hs3;have HB3:=hW_ hg3.size;clear hs3 hb3 hg3)
    | (refine Q1 (by rfl) _ _ (by rfl) (base:=w0.heap.size) (v:= .slice oo O.length oc) (k:=O.length) (m:=R.length) (by rfl) (by exact HO3.out) rfl (by rfl) (by exact HS3.out) HPL.out.1 HPM.out (by exact Nat.le_trans HBR.out HB3.out) ?_;intro gg cap w4 ho4 hg4 hat4;have hz4:iA (fun b=>(Value.slice oo O.length oc).ownBlock=some b) wr w4:=iA.grown hz3 (by exact hg4) (fun q e _=>e);have HO4:=hW_ ho4;have HAT4:Hid ((Value.slice oo O.length oc).ownBlock=some gg\/gg=w3.heap.size):=hW_ (by exact hat4);clear ho4 hg4 hat4))
   have k9:=GP w4 hz4;have HEN:Hid (iA (fun b=>b=w.heap.size+1) w1 w4):=hW_ (HK.out.then hz4 (fun i hi e=>by have:=HV.out i e;omega));have HVN:Hid (∀b,(Value.slice (some ⟨gg,0,none⟩) (O.length+R.length) cap).ownBlock=some b->b=w.heap.size+1\/w1.heap.size<=b):=hW_ (fun b e=>by
    obtain rfl:gg=b:=by simpa[Value.ownBlock]using e
    rcases HAT4.out with h5 | h5
    ·exact HV.out gg h5
    ·have:=HK.out.size;have:=hz3.size;omega)
   clear hz3 hz4 gr G0 G1 G2 G3 G4 G5 GP;go_wp2_with (fail);go_roundw
   case rel=>exact⟨k+1,by go_num,by omega,by rw[HNX.out.1];simp,hW_ (by rw[HNX.out.2];exact HO4.out),HVN,HEN⟩
   case measure=>simp[intOf];omega
  ·obtain rfl:k=m:=by omega
   have hE:=HE.out;have ho:=HO.out;rw[List.take_of_length_le (by rw[HM.out];exact Nat.le_refl _)]at ho;rw[<-hE]at ho;have HO2:=hW_ ho;have hbr:Below w0.heap.size w1 wr:=HK.out.below (by have:=HZ.out;have:=HS1.out;omega) (fun b hb=>by have:=HZ.out;omega);have HBR:=hW_ (HBW.out wr hbr);clear ho hE hbr;go_wp2_with (fail);go_ret;exact⟨⟨_,rfl,Own.mono HO2.out HB0.out.size⟩,HBR.out⟩
open Go
theorem aAj {N:List ByteArray} (hN:rB N) {k:Nat} (hk:k<N.length):fI N (tk N k)=some k:=
 rP hk rfl (fun j hj e=>by
  have h:=List.pairwise_iff_getElem.1 hN.2.2 j k (by omega) hk hj;have e1:N[j]=tk N j:=by simp[tk,List.getD,show j<N.length by omega]
  have e2:N[k]=tk N k:=by simp[tk,List.getD,hk]
  rw[e1,e2,e,qG]at h
  cases h)
theorem vW {V:Vc} {N:List ByteArray} (hS:lF V.tokens V.specials) (hN:rB N) {k:Nat} (hk:k<N.length) {s:Sp} (h:mD V.specials (tk N k)=some s):A7 V N s.id=([256+(k:Int)],0):=by
 have hm:s∈V.specials:=List.mem_of_find?_eq_some h;have hnm:s.name=tk N k:=by
  have h9:=List.find?_some (p:=fun s:Sp=>decide (s.name=tk N k)) h;simpa using h9
 have ho:=hS.2.1 s hm;unfold A7;rw[if_neg (fun g=>by
  obtain⟨_,_,g3⟩:=dC.1 g;exact g3 ho.2.2.2),spBy_mem hS hm]
 simp only;rw[hnm,aAj hN hk]
theorem xD (V:Vc) (N:List ByteArray) (t:Int) (l:List Int):iB V N (t::l)=if(A7 V N t).2=0 then(if(iB V N l).2=0 then((A7 V N t).1++(iB V N l).1,0)else([],(iB V N l).2))else([],(A7 V N t).2):=rfl
theorem aL {V:Vc} {N:List ByteArray}:∀{L R:List Int},(iB V N L).2=0->iB V N (L++R)=if(iB V N R).2=0 then((iB V N L).1++(iB V N R).1,0)else([],(iB V N R).2)
 | [],R,_=>by
  show iB V N R=_
  by_cases h:(iB V N R).2=0
  ·rw[if_pos h];simp only[iB,List.nil_append];rw[<-h]
  ·rw[if_neg h];exact decTo_bad h
 | t::L,R,h=>by
  rw[xD]at h
  by_cases h1:(A7 V N t).2=0
  ·rw[if_pos h1]at h
   by_cases h2:(iB V N L).2=0
   ·rw[List.cons_append,xD,aL h2,if_pos h1,xD V N t L,if_pos h1,if_pos h2]
    by_cases h3:(iB V N R).2=0
    ·simp[h3]
    ·simp[h3]
   ·rw[if_neg h2]at h;exact absurd h h2
  ·rw[if_neg h1]at h;exact absurd h h1
where
 decTo_bad {V:Vc} {N:List ByteArray}:∀{R:List Int},(iB V N R).2≠0->iB V N R=([],(iB V N R).2)
 | [],h=>absurd rfl h
 | t::L,h=>by
  rw[xD]at h |-
  by_cases h1:(A7 V N t).2=0
  ·rw[if_pos h1]at h |-
   by_cases h2:(iB V N L).2=0
   ·rw[if_pos h2]at h;exact absurd rfl h
   ·rw[if_neg h2]
  ·rw[if_neg h1]
structure jS (V:Vc) (N:List ByteArray) (A:List Int) (k:Nat) (out:List Int):Prop where
 ok:(iB V N (A.take k)).2=0
 out:(iB V N (A.take k)).1=out
theorem jS.zero (V:Vc) (N:List ByteArray) (A:List Int):jS V N A 0 []:=⟨rfl,rfl⟩
theorem aCV (V:Vc) (N:List ByteArray) (t:Int):(iB V N [t]).2=(A7 V N t).2/\((A7 V N t).2=0->(iB V N [t]).1=(A7 V N t).1):=by
 rw[xD]
 by_cases h:(A7 V N t).2=0
 ·rw[if_pos h];simp[iB,h]
 ·rw[if_neg h];exact⟨rfl,fun h2=>absurd h2 h⟩
theorem jS.next {V:Vc} {N:List ByteArray} {A:List Int} {k:Nat} {out:List Int} (h:jS V N A k out) (hk:k<A.length) (he:(A7 V N (ix A k)).2=0):jS V N A (k+1) (out++(A7 V N (ix A k)).1):=by
 obtain⟨h1,h2⟩:=aCV V N (ix A k);have h3:(iB V N [ix A k]).2=0:=by rw[h1];exact he
 have h4:=aL (R:=[ix A k]) h.ok;rw[if_pos h3,sF hk]at h4;exact⟨by rw[h4],by rw[h4,h.out,h2 he]⟩
theorem jS.bad {V:Vc} {N:List ByteArray} {A:List Int} {k:Nat} {out:List Int} (h:jS V N A k out) (hk:k<A.length) (he:(A7 V N (ix A k)).2≠0):iB V N A=([],(A7 V N (ix A k)).2):=by
 have e1:A=A.take k++(ix A k::A.drop (k+1)):=by
  have e2:=List.take_append_drop k A;rw[List.drop_eq_getElem_cons hk]at e2;have e3:A[k]=ix A k:=by simp[ix,List.getD,hk]
  rw[e3]at e2;exact e2.symm
 have h3:iB V N (ix A k::A.drop (k+1))=([],(A7 V N (ix A k)).2):=by rw[xD,if_neg he]
 have h4:=aL (R:=ix A k::A.drop (k+1)) h.ok;rw[h3]at h4;simp only at h4;rw[if_neg he,<-e1]at h4;exact h4
theorem jS.all {V:Vc} {N:List ByteArray} {A:List Int} {k:Nat} {out:List Int} (h:jS V N A k out) (hk:A.length=k):iB V N A=(out,0):=by
 obtain⟨h1,h2⟩:=h;rw[<-hk,List.take_length]at h1 h2;rw[<-h1,<-h2]
def O8 (T:List ByteArray) (row b:List Int):Prop:=(∀t∈row,aE T t=true)/\row.flatMap (fun t=>cA (tk T t.toNat))=b
theorem aAF {x:Int} (h:0<=x/\x<256):cA (one x.toNat)= [x]:=by
 unfold cA one;simp;omega
theorem isTk_one {T:List ByteArray} (hT:yD T) {x:Int} (h:0<=x/\x<256):aE T (ofT T (one x.toNat))=true/\tk T (ofT T (one x.toNat)).toNat=one x.toNat:=by
 have hm:=hT.2.2.2 x.toNat (by omega);have hs:(one x.toNat).size≠0:=by simp[one,ByteArray.size]
 rcases zO T (one x.toNat)with⟨h1,_⟩ | ⟨_,i,h1,h2,_,h4⟩ | ⟨_,h1,_⟩
 ·exact absurd h1 hs
 ·rw[h4];have e:((i:Int)).toNat=i:=by omega
  refine⟨dC.2 ⟨by omega,by omega,?_⟩,?_⟩
  ·rw[e,h2];exact hs
  ·rw[e,h2]
 ·obtain⟨i,hi,he⟩:=gI hm;exact absurd he (h1 i hi)
theorem nT {V:Vc} (hT:yD V.tokens):∀{b:List Int},(∀x∈b,0<=x/\x<256)->O8 V.tokens (cB V b) b
 | [],_=>⟨by simp[cB],rfl⟩
 | x::b,h=>by
  obtain⟨h1,h2⟩:=nT hT (b:=b) (fun y hy=>h y (by simp[hy]));obtain⟨h3,h4⟩:=isTk_one hT (h x (by simp));have e:cB V (x::b)=ofT V.tokens (one x.toNat)::cB V b:=rfl;refine⟨fun t ht=> ?_,?_⟩
  ·rw[e]at ht;rcases List.mem_cons.1 ht with rfl | ht
   ·exact h3
   ·exact h1 t ht
  ·rw[e,List.flatMap_cons,h2,h4,aAF (h x (by simp))];rfl
theorem sZ {M:List Mg} {row r:List Int} (h:pF M row=some r):∃i m,F2 M row i m/\r=F6 row i m.out:=by
 unfold pF at h;split at h
 ·next he=>exact⟨_,_,he.choose_spec,(Option.some.inj h).symm⟩
 ·cases h
theorem oZ {V:Vc} (hM:D9 V.tokens V.merges) {row r b:List Int} (h:O8 V.tokens row b) (hs:pF V.merges row=some r):O8 V.tokens r b:=by
 obtain⟨i,m,hb,rfl⟩:=sZ hs;obtain⟨x,y,h1,h2,h3⟩:=hb.at_;have hm:m∈V.merges:=List.mem_of_find?_eq_some h3;have hp:=List.find?_some (p:=fun m:Mg=>decide (m.left=x) && decide (m.right=y)) h3;simp only[Bool.and_eq_true,decide_eq_true_eq]at hp;obtain⟨o1,o2,o3,o4,_⟩:=hM.2.1 m hm;have hi:=(List.getElem?_eq_some_iff.1 h2).1;have e:row=row.take i++x::y::row.drop (i+2):=by
  have e1:=List.take_append_drop i row;have g1:row[i]'(by omega)=x:=(List.getElem?_eq_some_iff.1 h1).2;have g2:row[i+1]'hi=y:=(List.getElem?_eq_some_iff.1 h2).2;rw[List.drop_eq_getElem_cons (by omega),List.drop_eq_getElem_cons hi,g1,g2]at e1;exact e1.symm
 obtain⟨t1,t2⟩:=h;refine⟨fun t ht=> ?_,?_⟩
 ·unfold F6 at ht;rcases List.mem_append.1 ht with ht | ht
  ·exact t1 t (List.mem_of_mem_take ht)
  ·rcases List.mem_cons.1 ht with rfl | ht
   ·exact o3
   ·exact t1 t (List.mem_of_mem_drop ht)
 ·rw[e]at t2;unfold F6;rw[<-t2];simp only[List.flatMap_append,List.flatMap_cons];rw[o4,M2,hp.1,hp.2];simp
theorem mT {V:Vc} (hM:D9 V.tokens V.merges) {b:List Int}:∀{k:Nat} {row:List Int},O8 V.tokens row b->O8 V.tokens (yG V.merges k row) b
 | 0,row,h=>h
 | k+1,row,h=>by
  simp only[yG]
  cases hs:pF V.merges row with
  | none=>exact h
  | some r=>exact mT hM (oZ hM h hs)
theorem oT {V:Vc} {N:List ByteArray}:∀{row b:List Int},O8 V.tokens row b->iB V N row=(b,0)
 | [],b,h=>by
  obtain⟨_,rfl⟩:=h;rfl
 | t::row,b,⟨h1,h2⟩=>by
  have h3:=h1 t (by simp);have hr:=oT (V:=V) (N:=N) (row:=row) ⟨fun u hu=>h1 u (by simp[hu]),rfl⟩;have hs:A7 V N t=(cA (tk V.tokens t.toNat),0):=by unfold A7;rw[if_pos h3]
  rw[xD,hr,hs,<-h2];rfl
theorem aCU {V:Vc} {N:List ByteArray} (hV:May V) (hN:rB N) {A:List Int} (hc:lA V N A=0) (hp:sU A):iB V N (tB V N A)=(A,0):=by
 have h0:A≠[]:=by
  rcases hp with⟨s,rfl,_⟩ | ⟨h,_⟩
  ·simp
  ·exact h
 unfold tB;rw[if_neg (by rintro(h | h);exact h hc;exact h0 h)];rcases hp with⟨s,rfl,h6⟩ | ⟨_,hb⟩
 ·have e:ix [s] 0=s:=rfl;rw[if_pos (by rw[e];exact⟨rfl,h6⟩),e];have hf:=uB.1 hc s (by simp);obtain⟨_,hs2⟩:=xM hf;obtain⟨k,hk⟩:∃k:Nat,s-256=k:=⟨(s-256).toNat,by omega⟩;have hkN:k<N.length:=by omega
  have hm:C9 V N s=aCJ (mD V.specials (tk N k)):=by
   unfold C9 iC ix;rw[hk];simp[tk,List.getD,hkN]
  have hm0:¬C9 V N s<0:=by
   unfold A4 at hf;rw[if_neg (by omega)]at hf;intro g;rw[if_pos ⟨h6,g⟩]at hf
   cases hf
  cases hsp:mD V.specials (tk N k)with
  | none=>rw[hm,hsp]at hm0;exact absurd (by decide) hm0
  | some p=>
   rw[hm,hsp];show iB V N [p.id]=_;have:=vW hV.2.2.2 hN hkN hsp;rw[xD,this];simp[iB];omega
 ·have e1:¬(A.length=1/\256<=ix A 0):=by
   rintro⟨g1,g2⟩;have h9:=uD (A:=A) (i:=0) (by omega);have:=hb _ (List.mem_of_getElem? h9);omega
  rw[if_neg e1,if_pos (List.all_eq_true.2 fun y hy=>C0.2 (hb y hy))];exact oT (mT hV.2.1 (nT hV.1 hb))
theorem uR {V:Vc} {N:List ByteArray} (hV:May V) (hN:rB N):∀{ps:List (Int×Bool)} {A:List Int},lA V N A=0->H8 ps A->iB V N (qB V N ps A)=(A,0)
 | [],A,_,h=>by
  have:A= []:=h;subst this;rfl
 | p::ps,A,hc,⟨h1,h2,h3,h4⟩=>by
  obtain⟨c1,c2⟩:=vC hc p.1.toNat;have e1:=aCU hV hN c1 h3;have e2:=uR hV hN c2 h4;show iB V N (tB V N (A.take p.1.toNat)++qB V N ps (A.drop p.1.toNat))=_;rw[aL (by rw[e1]),e2,e1,if_pos rfl];simp
theorem dec_text {V:Vc} {N:List ByteArray} (hV:May V) (hN:rB N) {kind:Int} {T:List Rg} (hT:kA T) {A:List Int} (hc:lA V N A=0):iB V N (qL V N kind T A)=(A,0):=
 uR hV hN hc (aN hT hc)
theorem aAs {base q rn rc:Nat} {A R:List Int} {v:Value} {ro:Option Addr} (w:World) (ho:Own w base v A) (hR:SlI w ro rn rc R) (hq:w.cell? ⟨q,0,none⟩=some (.slice ro rn rc)) (hlen:A.length+rn<=100000) (hb:base<=w.heap.size):
  Calls Tryz.prog 72 #[v, .slice (some ⟨q,0,none⟩) 1 1] w fun e w'=>∃v',e= .returned v'/\Own w' base v' (A++R)/\Below base w w':=by
 obtain⟨i0,hi,hz0,hz1,hz2⟩:=info_parts cF;have HO:=hW_ ho;have HR:=hW_ hR;have HLN:=hW_ hlen;have HB:=hW_ hb;clear ho hR hlen hb;go_enter Tryz.func72,Tryz.ntmps72;go_wp2_with (fail);refine wp_loop_rounds 2 ?_
 rw[rounds_succ];go_wp2_with (at_builtin;refine pD rfl _ _ 43 rfl i0 Tryz.underlying43 hi hz0 hz1 hz2 rfl HO.out rfl HR.out (by have:=HLN.out;omega) HB.out ?_;intro v' w2 ho2 hg2 hb2;have HO2:=hW_ ho2;have HB2:=hW_ hb2;clear ho2 hg2 hb2);rw[rounds_succ];go_wp2_with (fail);go_ret;exact⟨v',rfl,HO2.out,HB2.out⟩
theorem wW {V:Vc} {N:List ByteArray} (hT:∀s∈V.tokens,s.size<=64) (t:Int):(A7 V N t).1.length<=64:=by
 unfold A7;split
 ·next h=>
  obtain⟨a1,a2,_⟩:=dC.1 h;rw[nA];exact hT _ (mB (by omega))
 ·split
  ·simp
  ·split<;>simp
def DecPost (V:Vc) (N:List ByteArray) (A:List Int) (w:World) (e:Ending) (w':World):Prop:=
 (∃v,e= .returned (.tuple #[v, .int .i64 (iB V N A).2])/\Own w' w.heap.size v (iB V N A).1)/\Below w.heap.size w w'
theorem rS {V:Vc} {N:List ByteArray} {kind:Int} {T:List Rg} {base g cb:Nat} {A:List Int} {ao:Option Addr} {n c:Nat} (w:World) (hC:qJ w base g V N kind T cb) (hT:∀s∈V.tokens,s.size<=64) (hN:rB N) (hA:SlI w ao n c A) (hn:n<=100):
  Calls Tryz.prog 34 #[.pointer (some ⟨g,0,none⟩), .slice ao n c] w (DecPost V N A w):=by
 have HC:=hW_ hC;have HT:=hW_ hT;have HN:=hW_ hN;have HA:=hW_ hA;have HAL:=hW_ hA.len;clear hC hT hN hA;go_enter Tryz.func34,Tryz.ntmps34;go_wp2_with (fail);go_loopw [6,15] (fun o i wr=>∃(k:Nat) (O:List Int),k<=n/\i= .int .i64 k/\Hid (jS V N A k O)/\Hid (O.length<=64*k)/\Hid (Own wr w.heap.size o O)/\Hid (Below w.heap.size w wr)) (fun _ i _=>n-(intOf i).toNat)
 case atStart=>exact⟨0,[],Nat.zero_le _,rfl,hW_ (jS.zero V N A),hW_ (Nat.le_refl _),hW_ (Own.nil _ _),hW_ (Below.refl _ _)⟩
 case round=>
  obtain⟨k,O,hk,rfl,HK,HOL,HO,HB⟩:=hrel
  by_cases hlt:k<n
  ·obtain⟨b,o',hao,hc⟩:=(SlI.below HA.out HB.out).at_ hlt;subst hao;have hkA:k<A.length:=by have:=HAL.out;omega
   have HSY:=hW_ (sS (ix A k) wr (HC.out.below HB.out) HT.out HN.out);have HL64:=hW_ (wW (N:=N) HT.out (ix A k))
   by_cases he:(A7 V N (ix A k)).2=0
   ·have HKN:=hW_ (HK.out.next hkA he);unfold lW at HSY;rw[he]at HSY;obtain⟨R,hR⟩:∃R,(A7 V N (ix A k)).1=R:=⟨_,rfl⟩;rw[hR]at HSY HKN HL64;obtain⟨s,hs⟩:∃s,ix A k=s:=⟨_,rfl⟩;rw[hs]at hc HSY;clear he hR hs;go_wp2_with (fail);go_at_call 23;refine HSY.out.mono ?_
    rintro e w2 ⟨⟨vs,rfl,hos⟩,hb2⟩;obtain⟨ro,rc,rfl,hsl⟩:=hos.sl;have hb3:=aA w2 (.cells #[.slice ro R.length rc] 43);have hq:(w2.alloc (.cells #[.slice ro R.length rc] 43)).cell? ⟨w2.heap.size,0,none⟩=some (.slice ro R.length rc):=by simp
    have HJ:=hW_ (aAs _ ((HO.out.below hb2).below hb3) (SlI.below hsl hb3) hq (by have:=HOL.out;have:=HL64.out;omega) (Nat.le_trans HB.out.size (Nat.le_trans hb2.size hb3.size)));have HB3:Hid (Below w.heap.size w (w2.alloc (.cells #[.slice ro R.length rc] 43))):=hW_ ((HB.out.trans (hb2.mono HB.out.size)).trans (hb3.mono (Nat.le_trans HB.out.size hb2.size)));clear hos hb2 hsl hb3 hq;go_wp2_with (fail);go_at_call 72;refine HJ.out.mono ?_
    rintro e w4 ⟨v4,rfl,ho4,hb4⟩;have HO4:=hW_ ho4;have HB4:=hW_ (HB3.out.trans hb4);clear ho4 hb4;go_wp2_with (fail);go_roundw
    case rel=>exact⟨k+1,_,by omega,by go_num,HKN,hW_ (by rw[List.length_append];have:=HOL.out;have:=HL64.out;omega),HO4,HB4⟩
    case measure=>simp[intOf];omega
   ·have HD:=hW_ (HK.out.bad hkA he);unfold lW at HSY;obtain⟨er,her⟩:∃er,(A7 V N (ix A k)).2=er:=⟨_,rfl⟩;rw[her]at HSY HD he;have hbe:(er==0)=false:=by simpa using he
    obtain⟨s,hs⟩:∃s,ix A k=s:=⟨_,rfl⟩;rw[hs]at hc HSY;clear her hs he;go_wp2_with (fail);go_at_call 23;refine HSY.out.mono ?_
    rintro e w2 ⟨⟨vs,rfl,hos⟩,hb2⟩;have HB2:=hW_ (HB.out.trans (hb2.mono HB.out.size));clear hos hb2;go_wp2_with (fail);refine bodyPost_ret (v:= .tuple #[.slice none 0 0, .int .i64 er]) ?_ rfl ⟨⟨_,by rw[HD.out],by rw[HD.out];exact Own.nil _ _⟩,HB2.out⟩
    simp[results,Tryz.results34,go_sem]
  ·obtain rfl:k=n:=by omega
   have HD:=hW_ (HK.out.all HAL.out);go_wp2_with (fail);refine bodyPost_ret (v:= .tuple #[u6, .int .i64 0]) ?_ rfl ⟨⟨_,by rw[HD.out],by rw[HD.out];exact HO.out⟩,HB.out⟩
   simp[results,Tryz.results34,go_sem]
def lG (n:Nat):List Rw:=(List.range n).map fun b=>⟨one b,(b:Int)⟩
theorem Q6 (n:Nat):lG (n+1)=lG n++ [⟨one n,(n:Int)⟩]:=by
 unfold lG;rw[List.range_succ,List.map_append];rfl
theorem pI {n:Nat} {r:Rw} (h:r∈lG n):∃b,b<n/\r=⟨one b,(b:Int)⟩:=by
 unfold lG at h;obtain⟨b,hb,rfl⟩:=List.mem_map.1 h;exact⟨b,List.mem_range.1 hb,rfl⟩
theorem zT (n:Nat):(lG n).length=n:=by simp[lG]
theorem aCk (n i:Nat):iJ (lG n) i=if i<n then one i else ByteArray.empty:=by
 induction n with
 | zero=>rfl
 | succ n ih=>
  rw[Q6]
  by_cases e:i=n
  ·subst e;rw[zQ (fun r hr=>by obtain⟨b,hb,rfl⟩:=pI hr;simp only;omega)];simp
  ·rw[oI (by simp only;omega),ih]
   by_cases h:i<n
   ·rw[if_pos h,if_pos (by omega)]
   ·rw[if_neg h,if_neg (by omega)]
def abS:ByteArray:=⟨#[97,98]⟩
def R0:List Rw:=lG 256++ [⟨abS,256⟩]
def T0:List ByteArray:=(List.range 256).map one++ [abS]
theorem T0_len:T0.length=257:=by simp[T0]
theorem aP {i:Nat} (h:i<256):tk T0 i=one i:=by
 unfold tk T0;rw[List.getD_eq_getElem?_getD,List.getElem?_append_left (by simpa using h)];simp[h]
theorem T0_top:tk T0 256=abS:=by
 unfold tk T0;rw[List.getD_eq_getElem?_getD,List.getElem?_append_right (by simp)];simp
theorem one_inj {i j:Nat} (hi:i<256) (hj:j<256) (h:one i=one j):i=j:=by
 unfold one at h;simp only[ByteArray.mk.injEq,Array.mk.injEq,List.cons.injEq,and_true]at h;have:=congrArg UInt8.toNat h;simp at this;omega
theorem uniq_T0:O7 T0:=fun i j h1 h2 e=>by
 rw[T0_len]at h2
 by_cases hj:j=256
 ·subst hj;rw[aP (by omega),T0_top]at e;have:=congrArg ByteArray.size e;simp[one,abS,ByteArray.size]at this
 ·rw[aP (by omega),aP (by omega)]at e;have:=one_inj (by omega) (by omega) e;omega
def m0:Mg:=⟨97,98,256,256⟩
theorem ok_R0:kG R0 []:=by
 refine⟨by simp,fun r hr=> ?_,?_⟩
 ·rcases List.mem_append.1 hr with h | h
  ·obtain⟨b,hb,rfl⟩:=pI h;simp only;omega
  ·obtain rfl:=List.mem_singleton.1 h;simp only;omega
 ·unfold R0;rw[List.pairwise_append];refine⟨?_,by simp,fun a ha b hb=> ?_⟩
  ·unfold lG;rw[List.pairwise_map];exact List.pairwise_lt_range.imp (fun h=>by simp only;omega)
  ·obtain⟨q,hq,rfl⟩:=pI ha;obtain rfl:=List.mem_singleton.1 hb;simp only;omega
end Go.Proofs.YtimkkkdabmhedaaGreatDoor
