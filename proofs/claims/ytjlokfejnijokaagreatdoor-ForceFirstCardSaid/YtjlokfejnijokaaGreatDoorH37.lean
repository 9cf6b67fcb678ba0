/- Plain laws: the vocabulary of the chapter's example of the index. -/
import Derived.Test.YtjlokfejnijokaaGreatDoorIShelf
import Derived.Test.YtjlokfejnijokaaGreatDoorH36
import Derived.Test.YtjlokfejnijokaaGreatDoorH34
import Derived.Test.YtjlokfejnijokaaGreatDoorH20
import Derived.LoopN
import Derived.Test.YtjlokfejnijokaaGreatDoorH35
import Derived.Test.YtjlokfejnijokaaGreatDoorH33
import Derived.Test.YtjlokfejnijokaaGreatDoorH7
import Derived.Test.YtjlokfejnijokaaGreatDoorH24
import Derived.BigQuiet
import Derived.Shelf.SlSortCmp.QuietGrown
import Derived.Test.YtjlokfejnijokaaGreatDoorH10
import Derived.Shelf.SlSortCmp.InsertionK
import Derived.Shelf.SortM.Plain
import Derived.Shelf.SortM.SortNone
import Derived.Test.YtjlokfejnijokaaGreatDoorProg
set_option linter.unusedVariables false
set_option maxHeartbeats 2000000
set_option maxRecDepth 100000
namespace Go.Proofs.YtjlokfejnijokaaGreatDoor
open Go
def bS:ByteArray:=⟨#[97,98,99]⟩
def R1:List Rw:=R0++ [⟨bS,257⟩]
theorem R1_eq:oJ [abS,bS]=R1:=by
 unfold oJ R1 R0;rw[List.append_assoc];rfl
def T1:List ByteArray:=T0++ [bS]
theorem Q4:T1.length=258:=by simp[T1,nH]
theorem yN {i:Nat} (h:i<257):tk T1 i=tk T0 i:=by
 unfold tk T1;rw[List.getD_eq_getElem?_getD,List.getElem?_append_left (by rw[nH];exact h),List.getD_eq_getElem?_getD]
theorem T1_top:tk T1 257=bS:=by
 unfold tk T1;rw[List.getD_eq_getElem?_getD,List.getElem?_append_right (by rw[nH];omega)];simp[nH]
theorem top_R1:top R1 []=258:=by decide +kernel
theorem toks_R1:nD R1 []=T1:=by
 unfold nD;rw[top_R1];refine List.ext_getElem? fun i=> ?_
 by_cases h:i<258
 ·rw[zA (T:=T1) (by rw[Q4];exact h)];simp only[List.getElem?_map,List.getElem?_range (show i<(258:Int).toNat from h),Option.map_some];congr 1;unfold R1;have h0:∀r∈R0,r.rank≠(257:Int):=fun r hr=>by
   rcases List.mem_append.1 hr with h | h
   ·obtain⟨b,hb,rfl⟩:=E1 h;simp only;omega
   ·obtain rfl:=List.mem_singleton.1 h;simp only;omega
  by_cases e:i=257
  ·subst e;rw[T1_top,H5 h0];rfl
  ·rw[yN (by omega),C9 (by simp only;omega)];have h2:=toks_R0;unfold nD at h2;rw[top_R0]at h2;have h3:=congrArg (fun l=>l[i]?) h2;simp only[List.getElem?_map,List.getElem?_range (show i<(257:Int).toNat by show i<257;omega),Option.map_some]at h3;rw[zA (T:=T0) (by rw[nH];omega)]at h3;exact Option.some.inj h3
 ·rw[List.getElem?_eq_none (by simp;omega),List.getElem?_eq_none (by rw[Q4];omega)]
def m1:Mg:=⟨256,99,257,257⟩
def Mg.tup (m:Mg):Int×Int×Int×Int:=(m.left,m.right,m.out,m.order)
theorem Mg.tup_inj (a b:Mg) (h:a.tup=b.tup):a=b:=by
 cases a;cases b
 simp only[Mg.tup,Prod.mk.injEq]at h;obtain⟨rfl,rfl,rfl,rfl⟩:=h;rfl
theorem mgs_inj {L M:List Mg} (h:L.map Mg.tup=M.map Mg.tup):L=M:=(List.map_inj_right Mg.tup_inj).1 h
theorem aBE:aG T1= [m0,m1]:=mgs_inj (by decide +kernel)
def V1:Vc:=⟨T1,[m0,m1],[]⟩
theorem T7:B8 V1 []=((List.range 256).map fun(i:Nat)=>([(i:Int)],(i:Int)))++ [([97,98],256),([97,98,99],257)]:=by decide +kernel
theorem aAf:cC (B8 V1 []) [97,98]= [97,256,257]:=by decide +kernel
theorem Y7:(B8 V1 []).length=258:=by rw[T7];simp
theorem uniq_T1:wN T1:=fun i j h1 h2 e=>by
 rw[Q4]at h2
 by_cases hj:j=257
 ·subst hj;rw[T1_top,yN h1]at e;exfalso
  by_cases hi:i=256
  ·subst hi;rw[aAm]at e;have:=congrArg ByteArray.size e;simp[bS,abS,ByteArray.size]at this
  ·rw[zN (by omega)]at e;have:=congrArg ByteArray.size e;simp[one,bS,ByteArray.size]at this
 ·rw[yN (by omega),yN (by omega)]at e;rw[yN (by omega)];exact aAs i j h1 (by rw[nH];omega) e
theorem aBI:C0 T1:=⟨by rw[Q4];omega,fun s hs=>by
 unfold T1 at hs;rcases List.mem_append.1 hs with h | h
 ·exact S4.2.1 s h
 ·obtain rfl:=List.mem_singleton.1 h;exact show 3<=64 by omega,uniq_T1,fun b hb=>List.mem_append.2 (.inl (S4.2.2.2 b hb))⟩
theorem okMg_T1:∀m∈[m0,m1],Q6 T1 m:=by unfold Q6;decide +kernel
theorem rise_T1:[m0,m1].Pairwise (fun a b=>I4 a b/\yE a b):=by unfold I4 yE;decide +kernel
theorem oL:May V1:=by
 refine⟨aBI,⟨by simp[V1],okMg_T1,rise_T1⟩,fun i hi h=> ?_,⟨by simp[V1],by simp[V1],by simp[V1]⟩⟩;simp only[V1]at hi h |-;rw[Q4]at hi
 by_cases e:i=257
 ·subst e;exact⟨m1,by simp,rfl⟩
 ·rw[yN (by omega)]at h
  by_cases e2:i=256
  ·subst e2;exact⟨m0,by simp,rfl⟩
  ·rw[zN (by omega)]at h;exact absurd h (by show¬1<1;omega)
theorem sort_V1:mF [m0,m1]= [m0,m1]:=by
 unfold mF;refine List.mergeSort_of_pairwise ?_
 decide +kernel
theorem voc_R1:jS R1 []=V1:=by
 unfold jS;rw[toks_R1,aBE,sort_V1,sort_nil];rfl
theorem ok_R1:qF R1 []:=by
 refine⟨by simp,fun r hr=> ?_,?_⟩
 ·rcases List.mem_append.1 hr with h | h
  ·exact ok_R0.2.1 r h
  ·obtain rfl:=List.mem_singleton.1 h;simp only;omega
 ·unfold R1;rw[List.pairwise_append];refine⟨ok_R0.2.2,by simp,fun a ha b hb=> ?_⟩;obtain rfl:=List.mem_singleton.1 hb;unfold R0 at ha;rcases List.mem_append.1 ha with h | h
  ·obtain⟨q,hq,rfl⟩:=E1 h;simp only;omega
  ·obtain rfl:=List.mem_singleton.1 h;simp only;omega
theorem good_R1:oI R1 []:=⟨ok_R1,by rw[voc_R1];exact oL⟩
theorem best_V1:aAp (B8 V1 []) [97,98] 256 2:=by
 refine .inr ⟨([97,98],256),by rw[T7];simp,rfl,rfl,rfl,?_⟩;rw[T7];decide +kernel
def T2:List ByteArray:=(List.range 256).map one++ [ByteArray.empty]
open Go.RowKit
theorem aBJ:mA usR:=by unfold mA I5;decide +kernel
theorem aBK {T:List Rg} (h:mA T):mA (C3 T):=by
 unfold C3;split
 ·exact aBJ
 ·exact h
theorem SlI.blk {w:World} {ao:Option Addr} {n c:Nat} {A:List Int} (h:SlI w ao n c A):∀ad,ao=some ad->0<n->ad.block<w.heap.size:=fun ad e h0=>by
 obtain⟨b,o,hao,hc⟩:=h.at_ h0;obtain rfl:ad=⟨b,o,Option.none⟩:=Option.some.inj (e.symm.trans hao);exact World.block_lt_of_cell? w _ hc
theorem nV {V:Vc} {N:List ByteArray} (hT:∀s∈V.tokens,s.size<=64) (t:Int):(iA V N t).1.length<=64:=by
 unfold iA;split
 ·next h=>
  obtain⟨a1,a2,_⟩:=A8.1 h;rw[C8];exact hT _ (A4 (by omega))
 ·split
  ·simp
  ·split<;>simp
def aBg (V:Vc) (N:List ByteArray) (A:List Int) (w:World) (e:Ending) (w':World):Prop:=
 (∃v,e= .returned (.tuple #[v, .int .i64 (xA V N A).2])/\Own w' w.heap.size v (xA V N A).1)/\Below w.heap.size w w'
theorem aQ (w:World):Own (w.alloc (.cells #[] 3)) w.heap.size (.slice (some ⟨w.heap.size,0,none⟩) 0 0) []:=World.ownsRow_made w #[] 0 (Nat.le_refl _) (by unfold maxLen;omega) (by simp)
theorem qR {V:Vc} {N:List ByteArray} {dd:Vd} {no to_:Option Addr} {nn nc tn' tc':Nat} {kind:Int} {A:List Int} {ao:Option Addr} {n c:Nat} (w:World) (hC:CR w dd no nn nc V N) (hA:SlI w ao n c A) (hn:n<=100):
  Calls Tryz.prog 26 #[X4 dd no nn nc kind to_ tn' tc', .slice ao n c] w (aBg V N A w):=by
 obtain⟨ta,tn,tc,ma,mn,mc,sa,sn,sc⟩:=dd;obtain⟨i0,hi,hz0,hz1,hz2⟩:=info_parts vC;obtain⟨w0,hw0⟩:∃w0,w.alloc (.cells #[.slice ta tn tc, .slice ma mn mc, .slice sa sn sc, .slice no nn nc, .int .i64 kind, .slice to_ tn' tc'] 32)=w0:=⟨_,rfl⟩;obtain⟨w1,hw1⟩:∃w1,w0.alloc (.cells #[] 3)=w1:=⟨_,rfl⟩;have hb0:Below w.heap.size w w0:=hw0▸aA w _;have hb1:Below w0.heap.size w0 w1:=hw1▸aA w0 _;have hx0:w0.heap[w.heap.size]?=some (.cells #[.slice ta tn tc, .slice ma mn mc, .slice sa sn sc, .slice no nn nc, .int .i64 kind, .slice to_ tn' tc'] 32):=by rw[<-hw0];exact heap_alloc_new w _
 have hz:w.heap.size<w0.heap.size:=by rw[<-hw0];simp
 have ho1:Own w1 (w.heap.size+1) (.slice (some ⟨w0.heap.size,0,none⟩) 0 0) []:=hw1▸(aQ w0).mono hz;have hsym:=fun(t:Int) (w:World)=>rsym_c (V:=V) (N:=N) (kind:=kind) (to_:=to_) (tn':=tn') (tc':=tc') (dd:=⟨ta,tn,tc,ma,mn,mc,sa,sn,sc⟩) (no:=no) (nn:=nn) (nc:=nc) t w
 unfold X4 at *;simp only at hsym |-;have HSY:=hW_ hsym;have HC:=hW_ hC;have HA:=hW_ hA;have HAL:=hW_ hA.len;have HB1:Hid (Below w.heap.size w w1):=hW_ (hb0.trans (hb1.mono hb0.size));have HX1:Hid (w1.heap[w.heap.size]?=some (.cells #[.slice ta tn tc, .slice ma mn mc, .slice sa sn sc, .slice no nn nc, .int .i64 kind, .slice to_ tn' tc'] 32)):=hW_ ((hb1.block _ hz).trans hx0);have HZ1:Hid (w.heap.size<w1.heap.size):=hW_ (Nat.lt_of_lt_of_le hz hb1.size);have HO1:=hW_ ho1;have HS0:Hid (w0.heap.size=w.heap.size+1):=hW_ (by rw[<-hw0];simp);have HW0:=hW_ hw0;have HW1:=hW_ hw1;have HT64:=hW_ hC.t64;clear hC hA hsym hb0 hb1 hx0 hz ho1 hw0 hw1;go_enter Tryz.func26,Tryz.ntmps26;go_wp2_with (fail);rw[HW0.out,<-HS0.out,HW1.out];go_loopw [6,13] (fun o i wr=>∃(k:Nat) (O:List Int),k<=n/\i= .int .i64 k/\Hid (cR V N A k O)/\Hid (O.length<=64*k)/\Hid (Own wr (w.heap.size+1) o O)/\Hid (Below (w.heap.size+1) w1 wr)/\Hid (Below w.heap.size w wr)) (fun _ i _=>n-(intOf i).toNat)
 case atStart=>exact⟨0,[],Nat.zero_le _,rfl,hW_ (cR.zero V N A),hW_ (Nat.le_refl _),HO1,hW_ (Below.refl _ _),HB1⟩
 case round=>
  obtain⟨k,O,hk,rfl,HK,HOL,HO,HB,HBW⟩:=hrel
  by_cases hlt:k<n
  ·obtain⟨b,o',hao,hc⟩:=(SlI.below HA.out HBW.out).at_ hlt;subst hao;have hkA:k<A.length:=by have:=HAL.out;omega
   obtain⟨b0,b1,b2,b3,b4,b5,bf⟩:=nK ((HB.out.block _ (Nat.lt_succ_self _)).trans HX1.out);have HL64:=hW_ (nV (N:=N) HT64.out (ix A k));have HSQ:Hid (∀W,Ge wr W->Calls Tryz.prog 58 #[.agg #[.slice ta tn tc, .slice ma mn mc, .slice sa sn sc, .slice no nn nc, .int .i64 kind, .slice to_ tn' tc'], .int .i64 (ix A k)] W fun e w'=>(∃ro rc,e= .returned (.tuple #[.slice ro (iA V N (ix A k)).1.length rc, .int .i64 (iA V N (ix A k)).2])/\SlI w' ro (iA V N (ix A k)).1.length rc (iA V N (ix A k)).1)/\Below wr.heap.size wr w'):=hW_ (fun W hW=>(HSY.out (ix A k) W ((HC.out.below HBW.out).below hW)).mono (by
    rintro e w' ⟨⟨v,rfl,ho⟩,hb⟩;obtain⟨ro,rc,rfl,hs⟩:=ho.sl;exact⟨⟨ro,rc,rfl,hs⟩,hW.below hb⟩))
   by_cases he:(iA V N (ix A k)).2=0
   ·have HKN:=hW_ (HK.out.next hkA he);rw[he]at HSQ;obtain⟨R,hR⟩:∃R,(iA V N (ix A k)).1=R:=⟨_,rfl⟩;rw[hR]at HSQ HKN HL64;obtain⟨s,hs⟩:∃s,ix A k=s:=⟨_,rfl⟩;rw[hs]at hc HSQ;clear he hR hs;go_wp2_with (fail)
    go_region_with (go_at_call 58;refine(HSQ.out _ (by exact bA (Below.refl _ _) _)).mono ?_;rintro e w9 ⟨⟨ro,rc,rfl,hs9⟩,hb9⟩;have HS9:=hW_ hs9;have HB9:=hW_ hb9;clear hs9 hb9)
    all_goals(
     go_wp2_with (at_builtin;refine C2 rfl _ _ 40 rfl i0 Tryz.underlying40 hi hz0 hz1 hz2 rfl (HO.out.below HB9.out) rfl HS9.out (by have:=HOL.out;have:=HL64.out;omega) (Nat.le_trans (Nat.le_trans HZ1.out HB.out.size) HB9.out.size) ?_;intro v4 w4 ho4 hg4 hb4;have HO4:=hW_ ho4;have HW4:Hid (Below (w.heap.size+1) w1 w4):=hW_ (Below.grown (HB.out.trans (HB9.out.mono (Nat.le_trans HZ1.out HB.out.size))) hg4 (Nat.le_trans (Nat.le_trans HZ1.out HB.out.size) HB9.out.size) (fun q hq=>(World.ownsRow.lt HO.out q hq).1));have HB4:Hid (Below w.heap.size w w4):=hW_ ((HBW.out.trans (HB9.out.mono HBW.out.size)).trans (hb4.mono (Nat.le_succ _)));clear ho4 hg4 hb4);go_roundw
     case rel=>exact⟨k+1,_,by omega,by go_num,HKN,hW_ (by rw[List.length_append];have:=HOL.out;have:=HL64.out;omega),HO4,HW4,HB4⟩
     case measure=>simp[intOf];omega)
   ·have HD:=hW_ (HK.out.bad hkA he);obtain⟨er,her⟩:∃er,(iA V N (ix A k)).2=er:=⟨_,rfl⟩;rw[her]at HSQ HD he;have hbe:(er==0)=false:=by simpa using he
    obtain⟨s,hs⟩:∃s,ix A k=s:=⟨_,rfl⟩;rw[hs]at hc HSQ;clear her hs he;go_wp2_with (fail)
    go_region_with (go_at_call 58;refine(HSQ.out _ (by exact bA (Below.refl _ _) _)).mono ?_;rintro e w9 ⟨⟨ro,rc,rfl,hs9⟩,hb9⟩;have HB9:=hW_ hb9;clear hs9 hb9)
    all_goals(
     have HE9:Hid (Below w.heap.size w (w9.alloc (.cells #[] 3))):=hW_ ((HBW.out.trans (HB9.out.mono HBW.out.size)).alloc (Nat.le_trans HBW.out.size HB9.out.size) _);go_wp2_with (fail);refine bodyPost_ret (v:= .tuple #[.slice (some ⟨w9.heap.size,0,none⟩) 0 0, .int .i64 er]) ?_ rfl ⟨⟨_,by rw[HD.out],by rw[HD.out];exact(aQ w9).mono (Nat.le_trans HBW.out.size HB9.out.size)⟩,HE9.out⟩
     simp[results,Tryz.results26,go_sem])
  ·obtain rfl:k=n:=by omega
   have HD:=hW_ (HK.out.all HAL.out);go_wp2_with (fail);refine bodyPost_ret (v:= .tuple #[u6, .int .i64 0]) ?_ rfl ⟨⟨_,by rw[HD.out],by rw[HD.out];exact HO.out.mono (Nat.le_succ _)⟩,HBW.out⟩
   simp[results,Tryz.results26,go_sem]
open Go.Sort hiding Below
structure FP where
 ao:Option Addr
 n:Nat
 c:Nat
 id:Int
 syms:List Int
instance :Inhabited FP:=⟨⟨none,0,0,0,[]⟩⟩
def FP.enc (p:FP):List Value:=[.slice p.ao p.n p.c, .int .i64 p.id]
theorem FP.enc_len (p:FP):p.enc.length=2:=rfl
theorem FP.enc_one (p:FP):∀v∈p.enc,v.oneCell'=true:=by
 intro v hv;simp[FP.enc]at hv;rcases hv with rfl | rfl<;>rfl
def FP.fr (p:FP):Fr:=(p.syms,p.id)
def fp (P:List FP) (i:Nat):FP:=P.getD i default
theorem xI {P:List FP} {i:Nat} (h:i<P.length):P[i]?=some (fp P i):=by simp[fp,List.getD,h]
theorem qU {P:List FP} {i:Nat} (h:i<P.length):fp P i∈P:=List.mem_of_getElem? (xI h)
theorem aAS:(Tryz.prog.info? 95).map (fun i=>(i.zero.map (·.cells.size),i.size,i.bytes))=some (some 2,2,32):=by kernel_rfl
structure J0 (w:World) (g:Nat) (P:List FP):Prop where
 tab:∃ro rc,w.heap[g]?=some (.cells #[.slice ro P.length rc] 92)/\SlF 2 w ro P.length rc (flat FP.enc P)
 syms:∀p∈P,SlI w p.ao p.n p.c p.syms
theorem J0.below {w w':World} {g:Nat} {P:List FP} (h:J0 w g P) (hb:Below w.heap.size w w'):J0 w' g P:=by
 obtain⟨⟨ro,rc,h1,h2⟩,h3⟩:=h;exact⟨⟨ro,rc,(hb.block g (Array.getElem?_eq_some_iff.1 h1).1).trans h1,h2.below hb⟩,fun p hp=>(h3 p hp).below hb⟩
theorem J0.drewN {w:World} {g:Nat} {P:List FP} (h:J0 w g P) (k:Nat):J0 (w.drewN k) g P:=h.below (bA (Below.refl _ _) k)
theorem I2 {w:World} {g:Nat} {a:Value} {t:TypeId} (h:w.heap[g]?=some (.cells #[a] t)):w.cell? ⟨g,0,none⟩=some a/\∀o,w.frozen? ⟨g,o,none⟩=false:=by
 simp[World.cell?,World.frozen?,h]
theorem set1N {w:World} {g:Nat} {a v:Value} {t:TypeId} (h:w.heap[g]?=some (.cells #[a] t)):(w.setCell ⟨g,0,none⟩ v).heap[g]?=some (.cells #[v] t):=by
 simp[World.setCell,Array.getElem?_modify,h]
theorem tX {P:List FP} (h:eC (P.map FP.fr)) (s:List Int) {k0:Nat} (hk:k0=(P.map FP.fr).countP (fun r=>decide (r.1<s))):k0<=P.length/\∀t,t<P.length->((fp P t).syms<s↔t<k0):=by
 have h1:=mC (h.less s);rw[<-hk]at h1;have hle:k0<=P.length:=by rw[hk];have:=List.countP_le_length (p:=fun r:Fr=>decide (r.1<s)) (l:=P.map FP.fr);simpa using this
 refine⟨hle,fun t ht=> ?_⟩;have hm:(P.map FP.fr)[t]?=some (fp P t).fr:=by rw[List.getElem?_map,xI ht];rfl
 constructor
 ·intro hlt;rcases Nat.lt_or_ge t k0 with h2 | h2
  ·exact h2
  ·exfalso;have:(fp P t).fr∈(P.map FP.fr).drop k0:=List.mem_of_getElem? (i:=t-k0) (by rw[List.getElem?_drop,show k0+(t-k0)=t by omega];exact hm);rw[h1.2,List.mem_filter]at this;have:=this.2;simp only[FP.fr,Bool.not_eq_true']at this;exact of_decide_eq_false this hlt
 ·intro hlt;have:(fp P t).fr∈(P.map FP.fr).take k0:=List.mem_of_getElem? (i:=t) (by rw[List.getElem?_take,if_pos hlt];exact hm);rw[h1.1,List.mem_filter]at this;exact of_decide_eq_true this.2
theorem cmpL_ge {a b:List Int}:0<=pE a b↔¬a<b:=by
 rw[<-xU];omega
theorem T8 (p q:FP) (w:World) (hp:SlI w p.ao p.n p.c p.syms) (hq:SlI w q.ao q.n q.c q.syms):
  Calls Tryz.prog 56 #[.agg #[.slice p.ao p.n p.c, .int .i64 p.id], .agg #[.slice q.ao q.n q.c, .int .i64 q.id]] w fun e w'=>e= .returned (.int .i64 (pE p.syms q.syms))/\∃m os,w'=grow (w.drewN m) os:=by
 have hb:Below w.heap.size w ((w.alloc (.cells #[.slice p.ao p.n p.c, .int .i64 p.id] 95)).alloc (.cells #[.slice q.ao q.n q.c, .int .i64 q.id] 95)):=(aA w _).alloc (by simp) _;have hcmp:=fG _ (hp.below hb) (hq.below hb);clear hb;go_enter Tryz.func56,Tryz.ntmps56;go_wp2_with (fail);refine hcmp.mono ?_
 rintro e w' ⟨rfl,rfl⟩;clear hcmp;go_wp2;go_ret;exact⟨rfl,0,_,by rw[alloc_eq_grow,alloc_eq_grow,grow_grow];rfl⟩
theorem tJ (p:FP) {S:List Int} {so:Option Addr} {sn sc:Nat} (w:World) (hp:SlI w p.ao p.n p.c p.syms) (hS:SlI w so sn sc S):
  Calls Tryz.prog 102 #[.agg #[.slice p.ao p.n p.c, .int .i64 p.id], .slice so sn sc] w fun e w'=>e= .returned (.int .i64 (pE p.syms S))/\Below w.heap.size w w':=by
 have hb:Below w.heap.size w (w.alloc (.cells #[.slice p.ao p.n p.c, .int .i64 p.id] 95)):=aA w _;have hcmp:=fG _ (hp.below hb) (hS.below hb);have HB:=hW_ hb;clear hb;go_enter Tryz.func102,Tryz.ntmps102;go_wp2_with (fail);refine hcmp.mono ?_
 rintro e w' ⟨rfl,rfl⟩;clear hcmp;go_wp2;go_ret;exact⟨rfl,HB.out⟩
theorem cmp_q {A B:List Int} {ao bo:Option Addr} {n c m d:Nat} {w:World} (k:Nat) (hA:SlI w ao n c A) (hB:SlI w bo m d B):
  Calls Tryz.prog 57 #[.slice ao n c, .slice bo m d] (w.drewN k) fun e w'=>e= .returned (.int .i64 (pE A B))/\w'=w.drewN k:=
 (fG (w.drewN k) (hA.drewN k) (hB.drewN k)).mono fun e w' ⟨h1,h2⟩=>⟨h1,h2.symm⟩
theorem beg_q {A B:List Int} {ao bo:Option Addr} {n c m d:Nat} {w:World} (k:Nat) (hA:SlI w ao n c A) (hB:SlI w bo m d B):
  Calls Tryz.prog 106 #[.slice ao n c, .slice bo m d] (w.drewN k) fun e w'=>e= .returned (.bool (yA A B))/\∃q,w'=(w.drewN k).drewN q:=
 U7 (w.drewN k) (hA.drewN k) (hB.drewN k)
theorem uV {P:List FP} {g bx bs h:Nat} {S:List Int} {so:Option Addr} {sn sc:Nat} (w:World) (hI:J0 w g P) (hS:SlI w so sn sc S) (hx:w.cell? ⟨bx,0,none⟩=some (.pointer (some ⟨g,0,none⟩))) (hs:w.cell? ⟨bs,0,none⟩=some (.slice so sn sc)) (hh:h<P.length):
  Calls Tryz.prog 104 #[.int .i64 h, .pointer (some ⟨bx,0,none⟩), .pointer (some ⟨bs,0,none⟩)] w fun e w'=>e= .returned (.bool (decide (0<=pE (fp P h).syms S)))/\∃q,w'=w.drewN q:=by
 obtain⟨⟨ro,rc,hg,hr⟩,hsy⟩:=hI;obtain⟨c0,_⟩:=I2 hg;obtain⟨b,of,hao,hce⟩:=hr.elem FP.enc_len (by omega) (xI hh);subst hao;have HP:=hW_ (hsy _ (qU hh));obtain⟨p,hp⟩:∃p,fp P h=p:=⟨_,rfl⟩;rw[hp]at hce HP |-;obtain⟨ao,n,c,id,sy⟩:=p;have d0:=hce 0 _ rfl;rw[Nat.add_zero]at d0;simp only at d0 HP |-;have HS:=hW_ hS;have gh:(h:Int)<(P.length:Int):=by omega
 have hmix:=yB;clear hce hg hr hsy hp hS;generalize P.length=N at *;go_enter Tryz.func104,Tryz.ntmps104;go_wp2_with (fail);go_quiet ((go_at_call 57;exact Calls.quiet_of_same (cmp_q _ HP.out HS.out)));go_wp2_with (fail);go_ret;exact⟨rfl,nq,rfl⟩
theorem tV {P:List FP} {g bx bf bs h from_:Nat} {S:List Int} {so:Option Addr} {sn sc:Nat} (w:World) (hI:J0 w g P) (hS:SlI w so sn sc S) (hx:w.cell? ⟨bx,0,none⟩=some (.pointer (some ⟨g,0,none⟩))) (hfr:w.cell? ⟨bf,0,none⟩=some (.int .i64 from_)) (hs:w.cell? ⟨bs,0,none⟩=some (.slice so sn sc)) (hh:from_+h<P.length) (hN:P.length<=1048576):
  Calls Tryz.prog 105 #[.int .i64 h, .pointer (some ⟨bx,0,none⟩), .pointer (some ⟨bf,0,none⟩), .pointer (some ⟨bs,0,none⟩)] w fun e w'=>e= .returned (.bool (!yA (fp P (from_+h)).syms S))/\∃q,w'=w.drewN q:=by
 obtain⟨⟨ro,rc,hg,hr⟩,hsy⟩:=hI;obtain⟨c0,_⟩:=I2 hg;obtain⟨b,of,hao,hce⟩:=hr.elem FP.enc_len (by omega) (xI hh);subst hao;have HP:=hW_ (hsy _ (qU hh));obtain⟨p,hp⟩:∃p,fp P (from_+h)=p:=⟨_,rfl⟩;rw[hp]at hce HP |-;obtain⟨ao,n,c,id,sy⟩:=p;have d0:=hce 0 _ rfl;rw[Nat.add_zero]at d0;simp only at d0 HP |-;obtain⟨k,hk⟩:∃k,from_+h=k:=⟨_,rfl⟩;rw[hk]at d0 hh;have hwr:IntKind.i64.wrap ((from_:Int)+(h:Int))=(k:Int):=by rw[IntKind.wrap_i64];omega
 have HS:=hW_ hS;have gh:(k:Int)<(P.length:Int):=by omega
 have hmix:=yB;clear hce hg hr hsy hp hS hk;generalize P.length=N at *;go_enter Tryz.func105,Tryz.ntmps105;go_wp2_with (fail);go_quiet ((go_at_call 106;exact Calls.quiet_of (beg_q _ HP.out HS.out)));go_wp2_with (fail);go_ret;exact⟨rfl,nq,rfl⟩
theorem pR {n k0:Nat} {bx bs:Nat} (w:World) (hk:k0<=n) (hn:n<=1048576) (hf:∀h q:Nat,h<n->Calls Tryz.prog 104 #[.int .i64 h, .pointer (some ⟨bx,0,none⟩), .pointer (some ⟨bs,0,none⟩)] (w.drewN q) fun e w'=>e= .returned (.bool (decide (k0<=h)))/\∃q',w'=(w.drewN q).drewN q'):
  Calls Tryz.prog 103 #[.int .i64 n, .func (.func 104) #[] #[.pointer (some ⟨bx,0,none⟩), .pointer (some ⟨bs,0,none⟩)]] w fun e w'=>e= .returned (.int .i64 k0)/\∃q,w'=w.drewN q:=by
 have HK:=hW_ hk;clear hk;go_enter Tryz.func103,Tryz.ntmps103;go_wp2_with (fail);go_loopw [5,6] (fun a b wr=>∃lo hi q:Nat,a= .int .i64 lo/\b= .int .i64 hi/\Hid (lo<=k0)/\Hid (k0<=hi)/\lo<=hi/\hi<=n/\wr=w.drewN q) (fun a b _=>(intOf b).toNat-(intOf a).toNat)
 case atStart=>exact⟨0,n,0,rfl,rfl,hW_ (by omega),HK,by omega,by omega,rfl⟩
 case round=>
  obtain⟨lo,hi,q,rfl,rfl,Hlo,Hhi,hlh,hhn,rfl⟩:=hrel
  by_cases hlt:lo<hi
  ·obtain⟨m,hm⟩:∃m,(lo+hi) / 2=m:=⟨_,rfl⟩;have hcall:=hf m q (by omega);have hmi:((lo:Int)+(hi:Int)) / 2=(m:Int):=by omega
   have hml:lo<=m:=by omega
   have hmh:m<hi:=by omega
   have HHF:=hW_ hf;clear hm hf
   by_cases hkm:k0<=m
   ·rw[decide_eq_true hkm]at hcall;have HKM:=hW_ hkm;clear hkm;go_wp2_with (go_at_call 104;refine hcall.mono ?_;rintro e w' ⟨rfl,q',rfl⟩);go_roundw
    case rel=>exact⟨lo,m,q+q',rfl,by first | rfl | rw[hmi],Hlo,HKM,hml,by omega,by simp[World.drewN]⟩
    case measure=>simp[intOf];omega
   ·rw[decide_eq_false hkm]at hcall;have HKM:Hid (m+1<=k0):=hW_ (by omega);clear hkm;go_wp2_with (go_at_call 104;refine hcall.mono ?_;rintro e w' ⟨rfl,q',rfl⟩);go_roundw
    case rel=>exact⟨m+1,hi,q+q',by first | go_num | (rw[hmi];rfl),rfl,HKM,Hhi,by omega,hhn,by simp[World.drewN]⟩
    case measure=>simp[intOf];omega
  ·have hE:lo=k0:=by have:=Hlo.out;have:=Hhi.out;omega
   subst hE;go_wp2_with (fail);go_ret;exact⟨rfl,q,rfl⟩
theorem oR {n k0:Nat} {bx bf bs:Nat} (w:World) (hk:k0<=n) (hn:n<=1048576) (hf:∀h q:Nat,h<n->Calls Tryz.prog 105 #[.int .i64 h, .pointer (some ⟨bx,0,none⟩), .pointer (some ⟨bf,0,none⟩), .pointer (some ⟨bs,0,none⟩)] (w.drewN q) fun e w'=>e= .returned (.bool (decide (k0<=h)))/\∃q',w'=(w.drewN q).drewN q'):
  Calls Tryz.prog 103 #[.int .i64 n, .func (.func 105) #[] #[.pointer (some ⟨bx,0,none⟩), .pointer (some ⟨bf,0,none⟩), .pointer (some ⟨bs,0,none⟩)]] w fun e w'=>e= .returned (.int .i64 k0)/\∃q,w'=w.drewN q:=by
 have HK:=hW_ hk;clear hk;go_enter Tryz.func103,Tryz.ntmps103;go_wp2_with (fail);go_loopw [5,6] (fun a b wr=>∃lo hi q:Nat,a= .int .i64 lo/\b= .int .i64 hi/\Hid (lo<=k0)/\Hid (k0<=hi)/\lo<=hi/\hi<=n/\wr=w.drewN q) (fun a b _=>(intOf b).toNat-(intOf a).toNat)
 case atStart=>exact⟨0,n,0,rfl,rfl,hW_ (by omega),HK,by omega,by omega,rfl⟩
 case round=>
  obtain⟨lo,hi,q,rfl,rfl,Hlo,Hhi,hlh,hhn,rfl⟩:=hrel
  by_cases hlt:lo<hi
  ·obtain⟨m,hm⟩:∃m,(lo+hi) / 2=m:=⟨_,rfl⟩;have hcall:=hf m q (by omega);have hmi:((lo:Int)+(hi:Int)) / 2=(m:Int):=by omega
   have hml:lo<=m:=by omega
   have hmh:m<hi:=by omega
   have HHF:=hW_ hf;clear hm hf
   by_cases hkm:k0<=m
   ·rw[decide_eq_true hkm]at hcall;have HKM:=hW_ hkm;clear hkm;go_wp2_with (go_at_call 105;refine hcall.mono ?_;rintro e w' ⟨rfl,q',rfl⟩);go_roundw
    case rel=>exact⟨lo,m,q+q',rfl,by first | rfl | rw[hmi],Hlo,HKM,hml,by omega,by simp[World.drewN]⟩
    case measure=>simp[intOf];omega
   ·rw[decide_eq_false hkm]at hcall;have HKM:Hid (m+1<=k0):=hW_ (by omega);clear hkm;go_wp2_with (go_at_call 105;refine hcall.mono ?_;rintro e w' ⟨rfl,q',rfl⟩);go_roundw
    case rel=>exact⟨m+1,hi,q+q',by first | go_num | (rw[hmi];rfl),rfl,HKM,Hhi,by omega,hhn,by simp[World.drewN]⟩
    case measure=>simp[intOf];omega
  ·have hE:lo=k0:=by have:=Hlo.out;have:=Hhi.out;omega
   subst hE;go_wp2_with (fail);go_ret;exact⟨rfl,q,rfl⟩
theorem aAc {P:List FP} {ro:Option Addr} {rc:Nat} {S:List Int} {so:Option Addr} {sn sc:Nat} (w:World) (hr:SlF 2 w ro P.length rc (flat FP.enc P)) (hsy:∀p∈P,SlI w p.ao p.n p.c p.syms) (hS:SlI w so sn sc S) (hN:P.length<=1048576)
  {k0:Nat} (hk:k0<=P.length) (hk2:∀t,t<P.length->((fp P t).syms<S↔t<k0)) {bb:Bool} (hbb:bb=true↔(k0<P.length/\(fp P k0).syms=S)):
  Calls Tryz.prog 101 #[.slice ro P.length rc, .slice so sn sc, .func (.func 102) #[] #[]] w fun e w'=>e= .returned (.tuple #[.int .i64 (k0:Int), .bool bb])/\Below w.heap.size w w':=by
 have HR:=hW_ hr;have HSY:=hW_ hsy;have HS:=hW_ hS;have HK:=hW_ hk;have HK2:=hW_ hk2;have HBB:=hW_ hbb;obtain⟨N,hNN⟩:∃N,P.length=N:=⟨_,rfl⟩;rw[hNN]at HR HK hN |-;have HNN:=hW_ hNN;clear hr hsy hS hk hk2 hbb hNN;go_enter Tryz.func101,Tryz.ntmps101;go_wp2_with (fail);go_loopw [9,10] (fun a b wr=>∃lo hi:Nat,a= .int .i64 lo/\b= .int .i64 hi/\Hid (lo<=k0)/\Hid (k0<=hi)/\lo<=hi/\hi<=N/\Below w.heap.size w wr) (fun a b _=>(intOf b).toNat-(intOf a).toNat)
 case atStart=>exact⟨0,N,rfl,rfl,hW_ (by omega),HK,by omega,by omega,Below.refl _ _⟩
 case round=>
  obtain⟨lo,hi,rfl,rfl,Hlo,Hhi,hlh,hhn,hb⟩:=hrel;have HB:=hW_ hb;clear hb
  by_cases hlt:lo<hi
  ·obtain⟨m,hm⟩:∃m,(lo+hi) / 2=m:=⟨_,rfl⟩;have hmN:m<P.length:=by have:=HNN.out;omega
   obtain⟨b,of,hao,hce⟩:=(HR.out.below HB.out).elem FP.enc_len (by omega) (xI hmN);subst hao;obtain⟨p,hp⟩:∃p,fp P m=p:=⟨_,rfl⟩;rw[hp]at hce;have hcall:=tJ p wr (by rw[<-hp];exact(HSY.out _ (qU hmN)).below HB.out) (HS.out.below HB.out);have d0:=hce 0 _ rfl;have d1:=hce 1 _ rfl;rw[Nat.add_zero]at d0;have hlm:(p.syms<S↔m<k0):=by rw[<-hp];exact HK2.out m hmN
   have hmi:((lo:Int)+(hi:Int)) / 2=(m:Int):=by omega
   have hml:lo<=m:=by omega
   have hmh:m<hi:=by omega
   have gm:(m:Int)<(N:Int):=by omega
   clear hm hce hp hmN;obtain⟨z,hz⟩:∃z,pE p.syms S=z:=⟨_,rfl⟩;have hzl:z<0↔m<k0:=by rw[<-hz,xU];exact hlm
   rw[hz]at hcall;clear hlm hz
   by_cases hz0:z<0
   ·have HKM:=hW_ (show m+1<=k0 by have:=hzl.1 hz0;omega);clear hzl;go_wp2_with (go_at_call 102;refine hcall.mono ?_;rintro e w' ⟨rfl,hbx⟩);go_roundw
    case rel=>exact⟨m+1,hi,by first | go_num | (rw[hmi];rfl),rfl,HKM,Hhi,by omega,hhn,HB.out.trans (hbx.mono HB.out.size)⟩
    case measure=>simp[intOf];omega
   ·have HKM:=hW_ (show k0<=m by rcases Nat.lt_or_ge m k0 with h | h;exact absurd (hzl.2 h) hz0;exact h);clear hzl;go_wp2_with (go_at_call 102;refine hcall.mono ?_;rintro e w' ⟨rfl,hbx⟩);go_roundw
    case rel=>exact⟨lo,m,rfl,by first | rfl | rw[hmi],Hlo,HKM,hml,by omega,HB.out.trans (hbx.mono HB.out.size)⟩
    case measure=>simp[intOf];omega
  ·have hE:lo=k0:=by have:=Hlo.out;have:=Hhi.out;omega
   subst hE
   by_cases hn:lo<N
   ·have hmN:lo<P.length:=by have:=HNN.out;omega
    obtain⟨b,of,hao,hce⟩:=(HR.out.below HB.out).elem FP.enc_len (by omega) (xI hmN);subst hao;obtain⟨p,hp⟩:∃p,fp P lo=p:=⟨_,rfl⟩;rw[hp]at hce HBB;have hcall:=tJ p wr (by rw[<-hp];exact(HSY.out _ (qU hmN)).below HB.out) (HS.out.below HB.out);have d0:=hce 0 _ rfl;have d1:=hce 1 _ rfl;rw[Nat.add_zero]at d0;have gm:(lo:Int)<(N:Int):=by omega
    have HMN:=hW_ hmN;clear hce hp hmN;obtain⟨z,hz⟩:∃z,pE p.syms S=z:=⟨_,rfl⟩;have hzl:z=0↔p.syms=S:=by rw[<-hz,aCm]
    rw[hz]at hcall;clear hz
    by_cases hz0:z=0
    ·obtain rfl:bb=true:=HBB.out.2 ⟨HMN.out,hzl.1 hz0⟩;have hb2:(z==0)=true:=by simpa using hz0
     clear hzl hz0;go_wp2_with (go_at_call 102;refine hcall.mono ?_;rintro e w' ⟨rfl,hbx⟩);refine bodyPost_ret (v:= .tuple #[.int .i64 lo, .bool true]) ?_ rfl ⟨rfl,HB.out.trans (hbx.mono HB.out.size)⟩
     simp[results,Tryz.results101,go_sem]
    ·obtain rfl:bb=false:=by
      cases bb with
      | false=>rfl
      | true=>exact absurd (hzl.2 (HBB.out.1 rfl).2) hz0
     have hb2:(z==0)=false:=by simpa using hz0
     clear hzl hz0;go_wp2_with (go_at_call 102;refine hcall.mono ?_;rintro e w' ⟨rfl,hbx⟩);refine bodyPost_ret (v:= .tuple #[.int .i64 lo, .bool false]) ?_ rfl ⟨rfl,HB.out.trans (hbx.mono HB.out.size)⟩
     simp[results,Tryz.results101,go_sem]
   ·obtain rfl:bb=false:=by
     cases bb with
     | false=>rfl
     | true=>exact absurd (HBB.out.1 rfl).1 (by have:=HNN.out;omega)
    go_wp2_with (fail);refine bodyPost_ret (v:= .tuple #[.int .i64 lo, .bool false]) ?_ rfl ⟨rfl,HB.out⟩
    simp[results,Tryz.results101,go_sem]
theorem rO {P:List FP} {g:Nat} {S:List Int} {so:Option Addr} {sn sc:Nat} (w:World) (hI:J0 w g P) (hS:SlI w so sn sc S) (hN:P.length<=1048576)
  {k0:Nat} (hk:k0<=P.length) (hk2:∀t,t<P.length->((fp P t).syms<S↔t<k0)) {bb:Bool} (hbb:bb=true↔(k0<P.length/\(fp P k0).syms=S)):
  Calls Tryz.prog 59 #[.pointer (some ⟨g,0,none⟩), .slice so sn sc] w fun e w'=>e= .returned (.tuple #[.int .i64 (k0:Int), .bool bb])/\Below w.heap.size w w':=by
 obtain⟨⟨ro,rc,hg,hr⟩,hsy⟩:=hI;obtain⟨c0,cf⟩:=I2 hg;have hcall:=aAc w hr hsy hS hN hk hk2 hbb;clear hr hsy hS hN hk hk2 hbb hg;generalize P.length=N at *;go_enter Tryz.func59,Tryz.ntmps59;go_wp2_with (fail);refine hcall.mono ?_
 rintro e w' ⟨rfl,hb⟩;clear hcall;go_wp2_with (fail);refine bodyPost_ret (v:= .tuple #[.int .i64 k0, .bool bb]) ?_ rfl ⟨rfl,hb⟩
 simp[results,Tryz.results59,go_sem]
theorem vY {P:List FP} {g:Nat} {S:List Int} {so:Option Addr} {sn sc:Nat} (w:World) (hI:J0 w g P) (hS:SlI w so sn sc S) (hN:P.length<=1048576)
  {k0 k1:Nat} (hk:k0<=P.length) (hk2:∀t,t<P.length->((fp P t).syms<S↔t<k0)) (hk1:k0+k1<=P.length) (hk3:∀t,k0+t<P.length->(yA (fp P (k0+t)).syms S=true↔t<k1)):
  Calls Tryz.prog 60 #[.pointer (some ⟨g,0,none⟩), .slice so sn sc] w fun e w'=>e= .returned (.tuple #[.int .i64 (k0:Int), .int .i64 ((k0+k1:Nat):Int)])/\Below w.heap.size w w':=by
 obtain⟨w0,hw0⟩:∃w0,(w.alloc (.cells #[.pointer (some ⟨g,0,none⟩)] 59)).alloc (.cells #[.slice so sn sc] 40)=w0:=⟨_,rfl⟩;have hb0:Below w.heap.size w w0:=hw0▸(aA w _).alloc (by simp) _;have hx0:w0.heap[w.heap.size]?=some (.cells #[.pointer (some ⟨g,0,none⟩)] 59):=by rw[<-hw0];exact(Below.heap_alloc _ _ _ (by simp)).trans (heap_alloc_new w _)
 have hx1:w0.heap[w.heap.size+1]?=some (.cells #[.slice so sn sc] 40):=by
  rw[<-hw0];have:=heap_alloc_new (w.alloc (.cells #[.pointer (some ⟨g,0,none⟩)] 59)) (.cells #[.slice so sn sc] 40);simpa using this
 have HI:=hW_ (hI.below hb0);have HS:=hW_ (hS.below hb0);have hI0:=hI.below hb0;obtain⟨⟨ro,rc,hg,hr⟩,hsy⟩:=hI0;obtain⟨g0,gf⟩:=I2 hg;obtain⟨x0,xf⟩:=I2 hx0;obtain⟨x1,xf1⟩:=I2 hx1;have HK2:=hW_ hk2;have HK3:=hW_ hk3;have h1:=pR (n:=P.length) (k0:=k0) (bx:=w.heap.size) (bs:=w.heap.size+1) w0 hk hN (fun h q hh=>(uV (w0.drewN q) (HI.out.drewN q) (HS.out.drewN q) x0 x1 hh).mono (fun e w' ⟨h1,h2⟩=>⟨by
  rw[h1];congr 2;apply decide_eq_decide.2;rw[cmpL_ge,HK2.out h hh];omega,h2⟩))
 have HB0:=hW_ hb0;have HW0:=hW_ hw0;have HG:=hW_ hg;have HX0:=hW_ hx0;have HX1:=hW_ hx1;have hsz0:w0.heap.size=w.heap.size+2:=by rw[<-hw0];simp
 clear hk2 hk3 hI hS hr hsy hg hx0 hx1 hw0 hb0;obtain⟨N,hNN⟩:∃N,P.length=N:=⟨_,rfl⟩;have HNN:=hW_ hNN;rw[hNN]at h1 g0 hk hk1 hN;rw[<-HW0.out]at g0;clear hNN;go_enter Tryz.func60,Tryz.ntmps60;go_wp2_with (fail);rw[HW0.out];refine h1.mono ?_
 rintro e w1 ⟨rfl,q,rfl⟩;have hz:=heap_alloc_new (w0.drewN q) (.cells #[.int .i64 0] 3);change ((w0.drewN q).alloc (.cells #[.int .i64 0] 3)).heap[w0.heap.size]?=_ at hz
 obtain⟨z0,zf⟩:=I2 hz;obtain⟨w3,hw3⟩:∃w3,((w0.drewN q).alloc (.cells #[.int .i64 0] 3)).setCell ⟨w0.heap.size,0,none⟩ (.int .i64 k0)=w3:=⟨_,rfl⟩;have hb3:Below w0.heap.size w0 w3:=by
  rw[<-hw3];exact(((bA (Below.refl _ _) q).alloc (Nat.le_refl _) _).setCell (p:=⟨w0.heap.size,0,none⟩) (Nat.le_refl _) _)
 have HX3:Hid (w3.heap[w0.heap.size]?=some (.cells #[.int .i64 k0] 3)):=hW_ (by
  rw[<-hw3];exact set1N hz)
 clear hz;have HB3:=hW_ hb3;have hg0:g<w0.heap.size:=(Array.getElem?_eq_some_iff.1 HG.out).1;obtain⟨M,hM⟩:∃M,N-k0=M:=⟨_,rfl⟩;obtain⟨K,hK⟩:∃K,k0+k1=K:=⟨_,rfl⟩;have hwr:IntKind.i64.wrap ((N:Int)-(k0:Int))=(M:Int):=by rw[IntKind.wrap_i64];omega
 have hwr2:IntKind.i64.wrap ((k0:Int)+(k1:Int))=(K:Int):=by rw[IntKind.wrap_i64];omega
 have HKK:=hW_ hK;obtain⟨y3,yf3⟩:=I2 HX3.out;obtain⟨y0,yf0⟩:=I2 ((hb3.block w.heap.size (by omega)).trans HX0.out);obtain⟨y1,yf1⟩:=I2 ((hb3.block (w.heap.size+1) (by omega)).trans HX1.out);obtain⟨yg,ygf⟩:=I2 ((hb3.block g hg0).trans HG.out);rw[HNN.out]at yg;have h2:∀j,Calls Tryz.prog 103 #[.int .i64 M, .func (.func 105) #[] #[.pointer (some ⟨w.heap.size,0,none⟩), .pointer (some ⟨w0.heap.size,0,none⟩), .pointer (some ⟨w.heap.size+1,0,none⟩)]] (w3.drewN j) fun e w'=>e= .returned (.int .i64 k1)/\∃q,w'=(w3.drewN j).drewN q:=fun j=>
  oR (n:=M) (k0:=k1) (bx:=w.heap.size) (bf:=w0.heap.size) (bs:=w.heap.size+1) (w3.drewN j) (by omega) (by omega) (fun h q hh=>(tV (from_:=k0) ((w3.drewN j).drewN q) ((HI.out.below HB3.out).drewN j |>.drewN q) ((HS.out.below HB3.out).drewN j |>.drewN q) y0 y3 y1 (by rw[HNN.out];omega) (by rw[HNN.out];exact hN)).mono (fun e w' ⟨e1,e2⟩=>⟨by
   rw[e1];congr 2;have h3:=HK3.out h (by rw[HNN.out];omega)
   cases hb:yA (fp P (k0+h)).syms S with
   | true=>have:=h3.1 hb;simp;omega
   | false=>
    have:¬h<k1:=fun h4=>by have:=h3.2 h4;rw[hb]at this;cases this
    simp;omega,e2⟩))
 have hmix:=yB;have HW3:=hW_ hw3;have HSZ0:=hW_ hsz0;clear hw3 hb3 hM hK h1 g0 x0 x1 hg0 hsz0 hk1 hk;go_wp2_with (fail);rw[HW3.out];go_quiet ((go_at_call 103;exact Calls.quiet_of (h2 _)));go_wp2_with (fail);go_quiet (fail);go_wp2_with (fail);refine bodyPost_ret (v:= .tuple #[.int .i64 k0, .int .i64 K]) ?_ rfl ⟨by rw[HKK.out],?_⟩
 ·simp[results,Tryz.results60,go_sem]
 ·exact HB0.out.trans ((bA (bA HB3.out _) _).mono HB0.out.size)
theorem kX {P:List FP} (hs:eC (P.map FP.fr)) (hu:∀a∈P.map FP.fr,∀b∈P.map FP.fr,a.1=b.1->a=b) (s:List Int):
  ∃(k0:Nat) (bb:Bool),k0<=P.length/\(∀t,t<P.length->((fp P t).syms<s↔t<k0))/\(bb=true↔(k0<P.length/\(fp P k0).syms=s))/\
   (bb=true->(P.map FP.fr).find? (fun r=>decide (r.1=s))=some (fp P k0).fr)/\(bb=false->(P.map FP.fr).find? (fun r=>decide (r.1=s))=none):=by
 obtain⟨k0,hk⟩:∃k0,k0=(P.map FP.fr).countP (fun r=>decide (r.1<s)):=⟨_,rfl⟩;obtain⟨h1,h2⟩:=tX hs s hk;have hm:∀t,t<P.length->(P.map FP.fr)[t]?=some (fp P t).fr:=fun t ht=>by rw[List.getElem?_map,xI ht];rfl
 rcases hs.exact hu s hk with⟨r,hr,e,hf⟩ | ⟨hn,hf⟩
 ·have hlt:k0<P.length:=by have:=(List.getElem?_eq_some_iff.1 hr).1;simpa using this
  rw[hm k0 hlt]at hr;obtain rfl:=Option.some.inj hr;exact⟨k0,true,h1,h2,⟨fun _=>⟨hlt,e⟩,fun _=>rfl⟩,fun _=>hf,(fun h=>by cases h)⟩
 ·refine⟨k0,false,h1,h2,⟨(fun h=>by cases h),(fun⟨hlt,e⟩=> ?_)⟩,(fun h=>by cases h),fun _=>hf⟩;exact absurd e (hn _ (hm k0 hlt))
theorem lX {rows:List Fr} {s:List Int} {p:FP} (h:rows.find? (fun r=>decide (r.1=s))=some p.fr):oE rows s= [p.id]:=by
 unfold oE;rw[h];rfl
theorem mX {rows:List Fr} {s:List Int} (h:rows.find? (fun r=>decide (r.1=s))=none):oE rows s= []:=by
 unfold oE;rw[h];rfl
theorem kO (rows:List Fr) (s:List Int) (k:Nat):rB rows s (k+1)=rB rows s k++oE rows (s.take (k+1)):=by
 unfold rB;rw[List.range_succ,List.flatMap_append];simp
theorem aCf (rows:List Fr) (s:List Int):(oE rows s).length<=1:=by
 unfold oE
 cases rows.find? (fun r=>decide (r.1=s))<;>simp
theorem kN (rows:List Fr) (s:List Int):∀k,(rB rows s k).length<=k
 | 0=>by simp[rB]
 | k+1=>by
  rw[kO,List.length_append];have:=kN rows s k;have:=aCf rows (s.take (k+1));omega
theorem span_of {P:List FP} (hs:eC (P.map FP.fr)) (s:List Int):
  ∃k0 k1:Nat,k0<=P.length/\(∀t,t<P.length->((fp P t).syms<s↔t<k0))/\k0+k1<=P.length/\(∀t,k0+t<P.length->(yA (fp P (k0+t)).syms s=true↔t<k1))/\
   ((P.drop k0).take k1).map (·.id)=qH (P.map FP.fr) s:=by
 obtain⟨k0,hk⟩:∃k0,k0=(P.map FP.fr).countP (fun r=>decide (r.1<s)):=⟨_,rfl⟩;obtain⟨k1,hk1⟩:∃k1,k1=((P.map FP.fr).drop k0).countP (fun r=>yA r.1 s):=⟨_,rfl⟩;obtain⟨h1,h2⟩:=tX hs s hk;have hsp:=hs.span s hk hk1;have hd:(P.map FP.fr).drop k0=(P.drop k0).map FP.fr:=by rw[List.map_drop]
 have hle:k1<=P.length-k0:=by
  have:=List.countP_le_length (p:=fun r:Fr=>yA r.1 s) (l:=(P.map FP.fr).drop k0);rw[<-hk1]at this;simpa using this
 have hmon:((P.map FP.fr).drop k0).Pairwise (fun a b=>yA b.1 s=true->yA a.1 s=true):=by
  have h3:=(mC (hs.less s)).2;rw[<-hk]at h3;rw[h3];refine List.Pairwise.imp_of_mem ?_ (hs.sublist List.filter_sublist)
  intro a b ha hb h4 h5;have h6:=(List.mem_filter.1 ha).2;simp only[Bool.not_eq_true',decide_eq_false_iff_not]at h6;exact tB.2 (mJ h4 (tB.1 h5) h6)
 have htc:=mC hmon;rw[<-hk1]at htc;refine⟨k0,k1,h1,h2,by omega,fun t ht=> ?_,?_⟩
 ·have hm:((P.map FP.fr).drop k0)[t]?=some (fp P (k0+t)).fr:=by rw[List.getElem?_drop,List.getElem?_map,xI ht];rfl
  constructor
  ·intro hb;rcases Nat.lt_or_ge t k1 with h | h
   ·exact h
   ·exfalso;have:(fp P (k0+t)).fr∈((P.map FP.fr).drop k0).drop k1:=List.mem_of_getElem? (i:=t-k1) (by rw[List.getElem?_drop,show k1+(t-k1)=t by omega];exact hm);rw[htc.2,List.mem_filter]at this;have h7:=this.2;simp only[FP.fr]at h7;rw[hb]at h7
    cases h7
  ·intro h;have:(fp P (k0+t)).fr∈((P.map FP.fr).drop k0).take k1:=List.mem_of_getElem? (i:=t) (by rw[List.getElem?_take,if_pos h];exact hm);rw[htc.1,List.mem_filter]at this;exact this.2
 ·unfold qH;rw[<-hsp,hd,<-List.map_take,List.map_map];rfl
section
variable {α:Type} {enc:α->List Value} {s:Nat} {e:TypeId}
theorem jP {P:Program} {w W:World} {ops:Array Oper} {rest:List Oper} {o:Oper} {a:Act} {Q:Exit->Act->World->Prop} (hgd:o.guard= .none) (t:TypeId) (x l r:Operand)
  (ho:o.op= .slice t x (some l) (some r) .none) (i:TypeInfo) (ht:P.underlying t=some (.slice e)) (hi:P.info? e=some i) (hsz:i.size=s) (hs:∀x,(enc x).length=s)
  {ao:Option Addr} {n cap:Nat} {L:List α} (hx:a.eval x= .slice ao n cap) (hS:SlF s W ao n cap (flat enc L)) {kl kr:IntKind} {K M:Int} {k m:Nat} (hl:a.eval l= .int kl K) (hL:K=(k:Int)) (hr':a.eval r= .int kr M) (hM:M=(m:Int)) (hk:k<=m) (hm:m<=n)
  (h:∀ao',SlF s W ao' (m-k) (cap-k) (flat enc ((L.take m).drop k))->wpList P ops Q rest (a.put o.dst (.slice ao' (m-k) (cap-k))) w):wpList P ops Q (o::rest) a w:=by
 subst hL hM;have hle:=hS.le;have hS2:SlF s W ao m cap (flat enc (L.take m)):=by rw[pN hs];exact hS.take hm
 refine F0 hgd (v:= .slice (if cap=k then ao else ao.map (·.add (k*s))) (m-k) (cap-k)) (w':=w) ?_ (h _ (by rw[rN hs];exact hS2.drop hk))
 have hr:=gC ht hi w ao n cap (some (.int kl k)) (some (.int kr m)) k m (fun w=>by simp[Instr.sliceBounds,run_sliceBound,Nat.le_trans hm hle,hk]);simp only[execOp,ho,hx,hl,hr',Option.map_some,Option.map_none,Sem.run_bind,hr,Result.andThen_ok,Sem.run_pure,hsz]
end
theorem bX {w:World} {g n:Nat} {cur:Array Value} {t:TypeId} {fr:Nat×Nat} (hg:w.heap[g]?=some (.cells cur t fr)) (m:Nat) (d:Array Int) (os:Array Obj):
  (grow (putRow (Value.int .i64) (Sort.ahead w m) g 0 d) os).heap[g]?=some (.cells (Go.Sort.putCells (Value.int .i64) 0 d cur) t fr):=by
 have hlt:=(Array.getElem?_eq_some_iff.1 hg).1;show((w.heap.modify g (Go.Sort.onCells (Go.Sort.putCells (Value.int .i64) 0 d)))++os)[g]?=_
 rw[Array.getElem?_append_left (by simpa using hlt),Array.getElem?_modify,if_pos rfl,hg];rfl
theorem U6 {w:World} {g B:Nat} (hB:B<=g) (hw:B<=w.heap.size) (m:Nat) (d:Array Int) (os:Array Obj):RowKit.Below B w (grow (putRow (Value.int .i64) (Sort.ahead w m) g 0 d) os):=
 ⟨rfl,rfl,rfl,by show w.heap.size<=((w.heap.modify g _)++os).size;simp,fun q hq=>by
  show((w.heap.modify g (Go.Sort.onCells (Go.Sort.putCells (Value.int .i64) 0 d)))++os)[q]?=_
  rw[Array.getElem?_append_left (by simp;omega),Array.getElem?_modify,if_neg (by omega)]⟩
theorem vV {w:World} {base:Nat} {v:Value} {A:List Int} (h:Own w base v A) (hb:base<=w.heap.size) (hsz:A.length<4611686018427387904):
  Calls Tryz.prog 61 #[v] w fun e w'=>e= .returned (.tuple #[])/\Own w' base v (A.mergeSort fun x y=>decide (x<=y))/\RowKit.Below base w w':=by
 obtain⟨ao,cap,rfl,_⟩:=h.sl;obtain⟨_,hbk⟩:=h.block;rcases hbk with⟨rfl,h0,rfl⟩ | ⟨g,cur,rfl,hg,hh,hn,hm,hc,ht⟩
 ·have hA:A= []:=List.eq_nil_of_length_eq_zero h0;subst hA;have hcon:=AnyM.slices_Sort_int_none Tryz.sortI none 0 w;change Calls Tryz.prog 61 _ _ _ at hcon;refine hcon.mono ?_
  rintro e w' ⟨rfl,rfl⟩;exact⟨rfl,by simpa using h,RowKit.Below.refl _ _⟩
 ·have hlt:=(Array.getElem?_eq_some_iff.1 hh).1;have hH:Holds (Value.int .i64) w g 0 A.toArray:=by
   intro j hj;have hj':j<A.length:=by simpa using hj
   have hcj:cur[j]?=some (.int .i64 A[j]):=by
    have:(cur.take A.length)[j]?=(A.map (Value.int .i64))[j]? :=by rw[ht]
    rw[List.getElem?_take,if_pos hj',List.getElem?_map,List.getElem?_eq_getElem hj']at this;exact this
   constructor
   ·have e3:(A.toArray)[j]! =A[j]:=by simp[hj']
    rw[e3];simp[World.cell?,hh,hcj]
   ·simp[World.frozen?,hh]
  have hcon:=AnyM.slices_Sort_int Tryz.sortI g 0 cap A w hH hlt hsz;change Calls Tryz.prog 61 _ _ _ at hcon;refine hcon.mono ?_
  rintro e w' ⟨rfl,n,os,rfl⟩;obtain⟨S,hS⟩:∃S,(A.mergeSort fun x y=>decide (x<=y))=S:=⟨_,rfl⟩;have hSl:S.length=A.length:=by rw[<-hS,List.length_mergeSort]
  rw[hS];refine⟨rfl,?_,U6 hg hb _ _ _⟩;have hh2:=bX (n:=0) hh n S.toArray os;refine Own.mk (cur:=(Go.Sort.putCells (Value.int .i64) 0 S.toArray cur.toArray).toList) hg (by simpa using hh2) hn hm (by simp[Go.Sort.putCells,hc]) hSl ?_
  apply List.ext_getElem?;intro i;rw[List.getElem?_take]
  by_cases hi:i<A.length
  ·rw[if_pos hi,Array.getElem?_toList];have hi2:i<cur.toArray.size:=by simp;omega
   unfold Go.Sort.putCells;rw[Array.getElem?_mapIdx,Array.getElem?_eq_getElem hi2];simp only[Option.map_some,Nat.zero_le,Nat.zero_add,true_and,Nat.sub_zero];have hi3:i<S.length:=by omega
   rw[if_pos (by simpa using hi3),List.getElem?_map,List.getElem?_eq_getElem hi3];have e3:(S.toArray)[i]! =S[i]:=by simp[hi3]
   rw[e3];rfl
  ·rw[if_neg hi,List.getElem?_eq_none (by simp;omega)]
theorem eX {V:Vc} {N:List ByteArray} (h:May V) {rows:List Fr} (hp:rows.Perm (B8 V N)) {s:List Int} (hs:s≠[]):
  (rB rows s (min (s.length-1) 64)++qH rows s).mergeSort (fun x y=>decide (x<=y))=cC (B8 V N) s:=by
 refine R2 h hp hs (List.mergeSort_perm _ _) ?_
 have:=List.pairwise_mergeSort (le:=fun x y:Int=>decide (x<=y)) (fun a b c h1 h2=>by simp at h1 h2 |-;omega) (fun a b=>by simp;omega) (rB rows s (min (s.length-1) 64)++qH rows s);exact this.imp fun{a b} h=>by simpa using h
theorem pZ {P:List FP} {g:Nat} (w:World) (hI:J0 w g P):
  Calls Tryz.prog 51 #[.pointer (some ⟨g,0,none⟩)] w fun e w'=>e= .returned (.int .i64 P.length)/\w=w':=by
 obtain⟨⟨ro,rc,hg,hr⟩,_⟩:=hI;obtain⟨c0,_⟩:=I2 hg;clear hg hr;generalize P.length=N at *;go_enter Tryz.func51,Tryz.ntmps51;go_wp2_with (fail);go_ret;exact⟨rfl,rfl⟩
theorem oZ {rows:List Fr} {s:List Int} {k:Nat} {p:FP} (h:rows.find? (fun r=>decide (r.1=s.take (k+1)))=some p.fr):B1 rows s (k+1)=p.id:=by
 simp only[B1,h];rfl
theorem aBO {rows:List Fr} {s:List Int} {k:Nat} (h:rows.find? (fun r=>decide (r.1=s.take (k+1)))=none):B1 rows s (k+1)=B1 rows s k:=by
 simp only[B1,h]
theorem vR {P:List FP} {g:Nat} {S:List Int} {so:Option Addr} {sn sc:Nat} (w:World) (hI:J0 w g P) (hS:SlI w so sn sc S) (hN:P.length<=1048576) (hs:eC (P.map FP.fr)) (hu:∀a∈P.map FP.fr,∀b∈P.map FP.fr,a.1=b.1->a=b):
  Calls Tryz.prog 53 #[.pointer (some ⟨g,0,none⟩), .slice so sn sc] w fun e w'=>e= .returned (.int .i64 (B1 (P.map FP.fr) S (min sn 64)))/\Below w.heap.size w w':=by
 have HI:=hW_ hI;have HS:=hW_ hS;have HSO:=hW_ hs;have HU:=hW_ hu;have HN:=hW_ hN;obtain⟨m0,hm0⟩:∃m0,min sn 64=m0:=⟨_,rfl⟩;have hle:=Sl.le hS;have hmx:=Sl.max hS;unfold maxLen at hmx;have hmin:min (sn:Int) 64=(m0:Int):=by omega
 have hm64:m0<=64:=by omega
 have hmsn:m0<=sn:=by omega
 obtain⟨i0,hi,hz0,hz1,hz2⟩:=info_parts vC;rw[hm0];clear hI hS hs hu hN hm0;go_enter Tryz.func53,Tryz.ntmps53;go_wp2_with (fail);go_loopw [5] (fun i wr=>∃k:Nat,k<=m0/\i= .int .i64 k/\Hid (B1 (P.map FP.fr) S k=B1 (P.map FP.fr) S m0)/\Below w.heap.size w wr) (fun i _=>(intOf i).toNat)
 case atStart=>exact⟨m0,Nat.le_refl _,rfl,hW_ rfl,Below.refl _ _⟩
 case round=>
  obtain⟨k,hk,rfl,HK,hb⟩:=hrel;have HB:=hW_ hb;clear hb
  by_cases h0:0<k
  ·obtain⟨j,hj⟩:∃j,k-1=j:=⟨_,rfl⟩;have hjk:j+1=k:=by omega
   rw[<-hjk]at HK;obtain⟨k0,bb,q1,q2,q3,q4,q5⟩:=kX HSO.out HU.out (S.take k);have hex:=rO wr (HI.out.below HB.out) ((HS.out.below HB.out).take (by omega)) HN.out q1 q2 q3;have hkn:k<=sn:=by omega
   have hkc:k<=sc:=by omega
   have gk:(0:Int)<(k:Int):=by omega
   have gkn:(k:Int)<=(sn:Int):=by omega
   have gkc:(k:Int)<=(sc:Int):=by omega
   have hwr:IntKind.i64.wrap ((k:Int)-1)=(j:Int):=by rw[IntKind.wrap_i64];omega
   have HJK:=hW_ hjk;obtain⟨⟨ro,rc,hg,hr⟩,hsy⟩:=HI.out;have hgw:=(Array.getElem?_eq_some_iff.1 hg).1
   cases bb with
   | true=>
    obtain⟨r1,_⟩:=q3.1 rfl;obtain⟨b,of,hao,hce⟩:=hr.elem FP.enc_len (by omega) (xI r1);subst hao;have HL:Hid (B1 (P.map FP.fr) S m0=(fp P k0).id):=hW_ (by rw[<-HK.out];exact oZ (by rw[HJK.out];exact q4 rfl));obtain⟨p,hp⟩:∃p,fp P k0=p:=⟨_,rfl⟩;rw[hp]at hce HL;obtain⟨ao,n,c,id,sy⟩:=p;have d1:=hce 1 _ rfl;simp only at d1 HL;have gk0:(k0:Int)<(P.length:Int):=by omega
    have HG:=hW_ hg;have HD:=hW_ d1;clear q1 q2 q3 q4 q5 r1 hce hp hr hsy hg d1 hj hjk;generalize P.length=pn at *;go_wp2_with (fail);refine hex.mono ?_
    rintro e w9 ⟨rfl,hb9⟩;have HB9:=hW_ (HB.out.trans (hb9.mono HB.out.size));obtain⟨c0,_⟩:=I2 ((HB9.out.block g hgw).trans HG.out);have d1:=eA HB9.out _ _ HD.out;clear hb9 hex;go_wp2_with (fail);go_ret;exact⟨B3 HL.out.symm,HB9.out⟩
   | false=>
    have HL:Hid (B1 (P.map FP.fr) S j=B1 (P.map FP.fr) S m0):=hW_ (by rw[<-HK.out];exact(aBO (by rw[HJK.out];exact q5 rfl)).symm);clear q1 q2 q3 q4 q5 hr hsy hg hj hjk;go_wp2_with (fail);refine hex.mono ?_
    rintro e w9 ⟨rfl,hb9⟩;have HB9:=hW_ (HB.out.trans (hb9.mono HB.out.size));clear hb9 hex;go_wp2_with (fail);go_roundw
    case rel=>exact⟨j,by have:=HJK.out;omega,rfl,HL,HB9.out⟩
    case measure=>have:=HJK.out;simp[intOf];omega
  ·obtain rfl:k=0:=by omega
   have HL:Hid (B1 (P.map FP.fr) S m0= -1):=hW_ (by rw[<-HK.out];rfl);go_wp2_with (fail);go_ret;exact⟨B3 HL.out.symm,HB.out⟩
theorem yT {P:List FP} {k0 k1 t:Nat} {A:List Int} (h:t<k1) (h2:k0+k1<=P.length):(A++((((P.take (k0+k1)).drop k0).map (·.id)).take t))++ [(fp P (k0+t)).id]=A++((((P.take (k0+k1)).drop k0).map (·.id)).take (t+1)):=by
 rw[List.append_assoc];congr 1;rw[List.take_add_one,List.getElem?_map,List.getElem?_drop,List.getElem?_take,if_pos (by omega),xI (by omega)];rfl
theorem aS {P:List FP} {g:Nat} {S:List Int} {so:Option Addr} {sn sc:Nat} (w:World) (hI:J0 w g P) (hS:SlI w so sn sc S) (hN:P.length<=1048576) (hs:eC (P.map FP.fr)) (hu:∀a∈P.map FP.fr,∀b∈P.map FP.fr,a.1=b.1->a=b) (h0:0<sn):
  Calls Tryz.prog 28 #[.pointer (some ⟨g,0,none⟩), .slice so sn sc] w fun e w'=>(∃v,e= .returned v/\Own w' w.heap.size v ((rB (P.map FP.fr) S (min (sn-1) 64)++qH (P.map FP.fr) S).mergeSort fun x y=>decide (x<=y)))/\Below w.heap.size w w':=by
 have HI:=hW_ hI;have HS:=hW_ hS;have HSO:=hW_ hs;have HU:=hW_ hu;have HN:=hW_ hN;obtain⟨m0,hm0⟩:∃m0,min (sn-1) 64=m0:=⟨_,rfl⟩;have hle:=Sl.le hS;have hmx:=Sl.max hS;unfold maxLen at hmx;have hm64:m0<=64:=by omega
 have hmsn:m0<sn:=by omega
 have HMM:Hid (m0=64\/m0+1=sn):=hW_ (by omega);obtain⟨i0,hi,hz0,hz1,hz2⟩:=info_parts vC;obtain⟨j0,z0,hj,hy0,hy1,hy2,hy3⟩:=uB aAS;obtain⟨⟨ro,rc,hg,hr⟩,hsy⟩:=hI;have hgw:=(Array.getElem?_eq_some_iff.1 hg).1;have HG:=hW_ hg;have HR:=hW_ hr;rw[hm0];have hsn0:((sn:Int)==0)=false:=by simp;omega
 have hsn1:¬(sn:Int)=0:=by omega
 have hsn2:¬sn=0:=by omega
 clear hS hs hu hN hm0 hg hr hsy h0;go_enter Tryz.func28,Tryz.ntmps28;go_wp2_with (fail);go_loopw [5,6] (fun v i wr=>∃k:Nat,1<=k/\k<=m0+1/\i= .int .i64 k/\Own wr w.heap.size v (rB (P.map FP.fr) S (k-1))/\Below w.heap.size w wr) (fun _ i _=>m0+1-(intOf i).toNat)
 case atStart=>exact⟨1,Nat.le_refl _,by omega,rfl,by simpa[rB]using Own.nil w w.heap.size,Below.refl _ _⟩
 case round=>
  obtain⟨k,hk1,hkm,rfl,ho,hb⟩:=hrel;have HB:=hW_ hb;have HO:=hW_ ho;clear hb ho
  by_cases hlt:k<=m0
  ·obtain⟨k0,bb,q1,q2,q3,q4,q5⟩:=kX HSO.out HU.out (S.take k);have hex:=rO wr (HI.out.below HB.out) ((HS.out.below HB.out).take (by omega)) HN.out q1 q2 q3;have hkn:k<=sn:=by omega
   have hkc:k<=sc:=by omega
   have gk1:(k:Int)<(sn:Int):=by omega
   have gk2:(k:Int)<=64:=by omega
   have gkn:(k:Int)<=(sn:Int):=by omega
   have gkc:(k:Int)<=(sc:Int):=by omega
   have HPS:Hid (rB (P.map FP.fr) S k=rB (P.map FP.fr) S (k-1)++oE (P.map FP.fr) (S.take k)):=hW_ (by
    have:=kO (P.map FP.fr) S (k-1)
    rwa [show k-1+1=k by omega]at this)
   cases bb with
   | true=>
    obtain⟨r1,_⟩:=q3.1 rfl;obtain⟨b,of,hao,hce⟩:=HR.out.elem FP.enc_len (by omega) (xI r1);subst hao;rw[lX (q4 rfl)]at HPS;obtain⟨p,hp⟩:∃p,fp P k0=p:=⟨_,rfl⟩;rw[hp]at hce HPS;obtain⟨ao,n,c,id,sy⟩:=p;have d1:=hce 1 _ rfl;simp only at d1 HPS;have gk0:(k0:Int)<(P.length:Int):=by omega
    have HD:=hW_ d1;have HPN:Hid (((rB (P.map FP.fr) S (k-1))).length<=k-1):=hW_ (kN _ _ _);clear q1 q2 q3 q4 q5 r1 hce hp d1;obtain⟨pn,hpn⟩:∃pn,P.length=pn:=⟨_,rfl⟩;have HPL:=hW_ hpn;rw[hpn]at gk0;clear hpn;go_wp2_with (fail);refine hex.mono ?_
    rintro e w9 ⟨rfl,hb9⟩;have HB9:=hW_ (HB.out.trans (hb9.mono HB.out.size));obtain⟨c0,_⟩:=I2 ((HB9.out.block g hgw).trans HG.out);rw[HPL.out]at c0;have d1:=eA HB9.out _ _ HD.out;have HO9:Hid (Own (w9.alloc (.cells #[.int .i64 id] 3)) w.heap.size u5 (rB (P.map FP.fr) S (k-1))):=hW_ ((HO.out.below hb9).alloc _);have HS9:Hid (SlI (w9.alloc (.cells #[.int .i64 id] 3)) (some ⟨w9.heap.size,0,none⟩) 1 1 [id]):=hW_ (SlI.one w9 id _);have HSZ:Hid (w.heap.size<=w9.heap.size):=hW_ HB9.out.size;clear hb9 hex;go_wp2_with (at_builtin;go_loud (refine C2 rfl _ _ 40 rfl i0 Tryz.underlying40 hi hz0 hz1 hz2 rfl HO9.out rfl HS9.out (by have:=HPN.out;omega) (by have:=HSZ.out;simp;omega) ?_));intro v1 w2 ho2 hg2 hb2;rw[<-HPS.out]at ho2;have HO2:=hW_ ho2;have HB2:=hW_ ((HB9.out.alloc HB9.out.size _).trans hb2);clear ho2 hg2 hb2;go_wp2_with (fail);go_roundw
    case rel=>exact⟨k+1,by omega,by omega,by go_num,by simpa using HO2.out,HB2.out⟩
    case measure=>simp[intOf];omega
   | false=>
    rw[mX (q5 rfl),List.append_nil]at HPS;clear q1 q2 q3 q4 q5;go_wp2_with (fail);refine hex.mono ?_
    rintro e w9 ⟨rfl,hb9⟩;have HO9:=hW_ (HO.out.below hb9);have HB9:=hW_ (HB.out.trans (hb9.mono HB.out.size));rw[<-HPS.out]at HO9;clear hb9 hex;go_wp2_with (fail);go_roundw
    case rel=>exact⟨k+1,by omega,by omega,by go_num,by simpa using HO9.out,HB9.out⟩
    case measure=>simp[intOf];omega
  ·obtain rfl:k=m0+1:=by omega
   rw[Nat.add_sub_cancel]at HO;obtain⟨A,hA⟩:∃A,rB (P.map FP.fr) S m0=A:=⟨_,rfl⟩;have HAL:Hid (A.length<=64):=hW_ (by rw[<-hA];have:=kN (P.map FP.fr) S m0;omega);rw[hA]at HO;have HA:=hW_ hA;obtain⟨k0,k1,q1,q2,q3,q4,q5⟩:=span_of HSO.out S;have hsp:=vY wr (HI.out.below HB.out) (HS.out.below HB.out) HN.out q1 q2 q3 q4;obtain⟨K,hK⟩:∃K,k0+k1=K:=⟨_,rfl⟩;rw[hK]at hsp q3;have HK:=hW_ hK;have HQ3:=hW_ q3;obtain⟨pn,hpn⟩:∃pn,P.length=pn:=⟨_,rfl⟩;have HPL:=hW_ hpn;rw[hpn]at q3;have HD:Hid ((P.drop k0).take k1=(P.take K).drop k0):=hW_ (by rw[<-hK,List.drop_take];congr 1;omega);rw[HD.out]at q5;have HQ5:=hW_ q5;have HSL:Hid (SlF 2 w ro pn rc (flat FP.enc P)):=hW_ (by rw[<-hpn];exact HR.out);have hk0:k0<=K:=by omega
   obtain⟨D,hDD⟩:∃D,K-k0=D:=⟨_,rfl⟩;have hkd:k1=D:=by omega
   have HKD:=hW_ hkd;clear q1 q2 q4 q5 hpn hA hlt hK hkd;have fin:∀n m:Nat,(m0=64\/m0+1=sn):=fun _ _=>HMM.out
   clear fin;have hguard:(¬((m0+1:Nat):Int)<(sn:Int))\/((((m0+1:Nat):Int)<(sn:Int))/\¬((m0+1:Nat):Int)<=64):=by have:=HMM.out;omega
   obtain⟨q,hq⟩:∃q,m0+1=q:=⟨_,rfl⟩;rw[hq]at hguard |-;clear hkm hk1 hq;rcases hguard with hg1 | ⟨hg1,hg2⟩
   all_goals(
    go_wp2_with (fail);refine hsp.mono ?_
    rintro e w9 ⟨rfl,hb9⟩;have HB9:=hW_ (HB.out.trans (hb9.mono HB.out.size));obtain⟨c0,_⟩:=I2 ((HB9.out.block g hgw).trans HG.out);rw[HPL.out]at c0;have HO9:=hW_ (HO.out.below hb9);clear hb9 hsp;go_wp2_with (refine jP (enc:=FP.enc) rfl _ _ _ _ rfl j0 Tryz.underlying90 hj hy1 FP.enc_len rfl HSL.out (k:=k0) (m:=K) rfl rfl rfl rfl hk0 q3 ?_;intro so2 hs2);rw[hDD]at hs2;have HS2:=hW_ hs2;clear hs2;go_loopw [5,64] (fun v i wr2=>∃t:Nat,t<=D/\i= .int .i64 t/\Own wr2 w.heap.size v (A++(((P.take K).drop k0).map (·.id)).take t)/\Below w.heap.size w wr2) (fun _ i _=>D-(intOf i).toNat)
    case atStart=>exact⟨0,Nat.zero_le _,rfl,by simpa using HO9.out,HB9.out⟩
    case round=>
     obtain⟨t,ht,rfl,ho2,hb2⟩:=hrel;have HB2:=hW_ hb2;have HO2:=hW_ ho2;clear hb2 ho2
     by_cases hlt:t<D
     ·obtain⟨b,of,hao,hce⟩:=(HS2.out.below HB2.out).elem (x:=fp P (k0+t)) FP.enc_len (by omega) (k:=t) (by
       have:=HKD.out;have:=HK.out;have:=HQ3.out;rw[List.getElem?_drop,List.getElem?_take,if_pos (by omega),xI (by omega)])
      subst hao;have HNX:=hW_ (yT (A:=A) (P:=P) (k0:=k0) (k1:=k1) (t:=t) (by have:=HKD.out;omega) (by have:=HK.out;have:=HQ3.out;omega));rw[HK.out]at HNX;have HLN:Hid ((A++(((P.take K).drop k0).map (·.id)).take t).length<=64+t):=hW_ (by rw[List.length_append,List.length_take];have:=HAL.out;omega);obtain⟨p,hp⟩:∃p,fp P (k0+t)=p:=⟨_,rfl⟩;rw[hp]at hce HNX;obtain⟨X,hX⟩:∃X,A++(((P.take K).drop k0).map (·.id)).take t=X:=⟨_,rfl⟩;obtain⟨Y,hY⟩:∃Y,A++(((P.take K).drop k0).map (·.id)).take (t+1)=Y:=⟨_,rfl⟩;rw[hX]at HNX HO2 HLN;rw[hY]at HNX;have HY:=hW_ hY;clear hX hY;obtain⟨ao,n,c,id,sy⟩:=p;have d0:=hce 0 _ rfl;have d1:=hce 1 _ rfl;rw[Nat.add_zero]at d0;simp only at d0 d1 HNX;have gt:(t:Int)<(D:Int):=by omega
      have HO8:Hid (Own ((wr.alloc (.cells #[.slice ao n c, .int .i64 id] 95)).alloc (.cells #[.int .i64 id] 3)) w.heap.size u5 X):=hW_ ((HO2.out.alloc _).alloc _);have HS8:Hid (SlI ((wr.alloc (.cells #[.slice ao n c, .int .i64 id] 95)).alloc (.cells #[.int .i64 id] 3)) (some ⟨wr.heap.size+1,0,none⟩) 1 1 [id]):=hW_ (by
       have:=SlI.one (wr.alloc (.cells #[.slice ao n c, .int .i64 id] 95)) id 3;simpa using this)
      have HSZ:Hid (w.heap.size<=wr.heap.size):=hW_ HB2.out.size;have hdl:D<=1048576:=(by have:=HKD.out;have:=HK.out;have:=HQ3.out;have:=HN.out;omega);clear hce hp;go_wp2_with (at_builtin;go_loud (refine C2 rfl _ _ 40 rfl i0 Tryz.underlying40 hi hz0 hz1 hz2 rfl HO8.out rfl HS8.out (by have:=HLN.out;omega) (by have:=HSZ.out;simp;omega) ?_));intro v1 w2 ho2 hg2 hb2;rw[HNX.out]at ho2;have HO3:=hW_ ho2;have HB3:=hW_ (((HB2.out.alloc HB2.out.size _).alloc (by have:=HSZ.out;simp;omega) _).trans hb2);clear ho2 hg2 hb2;go_wp2_with (fail);go_roundw
      case rel=>exact⟨t+1,by omega,by go_num,by rw[HY.out];exact HO3.out,HB3.out⟩
      case measure=>simp[intOf];omega
     ·obtain rfl:t=D:=by omega
      have HF:Hid (A++(((P.take K).drop k0).map (·.id)).take t=A++qH (P.map FP.fr) S):=hW_ (by
       rw[HQ5.out,List.take_of_length_le];rw[<-HQ5.out,List.length_map,List.length_drop,List.length_take];have:=HKD.out;have:=HK.out;omega)
      rw[HF.out]at HO2;have HLN:Hid ((A++qH (P.map FP.fr) S).length<=4194304):=hW_ (by
       rw[<-HQ5.out,List.length_append,List.length_map,List.length_drop,List.length_take];have:=HAL.out;have:=HN.out;omega)
      have hso:=vV HO2.out HB2.out.size (by have:=HLN.out;omega);have gt:¬(t:Int)<(t:Int):=by omega
      go_wp2_with (fail);refine hso.mono ?_
      rintro e w10 ⟨rfl,ho10,hb10⟩;have HO10:=hW_ ho10;have HB10:=hW_ (HB2.out.trans hb10);clear ho10 hb10 hso;go_wp2_with (fail);go_ret;exact⟨⟨_,rfl,by rw[HA.out];exact HO10.out⟩,HB10.out⟩)
end Go.Proofs.YtjlokfejnijokaaGreatDoor
