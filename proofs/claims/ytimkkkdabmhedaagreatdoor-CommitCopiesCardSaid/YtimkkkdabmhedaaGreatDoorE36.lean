/- Walks: a text's first fault, by the document: ref16.id, ref16.Check; the coder's Counts. -/
import Derived.Test.YtimkkkdabmhedaaGreatDoorE35
import Derived.Test.YtimkkkdabmhedaaGreatDoorE32
import Derived.Test.YtimkkkdabmhedaaGreatDoorE21
import Derived.LoopN
import Derived.Test.YtimkkkdabmhedaaGreatDoorE7
import Derived.Test.YtimkkkdabmhedaaGreatDoorE9
import Derived.Test.YtimkkkdabmhedaaGreatDoorE24
set_option linter.unusedVariables false
set_option maxHeartbeats 2000000
set_option maxRecDepth 100000
namespace Go.Proofs.YtimkkkdabmhedaaGreatDoor
open Go.RowKit
theorem wW {S:List Sp} {t:ByteArray} {k:Nat} (hk:k<S.length) (h:(sp S k).name=t) (hno:∀j,j<k->(sp S j).name≠t):aF S t=some (sp S k):=by
 unfold aF;rw[List.find?_eq_some_iff_getElem];exact⟨by simpa using h,k,hk,dD hk,fun j hj=>by rw[dD (by omega)];simpa using hno j hj⟩
theorem U7 {S:List Sp} {t:ByteArray} (hno:∀j,j<S.length->(sp S j).name≠t):aF S t=none:=by
 unfold aF;rw[List.find?_eq_none];intro x hx;obtain⟨j,hj,rfl⟩:=List.getElem_of_mem hx;rw[dD hj];simpa using hno j hj
theorem aCp {V:Vc} {N:List ByteArray} {s:Int} {k:Nat} (hs:s-256=k) (hk:k<N.length):xF V N s=idOf (aF V.specials (tk N k)):=by
 unfold xF xC;rw[hs,Int.toNat_natCast];simp[ix,List.getD,hk,tk]
theorem aCa {V:Vc} {N:List ByteArray} {dd:Vd} {no to_:Option Addr} {nn nc tn' tc':Nat} {kind:Int} (s:Int) (w:World) (h:CR w dd no nn nc V N) (hs:256<=s) (hl:s<256+(N.length:Int)):
  Calls Tryz.prog 62 #[M0 dd no nn nc kind to_ tn' tc', .int .i64 s] w fun e w'=>e= .returned (.int .i64 (xF V N s))/\Below w.heap.size w w':=by
 obtain⟨hV,hN,-,hn16,hsp,-⟩:=h;obtain⟨ta,tn,tc,ma,mn,mc,sa,sn,sc⟩:=dd;obtain⟨w0,hw0⟩:∃w0,w.alloc (.cells #[.slice ta tn tc, .slice ma mn mc, .slice sa sn sc, .slice no nn nc, .int .i64 kind, .slice to_ tn' tc'] 37)=w0:=⟨_,rfl⟩;have hb0:Below w.heap.size w w0:=hw0▸aA w _;have hx0:w0.heap[w.heap.size]?=some (.cells #[.slice ta tn tc, .slice ma mn mc, .slice sa sn sc, .slice no nn nc, .int .i64 kind, .slice to_ tn' tc'] 37):=by rw[<-hw0];exact heap_alloc_new w _
 obtain⟨b0,b1,b2,b3,b4,b5,bf⟩:=xK hx0;have HCS:=hW_ (hV.spc.count Sp.enc_len (by omega));have hNc:=hN.count;obtain⟨k,hk⟩:∃k:Nat,s-256=k:=⟨(s-256).toNat,by omega⟩;have hkN:k<N.length:=by omega
 have hmk:=aCp (V:=V) hk hkN;obtain⟨b',of',hao,hcn⟩:=SlS.cell (Sl.below hN hb0) (uB hkN);subst hao;obtain⟨nm,hnm⟩:∃y,tk N k=y:=⟨_,rfl⟩;rw[hnm]at hcn hmk;have q2:IntKind.i64.wrap (s-256)=(k:Int):=by rw[IntKind.wrap_i64];omega
 have gk:(k:Int)<(nn:Int):=by omega
 have HMK:=hW_ hmk;have HV:=hW_ (hV.below hb0);have HB0:=hW_ hb0;have HW0:=hW_ hw0;have hsn:sn<=1048576:=by have:=HCS.out;simp only at this;omega
 simp only at HCS;unfold M0;clear hV hN hb0 hx0 hw0 hsp hmk hnm hk hNc;have hcn2:=hcn;rw[<-HW0.out]at hcn2;go_enter Tryz.func62,Tryz.ntmps62;go_wp2_with (fail);rw[HW0.out];clear hcn2;go_loopw [17] (fun i wr=>∃k:Nat,k<=sn/\i= .int .i64 k/\Hid (∀j,j<k->(sp V.specials j).name≠nm)/\wr=w0) (fun i _=>sn-(intOf i).toNat)
 case atStart=>exact⟨0,Nat.zero_le _,rfl,hW_ (fun j h=>by omega),rfl⟩
 case round=>
  obtain⟨q,hq,rfl,HK,hwr⟩:=hrel;subst hwr
  by_cases hlt:q<sn
  ·have hkS:q<V.specials.length:=by have:=HCS.out;omega
   obtain⟨b,of,hao,hce⟩:=HV.out.spc.elem Sp.enc_len (by omega) (D8 hkS);simp only at hao;subst hao;obtain⟨⟨nm2,id⟩,hseq⟩:∃m,sp V.specials q=m:=⟨_,rfl⟩;rw[hseq]at hce;have d0:=hce 0 _ rfl;have d1:=hce 1 _ rfl;rw[Nat.add_zero]at d0;simp only at d0 d1;have HSK:=hW_ hseq;have gq:(q:Int)<(sn:Int):=by omega
   clear hce hseq
   by_cases hid:nm2=nm
   ·have hb2:=cG hid;have HE:Hid (xF V N s=id):=hW_ (by
     rw[HMK.out,wW hkS (by rw[HSK.out];exact hid) HK.out,HSK.out];rfl)
    clear hid;go_wp2_with (fail);refine bodyPost_ret (results_tmp rfl _ _ _) rfl ⟨by rw[HE.out];rfl,HB0.out⟩
   ·have hb2:=aI hid;have HK2:Hid (∀j,j<q+1->(sp V.specials j).name≠nm):=hW_ (fun j hj=>by
     by_cases e:j=q
     ·subst e;rw[HSK.out];exact hid
     ·exact HK.out j (by omega))
    clear hid;go_wp2_with (fail);go_roundw
    case rel=>exact⟨q+1,by omega,by go_num,HK2,by first | rfl | trivial⟩
    case measure=>simp[intOf];omega
  ·have HE:Hid (xF V N s= -1):=hW_ (by
    rw[HMK.out,U7 (fun j hj=>HK.out j (by have:=HCS.out;omega))];rfl)
   go_wp2_with (fail);refine bodyPost_ret (results_tmp rfl _ _ _) rfl ⟨by rw[HE.out];rfl,HB0.out⟩
theorem I8 {V:Vc} {N:List ByteArray} {dd:Vd} {no to_:Option Addr} {nn nc tn' tc':Nat} {kind:Int} {A:List Int} {ao:Option Addr} {n c:Nat} (w:World) (h:CR w dd no nn nc V N) (hA:SlI w ao n c A) (hn:n<=1048576):
  Calls Tryz.prog 21 #[M0 dd no nn nc kind to_ tn' tc', .slice ao n c] w fun e w'=>e= .returned (.int .i64 (qA V N A))/\Below w.heap.size w w':=by
 have hNl:N.length=nn:=by have:=h.names.count;omega
 have hn16:=h.n16;have HC:=hW_ h;obtain⟨ta,tn,tc,ma,mn,mc,sa,sn,sc⟩:=dd;obtain⟨w0,hw0⟩:∃w0,w.alloc (.cells #[.slice ta tn tc, .slice ma mn mc, .slice sa sn sc, .slice no nn nc, .int .i64 kind, .slice to_ tn' tc'] 37)=w0:=⟨_,rfl⟩;have hb0:Below w.heap.size w w0:=hw0▸aA w _;have hx0:w0.heap[w.heap.size]?=some (.cells #[.slice ta tn tc, .slice ma mn mc, .slice sa sn sc, .slice no nn nc, .int .i64 kind, .slice to_ tn' tc'] 37):=by rw[<-hw0];exact heap_alloc_new w _
 have HSZ1:Hid (w.heap.size<w0.heap.size):=hW_ (by rw[<-hw0];simp);have HA:=hW_ (SlI.below hA hb0);have HAL:=hW_ hA.len;have HX0:=hW_ hx0;have HB0:=hW_ hb0;have HW0:=hW_ hw0;have HNL:=hW_ hNl;have q1:IntKind.i64.wrap (256+(nn:Int))=256+(nn:Int):=by rw[IntKind.wrap_i64];omega
 unfold M0;clear hx0 hb0 hw0 hA h hNl;go_enter Tryz.func21,Tryz.ntmps21;go_wp2_with (fail);rw[HW0.out];go_loopw [8] (fun i wr=>∃k:Nat,k<=n/\i= .int .i64 k/\Hid (qA V N A=qA V N (A.drop k))/\Hid (Below w0.heap.size w0 wr)) (fun i _=>n-(intOf i).toNat)
 case atStart=>exact⟨0,Nat.zero_le _,rfl,hW_ rfl,hW_ (Below.refl _ _)⟩
 case round=>
  obtain⟨k,hk,rfl,HK,HB⟩:=hrel;obtain⟨b0,b1,b2,b3,b4,b5,bf⟩:=xK ((HB.out.block w.heap.size HSZ1.out).trans HX0.out)
  by_cases hlt:k<n
  ·obtain⟨b,o,hao,hc⟩:=(SlI.below HA.out HB.out).at_ hlt;subst hao;have hkA:k<A.length:=by have:=HAL.out;omega
   have hdr:=tP (V:=V) (N:=N) hkA;obtain⟨s,hs⟩:∃s,ix A k=s:=⟨_,rfl⟩;rw[hs]at hc hdr;have gk:(k:Int)<(n:Int):=by omega
   by_cases h1:s<0
   ·have g1:decide (s<0)=true:=by simpa using h1
    have HK2:Hid (qA V N A=1):=hW_ (by
     have:bB V N s=1:=by unfold bB;rw[if_pos (.inl h1)]
     rw[HK.out,hdr,this];rfl)
    clear hdr hs h1;go_wp2_with (fail);go_quiet (fail);go_wp2_with (fail);refine bodyPost_ret (results_tmp rfl _ _ _) rfl ⟨by rw[HK2.out];rfl,HB0.out.trans (Below.mono (bA HB.out _) HB0.out.size)⟩
   have g1:decide (s<0)=false:=by simpa using h1
   by_cases h2:256+(nn:Int)<=s
   ·have g2:decide (256+(nn:Int)<=s)=true:=by simpa using h2
    have HK2:Hid (qA V N A=1):=hW_ (by
     have:bB V N s=1:=by unfold bB;rw[HNL.out,if_pos (.inr h2)]
     rw[HK.out,hdr,this];rfl)
    clear hdr hs h1 h2;go_wp2_with (fail);go_quiet (fail);go_wp2_with (fail);refine bodyPost_ret (results_tmp rfl _ _ _) rfl ⟨by rw[HK2.out];rfl,HB0.out.trans (Below.mono (bA HB.out _) HB0.out.size)⟩
   have g2:decide (256+(nn:Int)<=s)=false:=by simpa using h2
   have hnn:¬(s<0\/256+(N.length:Int)<=s):=by rw[HNL.out];omega
   by_cases h3:256<=s
   ·have g3:decide (256<=s)=true:=by simpa using h3
    obtain⟨mk,hmk⟩:∃mk,xF V N s=mk:=⟨_,rfl⟩;have HID:Hid (∀W,Ge w0 W->Calls Tryz.prog 62 #[.agg #[.slice ta tn tc, .slice ma mn mc, .slice sa sn sc, .slice no nn nc, .int .i64 kind, .slice to_ tn' tc'], .int .i64 s] W fun e w'=>e= .returned (.int .i64 mk)/\Below W.heap.size W w'):=hW_ (fun W hW=>by
     have:=aCa (dd:=⟨ta,tn,tc,ma,mn,mc,sa,sn,sc⟩) (kind:=kind) (to_:=to_) (tn':=tn') (tc':=tc') s W ((HC.out.below HB0.out).below hW) h3 (by rw[HNL.out];omega);rw[hmk]at this;exact this)
    by_cases h4:mk<0
    ·have g4:decide (mk<0)=true:=by simpa using h4
     have HK2:Hid (qA V N A=4):=hW_ (by
      have:bB V N s=4:=by unfold bB;rw[if_neg hnn,if_pos ⟨h3,by rw[hmk];exact h4⟩]
      rw[HK.out,hdr,this];rfl)
     clear hdr hs h1 h2 h3 h4 hnn hmk;go_wp2_with (fail);go_quiet (fail);go_wp2_with (fail)
     go_region_with (go_at_call 62;refine(HID.out _ (by exact bA HB.out _)).mono ?_;rintro e w2 ⟨rfl,hb2⟩;have HB2:=hW_ hb2;clear hb2)
     all_goals(
      go_wp2_with (fail);refine bodyPost_ret (results_tmp rfl _ _ _) rfl ⟨by rw[HK2.out];rfl,HB0.out.trans (Below.mono ?_ HB0.out.size)⟩;exact Below.trans (by exact bA HB.out _) (HB2.out.mono HB.out.size))
    ·have g4:decide (mk<0)=false:=by simpa using h4
     have HK2:Hid (qA V N A=qA V N (A.drop (k+1))):=hW_ (by
      have:bB V N s=0:=by unfold bB;rw[if_neg hnn,if_neg (fun h=>h4 (by rw[<-hmk];exact h.2))]
      rw[HK.out,hdr,this];rfl)
     clear hdr hs h1 h2 h3 h4 hnn hmk;go_wp2_with (fail);go_quiet (fail);go_wp2_with (fail)
     go_region_with (go_at_call 62;refine(HID.out _ (by exact bA HB.out _)).mono ?_;rintro e w2 ⟨rfl,hb2⟩;have HB2:=hW_ hb2;clear hb2)
     all_goals(
      go_wp2_with (fail);go_roundw
      case rel=>exact⟨k+1,by omega,by go_num,HK2,hW_ (Below.trans (by exact bA HB.out _) (HB2.out.mono HB.out.size))⟩
      case measure=>simp[intOf];omega)
   ·have g3:decide (256<=s)=false:=by simpa using h3
    have HK2:Hid (qA V N A=qA V N (A.drop (k+1))):=hW_ (by
     have:bB V N s=0:=by unfold bB;rw[if_neg hnn,if_neg (fun h=>h3 h.1)]
     rw[HK.out,hdr,this];rfl)
    clear hdr hs h1 h2 h3 hnn;go_wp2_with (fail);go_quiet (fail);go_wp2_with (fail);go_quiet (fail);go_wp2_with (fail);go_roundw
    case rel=>exact⟨k+1,by omega,by go_num,HK2,hW_ (by exact bA HB.out _)⟩
    case measure=>simp[intOf];omega
  ·obtain rfl:k=n:=by omega
   have HK2:Hid (qA V N A=0):=hW_ (by rw[HK.out,List.drop_eq_nil_of_le (by have:=HAL.out;omega)];rfl);go_wp2_with (fail);refine bodyPost_ret (results_tmp rfl _ _ _) rfl ⟨by rw[HK2.out];rfl,HB0.out.trans (Below.mono HB.out HB0.out.size)⟩
def qG (n:Nat):List Rw:=(List.range n).map fun b=>⟨one b,(b:Int)⟩
theorem Q5 (n:Nat):qG (n+1)=qG n++ [⟨one n,(n:Int)⟩]:=by
 unfold qG;rw[List.range_succ,List.map_append];rfl
theorem sI {n:Nat} {r:Rw} (h:r∈qG n):∃b,b<n/\r=⟨one b,(b:Int)⟩:=by
 unfold qG at h;obtain⟨b,hb,rfl⟩:=List.mem_map.1 h;exact⟨b,List.mem_range.1 hb,rfl⟩
theorem uT (n:Nat):(qG n).length=n:=by simp[qG]
theorem aBZ (n i:Nat):qJ (qG n) i=if i<n then one i else ByteArray.empty:=by
 induction n with
 | zero=>rfl
 | succ n ih=>
  rw[Q5]
  by_cases e:i=n
  ·subst e;rw[wQ (fun r hr=>by obtain⟨b,hb,rfl⟩:=sI hr;simp only;omega)];simp
  ·rw[qI (by simp only;omega),ih]
   by_cases h:i<n
   ·rw[if_pos h,if_pos (by omega)]
   ·rw[if_neg h,if_neg (by omega)]
def abS:ByteArray:=⟨#[97,98]⟩
def R0:List Rw:=qG 256++ [⟨abS,256⟩]
def T0:List ByteArray:=(List.range 256).map one++ [abS]
theorem T0_len:T0.length=257:=by simp[T0]
theorem O7 {i:Nat} (h:i<256):tk T0 i=one i:=by
 unfold tk T0;rw[List.getD_eq_getElem?_getD,List.getElem?_append_left (by simpa using h)];simp[h]
theorem T0_top:tk T0 256=abS:=by
 unfold tk T0;rw[List.getD_eq_getElem?_getD,List.getElem?_append_right (by simp)];simp
theorem one_inj {i j:Nat} (hi:i<256) (hj:j<256) (h:one i=one j):i=j:=by
 unfold one at h;simp only[ByteArray.mk.injEq,Array.mk.injEq,List.cons.injEq,and_true]at h;have:=congrArg UInt8.toNat h;simp at this;omega
theorem uniq_T0:gO T0:=fun i j h1 h2 e=>by
 rw[T0_len]at h2
 by_cases hj:j=256
 ·subst hj;rw[O7 (by omega),T0_top]at e;have:=congrArg ByteArray.size e;simp[one,abS,ByteArray.size]at this
 ·rw[O7 (by omega),O7 (by omega)]at e;have:=one_inj (by omega) (by omega) e;omega
def m0:Mg:=⟨97,98,256,256⟩
theorem ok_R0:oG R0 []:=by
 refine⟨by simp,fun r hr=> ?_,?_⟩
 ·rcases List.mem_append.1 hr with h | h
  ·obtain⟨b,hb,rfl⟩:=sI h;simp only;omega
  ·obtain rfl:=List.mem_singleton.1 h;simp only;omega
 ·unfold R0;rw[List.pairwise_append];refine⟨?_,by simp,fun a ha b hb=> ?_⟩
  ·unfold qG;rw[List.pairwise_map];exact List.pairwise_lt_range.imp (fun h=>by simp only;omega)
  ·obtain⟨q,hq,rfl⟩:=sI ha;obtain rfl:=List.mem_singleton.1 hb;simp only;omega
theorem infoRwL:(Tryz.prog.info? 123).map (fun i=>(i.zero.map (·.cells.size),i.size,i.bytes))=some (some 2,2,24):=by kernel_rfl
theorem infoSpL:(Tryz.prog.info? 58).map (fun i=>(i.zero.map (·.cells.size),i.size,i.bytes))=some (some 2,2,24):=by kernel_rfl
theorem Rw.enc_oneL (x:Rw):∀v∈x.enc,v.oneCell'=true:=by
 intro v hv;simp[Rw.enc]at hv;rcases hv with rfl | rfl<;>rfl
theorem Sp.enc_oneL (x:Sp):∀v∈x.enc,v.oneCell'=true:=by
 intro v hv;simp[Sp.enc]at hv;rcases hv with rfl | rfl<;>rfl
def sJ (M:List ByteArray) (k:Nat):List Rw:=(List.range k).map fun i=>⟨tk M i,256+(i:Int)⟩
def jI (M N:List ByteArray) (k:Nat):List Sp:=(List.range k).map fun i=>⟨tk N i,256+(M.length:Int)+(i:Int)⟩
def kK (M:List ByteArray):List Rw:=qG 256++sJ M M.length
def jK (M N:List ByteArray):List Sp:=jI M N N.length
theorem aAb (M:List ByteArray) (k:Nat):sJ M (k+1)=sJ M k++ [⟨tk M k,256+(k:Int)⟩]:=by
 unfold sJ;rw[List.range_succ,List.map_append];rfl
theorem qX (M N:List ByteArray) (k:Nat):jI M N (k+1)=jI M N k++ [⟨tk N k,256+(M.length:Int)+(k:Int)⟩]:=by
 unfold jI;rw[List.range_succ,List.map_append];rfl
theorem aCh (M:List ByteArray) (k:Nat):(sJ M k).length=k:=by simp[sJ]
theorem Z9 (M N:List ByteArray) (k:Nat):(jI M N k).length=k:=by simp[jI]
theorem T4 {w:World} {g b k:Nat} {u:Value} {a0 a1 a2:Option Addr} {n0 n1 n2 c0 c1 c2:Nat} {t:TypeId} (hg:w.heap[g]?=some (.cells #[.slice a0 n0 c0, .slice a1 n1 c1, .slice a2 n2 c2] t)) (hc:w.cell? ⟨b,k,none⟩=some u) (hv:∀a n c,u≠ .slice a n c):b≠g:=by
 rintro rfl;simp only[World.cell?,hg]at hc;have:=Array.mem_of_getElem? hc;simp at this;rcases this with h | h | h<;>exact hv _ _ _ h
theorem Sl.notSl {w w':World} {g:Nat} {ao:Option Addr} {n cap:Nat} {vs:List Value} (h:Sl w ao n cap vs) (hv:∀u∈vs,∀a n c,u≠ .slice a n c) {a0 a1 a2:Option Addr} {n0 n1 n2 c0 c1 c2:Nat} {t:TypeId} (hg:w.heap[g]?=some (.cells #[.slice a0 n0 c0, .slice a1 n1 c1, .slice a2 n2 c2] t)) (hk:∀q,q≠g->w'.heap[q]?=w.heap[q]?):Sl w' ao n cap vs:=
 ⟨h.len,h.le,h.max,h.nil,fun i u hu=>let ⟨b,o,e,hc⟩:=h.at_ i u hu;⟨b,o,e,(World.cell?_of_block (a:=⟨b,o+i, .none⟩) (hk b (T4 hg hc (hv u (List.mem_of_getElem? hu))))).trans hc⟩⟩
theorem SlF.notSl {s:Nat} {w w':World} {g:Nat} {ao:Option Addr} {n cap:Nat} {vs:List Value} (h:SlF s w ao n cap vs) (hv:∀u∈vs,∀a n c,u≠ .slice a n c) {a0 a1 a2:Option Addr} {n0 n1 n2 c0 c1 c2:Nat} {t:TypeId} (hg:w.heap[g]?=some (.cells #[.slice a0 n0 c0, .slice a1 n1 c1, .slice a2 n2 c2] t)) (hk:∀q,q≠g->w'.heap[q]?=w.heap[q]?):SlF s w' ao n cap vs:=
 ⟨h.len,h.le,h.max,h.nil,fun i u hu=>let ⟨b,o,e,hc⟩:=h.at_ i u hu;⟨b,o,e,(World.cell?_of_block (a:=⟨b,o+i, .none⟩) (hk b (T4 hg hc (hv u (List.mem_of_getElem? hu))))).trans hc⟩⟩
theorem eG.notSl {w w':World} {g:Nat} {d:Vd} {V:Vc} (h:eG w d V) {a0 a1 a2:Option Addr} {n0 n1 n2 c0 c1 c2:Nat} {t:TypeId} (hg:w.heap[g]?=some (.cells #[.slice a0 n0 c0, .slice a1 n1 c1, .slice a2 n2 c2] t)) (hk:∀q,q≠g->w'.heap[q]?=w.heap[q]?):eG w' d V:=by
 refine⟨Sl.notSl h.tok (fun u hu=> ?_) hg hk,SlF.notSl h.mrg (fun u hu=> ?_) hg hk,SlF.notSl h.spc (fun u hu=> ?_) hg hk⟩
 ·obtain⟨x,_,rfl⟩:=List.mem_map.1 hu;intro a n c e;cases e
 ·obtain⟨x,_,hx⟩:=List.mem_flatMap.1 hu;simp[Mg.enc]at hx;rcases hx with rfl | rfl | rfl | rfl<;>(intro a n c e;cases e)
 ·obtain⟨x,_,hx⟩:=List.mem_flatMap.1 hu;simp[Sp.enc]at hx;rcases hx with rfl | rfl<;>(intro a n c e;cases e)
theorem S3 {M N:List ByteArray} {mo no:Option Addr} {mn mc nn nc:Nat} (w:World) (hM:SlS w mo mn mc M) (hN:SlS w no nn nc N) (hMs:∀s∈M,s.size<=maxLen) (hNs:∀s∈N,s.size<=maxLen) (hmn:mn<=1000) (hnn:nn<=20):
  Calls Tryz.prog 45 #[.slice mo mn mc, .slice no nn nc] w (qU (kK M) (jK M N) w):=by
 obtain⟨i0,z0,hi,hz0,hz1,hz2,hz3⟩:=jC infoRwL;obtain⟨j0,y0,hj,hy0,hy1,hy2,hy3⟩:=jC infoSpL;obtain⟨wa,hwa⟩:∃wa,w.alloc (.cells #[.slice none 0 0, .slice none 0 0, .slice none 0 0] 26)=wa:=⟨_,rfl⟩;obtain⟨w0,hw0⟩:∃w0,wa.alloc (.cells #[] 123)=w0:=⟨_,rfl⟩;have hba:Below w.heap.size w wa:=hwa▸aA w _;have hsa:wa.heap.size=w.heap.size+1:=by rw[<-hwa];simp
 have HXA:Hid (wa.heap[w.heap.size]?=some (.cells #[.slice none 0 0, .slice none 0 0, .slice none 0 0] 26)):=hW_ (by rw[<-hwa];exact heap_alloc_new w _);have HO0:Hid (eA Rw.enc 2 123 w0 wa.heap.size (.slice (some ⟨w.heap.size+1,0,none⟩) 0 0) []):=hW_ (by rw[<-hw0,<-hsa];exact eA.made0 wa);have HBA:Hid (Below w.heap.size w wa):=hW_ hba;have HBA0:Hid (Below wa.heap.size wa w0):=hW_ (by rw[<-hw0];exact aA wa _);have HSZ1:Hid (w.heap.size<wa.heap.size):=hW_ (by omega);have HMR:=hW_ (Sl.below hM hba);have HNR:=hW_ (Sl.below hN hba);have HML:Hid (M.length=mn):=hW_ hM.count;have HNL:Hid (N.length=nn):=hW_ hN.count;have HMS:=hW_ hMs;have HNS:=hW_ hNs;have HW0:=hW_ hw0;have HWA:=hW_ hwa;clear hba hw0 hwa hsa hM hN hMs hNs;go_enter Tryz.func45,Tryz.ntmps45;go_wp2_with (fail);rw[HWA.out,HW0.out];go_loopw [6,7] (fun v i wr=>∃k:Nat,k<=256/\i= .int .i64 k/\eA Rw.enc 2 123 wr wa.heap.size v (qG k)/\Below wa.heap.size wa wr) (fun _ i _=>256-(intOf i).toNat)
 case atStart=>exact⟨0,by omega,rfl,HO0.out,HBA0.out⟩
 case round=>
  obtain⟨k,hk,rfl,ho,hb⟩:=hrel
  by_cases hlt:k<256
  ·have hw8:IntKind.u8.wrap (k:Int)=(k:Int):=by rw[IntKind.wrap_u8];omega
   have hcv:=uK wr k;have hln:=uT k;obtain⟨Ls,hLs⟩:∃Ls,qG k=Ls:=⟨_,rfl⟩;rw[hLs]at ho hln;have HLS:=hW_ hLs;obtain⟨vo,vc,rfl,_⟩:=ho.sl;have HLN:=hW_ hln;rw[hln]at ho |-;have HBS:=hW_ hb.size;have HO3:Hid (eA Rw.enc 2 123 ((wr.alloc (.cells #[.int .u8 (k:Int)] 5)).alloc (.cells #[.string (one k), .int .i64 (k:Int)] 123)) wa.heap.size (.slice vo k vc) Ls):=hW_ ((ho.alloc _).alloc _);have HS3:Hid (SlF 2 ((wr.alloc (.cells #[.int .u8 (k:Int)] 5)).alloc (.cells #[.string (one k), .int .i64 (k:Int)] 123)) (some ⟨wr.heap.size+1,0,none⟩) 1 1 (flat Rw.enc [⟨one k,k⟩])):=hW_ (by
    have:=SlF.one Rw.enc_len (wr.alloc (.cells #[.int .u8 (k:Int)] 5)) ⟨one k,k⟩ 123 (cs:=#[.string (one k), .int .i64 (k:Int)]) rfl;simpa using this)
   have HB:=hW_ hb;clear ho hb hln hLs;go_wp2_with (at_builtin;go_loud (refine gA rfl _ _ 120 rfl i0 z0 24 Tryz.underlying120 hi hz0 hz1 hz2 hz3 Rw.enc_len (by omega) Rw.enc_oneL rfl HO3.out rfl HS3.out (by have:=HLN.out;unfold maxLen;omega) (by have:=HLN.out;omega) (by have:=HBS.out;simp;omega) ?_));intro v' w' ho' hg' hb';have HO':=hW_ ho';have HB':=hW_ (((HB.out.alloc HB.out.size _).alloc (by have:=HBS.out;simp;omega) _).trans hb');clear ho' hg' hb';go_wp2_with (fail);go_roundw
   case rel=>exact⟨k+1,by omega,by go_num,by rw[Q5,HLS.out];exact HO'.out,HB'.out⟩
   case measure=>simp[intOf];omega
  ·have HK:Hid (k=256):=hW_ (by omega);have hln:=uT k;obtain⟨Ls,hLs⟩:∃Ls,qG k=Ls:=⟨_,rfl⟩;rw[hLs]at ho hln;have HLS:Hid (qG 256=Ls):=hW_ (by rw[<-hLs,HK.out]);have HLN:Hid (Ls.length=256):=hW_ (by rw[hln,HK.out]);have HO:=hW_ ho;have HB:=hW_ hb;clear hLs hln ho hb;go_wp2_with (fail);go_loopw [6,27] (fun v i wr=>∃k:Nat,k<=mn/\i= .int .i64 k/\eA Rw.enc 2 123 wr wa.heap.size v (Ls++sJ M k)/\Below wa.heap.size wa wr) (fun _ i _=>mn-(intOf i).toNat)
   case atStart=>exact⟨0,Nat.zero_le _,rfl,by simpa[sJ]using HO.out,HB.out⟩
   case round=>
    obtain⟨k',hk,rfl,ho,hb⟩:=hrel;obtain⟨X,hX⟩:∃X,Ls++sJ M k'=X:=⟨_,rfl⟩;have hxl:X.length=256+k':=by rw[<-hX,List.length_append,HLN.out,aCh]
    rw[hX]at ho;have HX:=hW_ hX;have HXL:=hW_ hxl;have HO:=hW_ ho;have HB:=hW_ hb;clear hX hxl ho hb
    by_cases hlt:k'<mn
    ·have hkM:k'<M.length:=by have:=HML.out;omega
     obtain⟨b,of,hao,hce⟩:=(HMR.out.below HB.out).at_ k' _ (by rw[List.getElem?_map,uB hkM];rfl);subst hao;obtain⟨s,hs⟩:∃s,tk M k'=s:=⟨_,rfl⟩;rw[hs]at hce;have HN:Hid (X++ [⟨s,256+(k':Int)⟩]=Ls++sJ M (k'+1)):=hW_ (by rw[aAb,<-List.append_assoc,HX.out,hs]);have hwr:IntKind.i64.wrap (256+(k':Int))=256+(k':Int):=by rw[IntKind.wrap_i64];omega
     have HBS:=hW_ HB.out.size;have HO3:Hid (eA Rw.enc 2 123 (wr.alloc (.cells #[.string s, .int .i64 (256+(k':Int))] 123)) wa.heap.size u6 X):=hW_ (HO.out.alloc _);have HS3:Hid (SlF 2 (wr.alloc (.cells #[.string s, .int .i64 (256+(k':Int))] 123)) (some ⟨wr.heap.size,0,none⟩) 1 1 (flat Rw.enc [⟨s,256+(k':Int)⟩])):=hW_ (SlF.one Rw.enc_len wr ⟨s,256+(k':Int)⟩ 123 (cs:=#[.string s, .int .i64 (256+(k':Int))]) rfl);clear hs hkM;go_wp2_with (at_builtin;go_loud (refine gA rfl _ _ 120 rfl i0 z0 24 Tryz.underlying120 hi hz0 hz1 hz2 hz3 Rw.enc_len (by omega) Rw.enc_oneL rfl HO3.out rfl HS3.out (by have:=HXL.out;unfold maxLen;omega) (by have:=HXL.out;omega) (by have:=HBS.out;simp;omega) ?_));intro v' w' ho' hg' hb';rw[HN.out]at ho';have HO':=hW_ ho';have HB':=hW_ ((HB.out.alloc HB.out.size _).trans hb');clear ho' hg' hb';go_wp2_with (fail);go_roundw
     case rel=>exact⟨k'+1,by omega,by go_num,HO'.out,HB'.out⟩
     case measure=>simp[intOf];omega
    ·obtain rfl:k'=mn:=by omega
     have HRF:Hid (X=kK M):=hW_ (by rw[<-HX.out,<-HLS.out,<-HML.out];rfl);rw[HRF.out]at HO;obtain⟨ro,rc,rfl,hrs⟩:=HO.out.sl;obtain⟨rn,hrn⟩:∃rn,(kK M).length=rn:=⟨_,rfl⟩;rw[hrn]at hrs |-;obtain⟨ws,hws⟩:∃ws,wr=ws:=⟨_,rfl⟩;rw[hws]at HO HB hrs |-;have HRS:=hW_ hrs;clear hws;obtain⟨wb,hwb⟩:∃wb,ws.alloc (.cells #[] 58)=wb:=⟨_,rfl⟩;have HWB:=hW_ hwb;have HBR:Hid (Below ws.heap.size ws wb):=hW_ (by rw[<-hwb];exact aA ws _);have HOS:Hid (eA Sp.enc 2 58 wb ws.heap.size (.slice (some ⟨ws.heap.size,0,none⟩) 0 0) []):=hW_ (by rw[<-hwb];exact eA.made0 ws);clear hrn hwb hrs;go_wp2_with (fail);rw[HWB.out];go_loopw [9,44] (fun v i wr2=>∃k2:Nat,k2<=nn/\i= .int .i64 k2/\eA Sp.enc 2 58 wr2 ws.heap.size v (jI M N k2)/\Below ws.heap.size ws wr2) (fun _ i _=>nn-(intOf i).toNat)
     case atStart=>exact⟨0,Nat.zero_le _,rfl,HOS.out,HBR.out⟩
     case round=>
      obtain⟨q,hq,rfl,ho,hb⟩:=hrel;obtain⟨Y,hY⟩:∃Y,jI M N q=Y:=⟨_,rfl⟩;have hyl:Y.length=q:=by rw[<-hY,Z9]
      rw[hY]at ho;have HY:=hW_ hY;have HYL:=hW_ hyl;have HO2:=hW_ ho;have HB2:=hW_ hb;have HBW:Hid (Below wa.heap.size wa wr):=hW_ (HB.out.trans (hb.mono HB.out.size));clear hY hyl ho hb
      by_cases hlt:q<nn
      ·have hqN:q<N.length:=by have:=HNL.out;omega
       obtain⟨b,of,hao,hce⟩:=(HNR.out.below HBW.out).at_ q _ (by rw[List.getElem?_map,uB hqN];rfl);subst hao;obtain⟨s,hs⟩:∃s,tk N q=s:=⟨_,rfl⟩;rw[hs]at hce;obtain⟨r,hr⟩:∃r:Nat,256+k'+q=r:=⟨_,rfl⟩;have HN:Hid (Y++ [⟨s,(r:Int)⟩]=jI M N (q+1)):=hW_ (by rw[qX,HY.out,hs,HML.out,<-hr];simp);have hwr:IntKind.i64.wrap (256+(k':Int))=256+(k':Int):=by rw[IntKind.wrap_i64];omega
       have hwr2:IntKind.i64.wrap (256+(k':Int)+(q:Int))=(r:Int):=by rw[IntKind.wrap_i64];omega
       have HBS:=hW_ HB2.out.size;have HO3:Hid (eA Sp.enc 2 58 (wr.alloc (.cells #[.string s, .int .i64 (r:Int)] 58)) ws.heap.size u9 Y):=hW_ (HO2.out.alloc _);have HS3:Hid (SlF 2 (wr.alloc (.cells #[.string s, .int .i64 (r:Int)] 58)) (some ⟨wr.heap.size,0,none⟩) 1 1 (flat Sp.enc [⟨s,(r:Int)⟩])):=hW_ (SlF.one Sp.enc_len wr ⟨s,(r:Int)⟩ 58 (cs:=#[.string s, .int .i64 (r:Int)]) rfl);clear hs hqN hr;go_wp2_with (at_builtin;go_loud (refine gA rfl _ _ 24 rfl j0 y0 24 Tryz.underlying24 hj hy0 hy1 hy2 hy3 Sp.enc_len (by omega) Sp.enc_oneL rfl HO3.out rfl HS3.out (by have:=HYL.out;unfold maxLen;omega) (by have:=HYL.out;omega) (by have:=HBS.out;simp;omega) ?_));intro v' w' ho' hg' hb';rw[HN.out]at ho';have HO':=hW_ ho';have HB':=hW_ ((HB2.out.alloc HB2.out.size _).trans hb');clear ho' hg' hb';go_wp2_with (fail);go_roundw
       case rel=>exact⟨q+1,by omega,by go_num,HO'.out,HB'.out⟩
       case measure=>simp[intOf];omega
      ·obtain rfl:q=nn:=by omega
       have HSF:Hid (Y=jK M N):=hW_ (by rw[<-HY.out,<-HNL.out];rfl);rw[HSF.out]at HO2;have HSL:Hid ((jK M N).length=q):=hW_ (by rw[<-HSF.out];exact HYL.out);obtain⟨so,sc,rfl,hss⟩:=HO2.out.sl;rw[HSL.out]at hss |-;have hfr:=aQ wr (HRS.out.below HB2.out) hss (fun r hr=>by
        rcases List.mem_append.1 hr with h | h
        ·obtain⟨b,_,rfl⟩:=sI h;show 1<=maxLen;unfold maxLen;omega
        ·unfold sJ at h;obtain⟨i,hi,rfl⟩:=List.mem_map.1 h;exact HMS.out _ (sB (List.mem_range.1 hi))) (fun s hs=>by
        unfold jK jI at hs;obtain⟨i,hi,rfl⟩:=List.mem_map.1 hs;exact HNS.out _ (sB (List.mem_range.1 hi))) hnn
       have HX4:=hW_ ((HBW.out.block w.heap.size HSZ1.out).trans HXA.out);clear hss;go_wp2_with (fail);refine hfr.mono ?_
       rintro e w9 ⟨hpost,hb9⟩;have hx9:=(hb9.block w.heap.size (Array.getElem?_eq_some_iff.1 HX4.out).1).trans HX4.out;have HB9:Hid (Below w.heap.size w w9):=hW_ (HBA.out.trans ((HBW.out.trans (hb9.mono HBW.out.size)).mono HBA.out.size));obtain⟨c0,c1,c2⟩:=A9 hx9;have cf:∀o,w9.frozen? ⟨w.heap.size,o,none⟩=false:=by intro o;simp[World.frozen?,hx9]
       have HX9:=hW_ hx9;clear hb9 hx9 hfr;rcases hpost with⟨hg,⟨ta,tn,tc,ma,mn2,mc2,sa,sn,sc2⟩,rfl,hv⟩ | ⟨hg,rfl⟩
       ·have HV:=hW_ hv;have HG:=hW_ hg;clear hv hg;go_wp2_with (fail);refine bodyPost_ret (v:= .tuple #[Vd.val ⟨ta,tn,tc,ma,mn2,mc2,sa,sn,sc2⟩, .bool true]) ?_ rfl ⟨.inl ⟨HG.out,⟨ta,tn,tc,ma,mn2,mc2,sa,sn,sc2⟩,rfl,?_⟩,?_⟩
        ·simp[results,Tryz.results45,go_sem,Vd.val,c0,c1,c2]
        ·exact HV.out.notSl HX9.out (fun q hq=>(Below.heap_setCell _ _ _ _ hq).trans ((Below.heap_setCell _ _ _ _ hq).trans (Below.heap_setCell _ _ _ _ hq)))
        ·exact((HB9.out.setCell (p:=⟨w.heap.size,0,none⟩) (Nat.le_refl _) _).setCell (p:=⟨w.heap.size,1,none⟩) (Nat.le_refl _) _).setCell (p:=⟨w.heap.size,2,none⟩) (Nat.le_refl _) _
       ·have HG:=hW_ hg;clear hg;unfold sH Vd.val;go_wp2_with (fail);refine bodyPost_ret (v:= .tuple #[sH.val, .bool false]) ?_ rfl ⟨.inr ⟨HG.out,rfl⟩,?_⟩
        ·simp[results,Tryz.results45,go_sem,sH,Vd.val,c0,c1,c2]
        ·exact((HB9.out.setCell (p:=⟨w.heap.size,0,none⟩) (Nat.le_refl _) _).setCell (p:=⟨w.heap.size,1,none⟩) (Nat.le_refl _) _).setCell (p:=⟨w.heap.size,2,none⟩) (Nat.le_refl _) _
open Go
def abcS:ByteArray:=⟨#[97,98,99]⟩
def R1:List Rw:=R0++ [⟨abcS,257⟩]
def m1:Mg:=⟨256,99,257,257⟩
def Mg.tup (m:Mg):Int×Int×Int×Int:=(m.left,m.right,m.out,m.order)
theorem Mg.tup_inj (a b:Mg) (h:a.tup=b.tup):a=b:=by
 cases a;cases b
 simp only[Mg.tup,Prod.mk.injEq]at h;obtain⟨rfl,rfl,rfl,rfl⟩:=h;rfl
theorem mgs_inj {L M:List Mg} (h:L.map Mg.tup=M.map Mg.tup):L=M:=(List.map_inj_right Mg.tup_inj).1 h
end Go.Proofs.YtimkkkdabmhedaaGreatDoor
