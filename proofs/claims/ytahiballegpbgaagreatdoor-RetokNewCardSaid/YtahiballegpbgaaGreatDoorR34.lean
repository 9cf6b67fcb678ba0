/- Plain laws: the vocabulary of the chapter's example. -/
import Derived.Test.YtahiballegpbgaaGreatDoorR6
import Derived.Test.YtahiballegpbgaaGreatDoorR8
import Derived.Test.YtahiballegpbgaaGreatDoorR22
import Derived.Test.YtahiballegpbgaaGreatDoorR18
import Derived.Test.YtahiballegpbgaaGreatDoorR33
import Derived.Test.YtahiballegpbgaaGreatDoorR30
import Derived.Test.YtahiballegpbgaaGreatDoorR19
import Derived.LoopN
import Derived.Test.YtahiballegpbgaaGreatDoorR32
import Derived.Laws.CopyOwn
import Derived.Laws.IdiomCopy
import Derived.Test.YtahiballegpbgaaGreatDoorR9
import Derived.Test.YtahiballegpbgaaGreatDoorR13
import Derived.Deep.RegionLaw
set_option linter.unusedVariables false
set_option maxHeartbeats 2000000
set_option maxRecDepth 100000
namespace Go.Proofs.YtahiballegpbgaaGreatDoor
def qG (n:Nat):List Rw:=(List.range n).map fun b=>⟨one b,(b:Int)⟩
theorem sR (n:Nat):qG (n+1)=qG n++ [⟨one n,(n:Int)⟩]:=by
 unfold qG;rw[List.range_succ,List.map_append];rfl
theorem yI {n:Nat} {r:Rw} (h:r∈qG n):∃b,b<n/\r=⟨one b,(b:Int)⟩:=by
 unfold qG at h;obtain⟨b,hb,rfl⟩:=List.mem_map.1 h;exact⟨b,List.mem_range.1 hb,rfl⟩
theorem zU (n:Nat):(qG n).length=n:=by simp[qG]
theorem aDm (n i:Nat):uJ (qG n) i=if i<n then one i else ByteArray.empty:=by
 induction n with
 | zero=>rfl
 | succ n ih=>
  rw[sR]
  by_cases e:i=n
  ·subst e;rw[iM (fun r hr=>by obtain⟨b,hb,rfl⟩:=yI hr;simp only;omega)];simp
  ·rw[lF (by simp only;omega),ih]
   by_cases h:i<n
   ·rw[if_pos h,if_pos (by omega)]
   ·rw[if_neg h,if_neg (by omega)]
def abS:ByteArray:=⟨#[97,98]⟩
def R0:List Rw:=qG 256++ [⟨abS,256⟩]
def T0:List ByteArray:=(List.range 256).map one++ [abS]
theorem nI:T0.length=257:=by simp[T0]
theorem F9 {i:Nat} (h:i<256):tk T0 i=one i:=by
 unfold tk T0;rw[List.getD_eq_getElem?_getD,List.getElem?_append_left (by simpa using h)];simp[h]
theorem kP:tk T0 256=abS:=by
 unfold tk T0;rw[List.getD_eq_getElem?_getD,List.getElem?_append_right (by simp)];simp
theorem top_R0:top R0 []=257:=by decide +kernel
theorem toks_R0:kF R0 []=T0:=by
 unfold kF;rw[top_R0];refine List.ext_getElem? fun i=> ?_
 by_cases h:i<257
 ·rw[sB (T:=T0) (by rw[nI];exact h)];simp only[List.getElem?_map,List.getElem?_range (show i<(257:Int).toNat from h),Option.map_some];congr 1;unfold R0
  by_cases e:i=256
  ·subst e;rw[kP,iM (fun r hr=>by obtain⟨b,hb,rfl⟩:=yI hr;simp only;omega)];rfl
  ·rw[F9 (by omega),lF (by simp only;omega),aDm,if_pos (by omega)]
 ·rw[List.getElem?_eq_none (by simp;omega),List.getElem?_eq_none (by rw[nI];omega)]
theorem one_inj {i j:Nat} (hi:i<256) (hj:j<256) (h:one i=one j):i=j:=by
 unfold one at h;simp only[ByteArray.mk.injEq,Array.mk.injEq,List.cons.injEq,and_true]at h;have:=congrArg UInt8.toNat h;simp at this;omega
theorem aBM:yQ T0:=fun i j h1 h2 e=>by
 rw[nI]at h2
 by_cases hj:j=256
 ·subst hj;rw[F9 (by omega),kP]at e;have:=congrArg ByteArray.size e;simp[one,abS,ByteArray.size]at this
 ·rw[F9 (by omega),F9 (by omega)]at e;have:=one_inj (by omega) (by omega) e;omega
theorem aDz:sD T0:=⟨by rw[nI];omega,fun s hs=>by
 unfold T0 at hs;rcases List.mem_append.1 hs with h | h
 ·obtain⟨b,_,rfl⟩:=List.mem_map.1 h;exact Nat.le_of_lt (show 1<64 by omega) |> fun _=>show 1<=64 by omega
 ·obtain rfl:=List.mem_singleton.1 h;exact show 2<=64 by omega,aBM,fun b hb=>List.mem_append.2 (.inl (List.mem_map.2 ⟨b,List.mem_range.2 hb,rfl⟩))⟩
theorem R9 {i:Nat} (h:i<256):ofT T0 (one i)=i:=by
 have:=aBM.of (i:=i) (by rw[nI];omega) (by rw[F9 h];show 1≠0;omega)
 rwa [F9 h]at this
def m0:Mg:=⟨97,98,256,256⟩
theorem wY {k:Nat} (h:k<=256):bD T0 k= []:=by
 induction k with
 | zero=>rfl
 | succ k ih=>
  rw[zF,ih (by omega),iL,F9 (by omega)];rfl
theorem aDv:xG T0= [m0]:=by
 rw[<-uN,nI,zF,wY (Nat.le_refl _),iL,kP];show pF T0 256 1= [m0];have h:qS T0 256 0=some m0:=by
  unfold qS;rw[kP,show abS.extract 0 (0+1)=one 97 from rfl,show abS.extract (0+1) abS.size=one 98 from rfl,R9 (by omega),R9 (by omega)];rfl
 rw[dQ h];rfl
theorem may_T0:May ⟨T0,[m0],[]⟩:=by
 refine⟨aDz,⟨by simp,fun m hm=> ?_,by simp⟩,fun i hi h=> ?_,⟨by simp,by simp,by simp⟩⟩
 ·obtain rfl:=List.mem_singleton.1 hm;refine⟨vB.2 ⟨by decide,by rw[nI];decide,?_⟩,vB.2 ⟨by decide,by rw[nI];decide,?_⟩,vB.2 ⟨by decide,by rw[nI];decide,?_⟩,?_,by decide,by decide⟩
  ·show(tk T0 97).size≠0;rw[F9 (by omega)];show 1≠0;omega
  ·show(tk T0 98).size≠0;rw[F9 (by omega)];show 1≠0;omega
  ·show(tk T0 256).size≠0;rw[kP];show 2≠0;omega
  ·show tk T0 256=tk T0 97++tk T0 98;rw[kP,F9 (by omega),F9 (by omega)];rfl
 ·refine⟨m0,List.mem_singleton.2 rfl,?_⟩;rw[nI]at hi
  by_cases e:i=256
  ·subst e;rfl
  ·rw[F9 (by omega)]at h;exact absurd h (by show¬1<1;omega)
theorem sort_m0:F6 [m0]= [m0]:=by unfold F6;simp
theorem sort_nil:F5 []= []:=by unfold F5;simp
theorem voc_R0:cR R0 []=⟨T0,[m0],[]⟩:=by
 unfold cR;rw[toks_R0,aDv,sort_m0,sort_nil]
theorem ok_R0:bG R0 []:=by
 refine⟨by simp,fun r hr=> ?_,?_⟩
 ·rcases List.mem_append.1 hr with h | h
  ·obtain⟨b,hb,rfl⟩:=yI h;simp only;omega
  ·obtain rfl:=List.mem_singleton.1 h;simp only;omega
 ·unfold R0;rw[List.pairwise_append];refine⟨?_,by simp,fun a ha b hb=> ?_⟩
  ·unfold qG;rw[List.pairwise_map];exact List.pairwise_lt_range.imp (fun h=>by simp only;omega)
  ·obtain⟨q,hq,rfl⟩:=yI ha;obtain rfl:=List.mem_singleton.1 hb;simp only;omega
theorem good_R0:bG R0 []/\May (cR R0 []):=⟨ok_R0,by rw[voc_R0];exact may_T0⟩
open Go.RowKit
theorem infoRwL:(Tryz.prog.info? 115).map (fun i=>(i.zero.map (·.cells.size),i.size,i.bytes))=some (some 2,2,24):=by kernel_rfl
theorem infoSpL:(Tryz.prog.info? 117).map (fun i=>(i.zero.map (·.cells.size),i.size,i.bytes))=some (some 2,2,24):=by kernel_rfl
theorem Rw.enc_oneL (x:Rw):∀v∈x.enc,v.oneCell'=true:=by
 intro v hv;simp[Rw.enc]at hv;rcases hv with rfl | rfl<;>rfl
theorem Sp.enc_oneL (x:Sp):∀v∈x.enc,v.oneCell'=true:=by
 intro v hv;simp[Sp.enc]at hv;rcases hv with rfl | rfl<;>rfl
def mK (M:List ByteArray) (k:Nat):List Rw:=(List.range k).map fun i=>⟨tk M i,256+(i:Int)⟩
def gI (M N:List ByteArray) (k:Nat):List Sp:=(List.range k).map fun i=>⟨tk N i,256+(M.length:Int)+(i:Int)⟩
def qK (M:List ByteArray):List Rw:=qG 256++mK M M.length
def pK (M N:List ByteArray):List Sp:=gI M N N.length
theorem aAZ (M:List ByteArray) (k:Nat):mK M (k+1)=mK M k++ [⟨tk M k,256+(k:Int)⟩]:=by
 unfold mK;rw[List.range_succ,List.map_append];rfl
theorem qY (M N:List ByteArray) (k:Nat):gI M N (k+1)=gI M N k++ [⟨tk N k,256+(M.length:Int)+(k:Int)⟩]:=by
 unfold gI;rw[List.range_succ,List.map_append];rfl
theorem aDu (M:List ByteArray) (k:Nat):(mK M k).length=k:=by simp[mK]
theorem aAV (M N:List ByteArray) (k:Nat):(gI M N k).length=k:=by simp[gI]
theorem U5 {w:World} {g b k:Nat} {u:Value} {a0 a1 a2:Option Addr} {n0 n1 n2 c0 c1 c2:Nat} {t:TypeId} (hg:w.heap[g]?=some (.cells #[.slice a0 n0 c0, .slice a1 n1 c1, .slice a2 n2 c2] t)) (hc:w.cell? ⟨b,k,none⟩=some u) (hv:∀a n c,u≠ .slice a n c):b≠g:=by
 rintro rfl;simp only[World.cell?,hg]at hc;have:=Array.mem_of_getElem? hc;simp at this;rcases this with h | h | h<;>exact hv _ _ _ h
theorem Sl.notSl {w w':World} {g:Nat} {ao:Option Addr} {n cap:Nat} {vs:List Value} (h:Sl w ao n cap vs) (hv:∀u∈vs,∀a n c,u≠ .slice a n c) {a0 a1 a2:Option Addr} {n0 n1 n2 c0 c1 c2:Nat} {t:TypeId} (hg:w.heap[g]?=some (.cells #[.slice a0 n0 c0, .slice a1 n1 c1, .slice a2 n2 c2] t)) (hk:∀q,q≠g->w'.heap[q]?=w.heap[q]?):Sl w' ao n cap vs:=
 ⟨h.len,h.le,h.max,h.nil,fun i u hu=>let ⟨b,o,e,hc⟩:=h.at_ i u hu;⟨b,o,e,(World.cell?_of_block (a:=⟨b,o+i, .none⟩) (hk b (U5 hg hc (hv u (List.mem_of_getElem? hu))))).trans hc⟩⟩
theorem SlF.notSl {s:Nat} {w w':World} {g:Nat} {ao:Option Addr} {n cap:Nat} {vs:List Value} (h:SlF s w ao n cap vs) (hv:∀u∈vs,∀a n c,u≠ .slice a n c) {a0 a1 a2:Option Addr} {n0 n1 n2 c0 c1 c2:Nat} {t:TypeId} (hg:w.heap[g]?=some (.cells #[.slice a0 n0 c0, .slice a1 n1 c1, .slice a2 n2 c2] t)) (hk:∀q,q≠g->w'.heap[q]?=w.heap[q]?):SlF s w' ao n cap vs:=
 ⟨h.len,h.le,h.max,h.nil,fun i u hu=>let ⟨b,o,e,hc⟩:=h.at_ i u hu;⟨b,o,e,(World.cell?_of_block (a:=⟨b,o+i, .none⟩) (hk b (U5 hg hc (hv u (List.mem_of_getElem? hu))))).trans hc⟩⟩
theorem xE.notSl {w w':World} {g:Nat} {d:Vd} {V:Vc} (h:xE w d V) {a0 a1 a2:Option Addr} {n0 n1 n2 c0 c1 c2:Nat} {t:TypeId} (hg:w.heap[g]?=some (.cells #[.slice a0 n0 c0, .slice a1 n1 c1, .slice a2 n2 c2] t)) (hk:∀q,q≠g->w'.heap[q]?=w.heap[q]?):xE w' d V:=by
 refine⟨Sl.notSl h.tok (fun u hu=> ?_) hg hk,SlF.notSl h.mrg (fun u hu=> ?_) hg hk,SlF.notSl h.spc (fun u hu=> ?_) hg hk⟩
 ·obtain⟨x,_,rfl⟩:=List.mem_map.1 hu;intro a n c e;cases e
 ·obtain⟨x,_,hx⟩:=List.mem_flatMap.1 hu;simp[Mg.enc]at hx;rcases hx with rfl | rfl | rfl | rfl<;>(intro a n c e;cases e)
 ·obtain⟨x,_,hx⟩:=List.mem_flatMap.1 hu;simp[Sp.enc]at hx;rcases hx with rfl | rfl<;>(intro a n c e;cases e)
theorem yT {M N:List ByteArray} {mo no:Option Addr} {mn mc nn nc:Nat} (w:World) (hM:SlS w mo mn mc M) (hN:SlS w no nn nc N) (hMs:∀s∈M,s.size<=maxLen) (hNs:∀s∈N,s.size<=maxLen) (hmn:mn<=1000) (hnn:nn<=20):
  Calls Tryz.prog 34 #[.slice mo mn mc, .slice no nn nc] w (lV (qK M) (pK M N) w):=by
 obtain⟨i0,z0,hi,hz0,hz1,hz2,hz3⟩:=B6 infoRwL;obtain⟨j0,y0,hj,hy0,hy1,hy2,hy3⟩:=B6 infoSpL;obtain⟨wa,hwa⟩:∃wa,w.alloc (.cells #[.slice none 0 0, .slice none 0 0, .slice none 0 0] 26)=wa:=⟨_,rfl⟩;obtain⟨w0,hw0⟩:∃w0,wa.alloc (.cells #[] 115)=w0:=⟨_,rfl⟩;have hba:Below w.heap.size w wa:=hwa▸aA w _;have hsa:wa.heap.size=w.heap.size+1:=by rw[<-hwa];simp
 have HXA:Hid (wa.heap[w.heap.size]?=some (.cells #[.slice none 0 0, .slice none 0 0, .slice none 0 0] 26)):=hW_ (by rw[<-hwa];exact heap_alloc_new w _);have HO0:Hid (iA Rw.enc 2 115 w0 wa.heap.size (.slice (some ⟨w.heap.size+1,0,none⟩) 0 0) []):=hW_ (by rw[<-hw0,<-hsa];exact iA.made0 wa);have HBA:Hid (Below w.heap.size w wa):=hW_ hba;have HBA0:Hid (Below wa.heap.size wa w0):=hW_ (by rw[<-hw0];exact aA wa _);have HSZ1:Hid (w.heap.size<wa.heap.size):=hW_ (by omega);have HMR:=hW_ (Sl.below hM hba);have HNR:=hW_ (Sl.below hN hba);have HML:Hid (M.length=mn):=hW_ hM.count;have HNL:Hid (N.length=nn):=hW_ hN.count;have HMS:=hW_ hMs;have HNS:=hW_ hNs;have HW0:=hW_ hw0;have HWA:=hW_ hwa;clear hba hw0 hwa hsa hM hN hMs hNs;go_enter Tryz.func34,Tryz.ntmps34;go_wp2_with (fail);rw[HWA.out,HW0.out];go_loopw [6,7] (fun v i wr=>∃k:Nat,k<=256/\i= .int .i64 k/\iA Rw.enc 2 115 wr wa.heap.size v (qG k)/\Below wa.heap.size wa wr) (fun _ i _=>256-(intOf i).toNat)
 case atStart=>exact⟨0,by omega,rfl,HO0.out,HBA0.out⟩
 case round=>
  obtain⟨k,hk,rfl,ho,hb⟩:=hrel
  by_cases hlt:k<256
  ·have hw8:IntKind.u8.wrap (k:Int)=(k:Int):=by rw[IntKind.wrap_u8];omega
   have hcv:=wK wr k;have hln:=zU k;obtain⟨Ls,hLs⟩:∃Ls,qG k=Ls:=⟨_,rfl⟩;rw[hLs]at ho hln;have HLS:=hW_ hLs;obtain⟨vo,vc,rfl,_⟩:=ho.sl;have HLN:=hW_ hln;rw[hln]at ho |-;have HBS:=hW_ hb.size;have HO3:Hid (iA Rw.enc 2 115 ((wr.alloc (.cells #[.int .u8 (k:Int)] 5)).alloc (.cells #[.string (one k), .int .i64 (k:Int)] 115)) wa.heap.size (.slice vo k vc) Ls):=hW_ ((ho.alloc _).alloc _);have HS3:Hid (SlF 2 ((wr.alloc (.cells #[.int .u8 (k:Int)] 5)).alloc (.cells #[.string (one k), .int .i64 (k:Int)] 115)) (some ⟨wr.heap.size+1,0,none⟩) 1 1 (flat Rw.enc [⟨one k,k⟩])):=hW_ (by
    have:=SlF.one Rw.enc_len (wr.alloc (.cells #[.int .u8 (k:Int)] 5)) ⟨one k,k⟩ 115 (cs:=#[.string (one k), .int .i64 (k:Int)]) rfl;simpa using this)
   have HB:=hW_ hb;clear ho hb hln hLs;go_wp2_with (at_builtin;go_loud (refine kA rfl _ _ 112 rfl i0 z0 24 Tryz.underlying112 hi hz0 hz1 hz2 hz3 Rw.enc_len (by omega) Rw.enc_oneL rfl HO3.out rfl HS3.out (by have:=HLN.out;unfold maxLen;omega) (by have:=HLN.out;omega) (by have:=HBS.out;simp;omega) ?_));intro v' w' ho' hg' hb';have HO':=hW_ ho';have HB':=hW_ (((HB.out.alloc HB.out.size _).alloc (by have:=HBS.out;simp;omega) _).trans hb');clear ho' hg' hb';go_wp2_with (fail);go_roundw
   case rel=>exact⟨k+1,by omega,by go_num,by rw[sR,HLS.out];exact HO'.out,HB'.out⟩
   case measure=>simp[intOf];omega
  ·have HK:Hid (k=256):=hW_ (by omega);have hln:=zU k;obtain⟨Ls,hLs⟩:∃Ls,qG k=Ls:=⟨_,rfl⟩;rw[hLs]at ho hln;have HLS:Hid (qG 256=Ls):=hW_ (by rw[<-hLs,HK.out]);have HLN:Hid (Ls.length=256):=hW_ (by rw[hln,HK.out]);have HO:=hW_ ho;have HB:=hW_ hb;clear hLs hln ho hb;go_wp2_with (fail);go_loopw [6,27] (fun v i wr=>∃k:Nat,k<=mn/\i= .int .i64 k/\iA Rw.enc 2 115 wr wa.heap.size v (Ls++mK M k)/\Below wa.heap.size wa wr) (fun _ i _=>mn-(intOf i).toNat)
   case atStart=>exact⟨0,Nat.zero_le _,rfl,by simpa[mK]using HO.out,HB.out⟩
   case round=>
    obtain⟨k',hk,rfl,ho,hb⟩:=hrel;obtain⟨X,hX⟩:∃X,Ls++mK M k'=X:=⟨_,rfl⟩;have hxl:X.length=256+k':=by rw[<-hX,List.length_append,HLN.out,aDu]
    rw[hX]at ho;have HX:=hW_ hX;have HXL:=hW_ hxl;have HO:=hW_ ho;have HB:=hW_ hb;clear hX hxl ho hb
    by_cases hlt:k'<mn
    ·have hkM:k'<M.length:=by have:=HML.out;omega
     obtain⟨b,of,hao,hce⟩:=(HMR.out.below HB.out).at_ k' _ (by rw[List.getElem?_map,sB hkM];rfl);subst hao;obtain⟨s,hs⟩:∃s,tk M k'=s:=⟨_,rfl⟩;rw[hs]at hce;have HN:Hid (X++ [⟨s,256+(k':Int)⟩]=Ls++mK M (k'+1)):=hW_ (by rw[aAZ,<-List.append_assoc,HX.out,hs]);have hwr:IntKind.i64.wrap (256+(k':Int))=256+(k':Int):=by rw[IntKind.wrap_i64];omega
     have HBS:=hW_ HB.out.size;have HO3:Hid (iA Rw.enc 2 115 (wr.alloc (.cells #[.string s, .int .i64 (256+(k':Int))] 115)) wa.heap.size u6 X):=hW_ (HO.out.alloc _);have HS3:Hid (SlF 2 (wr.alloc (.cells #[.string s, .int .i64 (256+(k':Int))] 115)) (some ⟨wr.heap.size,0,none⟩) 1 1 (flat Rw.enc [⟨s,256+(k':Int)⟩])):=hW_ (SlF.one Rw.enc_len wr ⟨s,256+(k':Int)⟩ 115 (cs:=#[.string s, .int .i64 (256+(k':Int))]) rfl);clear hs hkM;go_wp2_with (at_builtin;go_loud (refine kA rfl _ _ 112 rfl i0 z0 24 Tryz.underlying112 hi hz0 hz1 hz2 hz3 Rw.enc_len (by omega) Rw.enc_oneL rfl HO3.out rfl HS3.out (by have:=HXL.out;unfold maxLen;omega) (by have:=HXL.out;omega) (by have:=HBS.out;simp;omega) ?_));intro v' w' ho' hg' hb';rw[HN.out]at ho';have HO':=hW_ ho';have HB':=hW_ ((HB.out.alloc HB.out.size _).trans hb');clear ho' hg' hb';go_wp2_with (fail);go_roundw
     case rel=>exact⟨k'+1,by omega,by go_num,HO'.out,HB'.out⟩
     case measure=>simp[intOf];omega
    ·obtain rfl:k'=mn:=by omega
     have HRF:Hid (X=qK M):=hW_ (by rw[<-HX.out,<-HLS.out,<-HML.out];rfl);rw[HRF.out]at HO;obtain⟨ro,rc,rfl,hrs⟩:=HO.out.sl;obtain⟨rn,hrn⟩:∃rn,(qK M).length=rn:=⟨_,rfl⟩;rw[hrn]at hrs |-;obtain⟨ws,hws⟩:∃ws,wr=ws:=⟨_,rfl⟩;rw[hws]at HO HB hrs |-;have HRS:=hW_ hrs;clear hws;obtain⟨wb,hwb⟩:∃wb,ws.alloc (.cells #[] 117)=wb:=⟨_,rfl⟩;have HWB:=hW_ hwb;have HBR:Hid (Below ws.heap.size ws wb):=hW_ (by rw[<-hwb];exact aA ws _);have HOS:Hid (iA Sp.enc 2 117 wb ws.heap.size (.slice (some ⟨ws.heap.size,0,none⟩) 0 0) []):=hW_ (by rw[<-hwb];exact iA.made0 ws);clear hrn hwb hrs;go_wp2_with (fail);rw[HWB.out];go_loopw [9,44] (fun v i wr2=>∃k2:Nat,k2<=nn/\i= .int .i64 k2/\iA Sp.enc 2 117 wr2 ws.heap.size v (gI M N k2)/\Below ws.heap.size ws wr2) (fun _ i _=>nn-(intOf i).toNat)
     case atStart=>exact⟨0,Nat.zero_le _,rfl,HOS.out,HBR.out⟩
     case round=>
      obtain⟨q,hq,rfl,ho,hb⟩:=hrel;obtain⟨Y,hY⟩:∃Y,gI M N q=Y:=⟨_,rfl⟩;have hyl:Y.length=q:=by rw[<-hY,aAV]
      rw[hY]at ho;have HY:=hW_ hY;have HYL:=hW_ hyl;have HO2:=hW_ ho;have HB2:=hW_ hb;have HBW:Hid (Below wa.heap.size wa wr):=hW_ (HB.out.trans (hb.mono HB.out.size));clear hY hyl ho hb
      by_cases hlt:q<nn
      ·have hqN:q<N.length:=by have:=HNL.out;omega
       obtain⟨b,of,hao,hce⟩:=(HNR.out.below HBW.out).at_ q _ (by rw[List.getElem?_map,sB hqN];rfl);subst hao;obtain⟨s,hs⟩:∃s,tk N q=s:=⟨_,rfl⟩;rw[hs]at hce;obtain⟨r,hr⟩:∃r:Nat,256+k'+q=r:=⟨_,rfl⟩;have HN:Hid (Y++ [⟨s,(r:Int)⟩]=gI M N (q+1)):=hW_ (by rw[qY,HY.out,hs,HML.out,<-hr];simp);have hwr:IntKind.i64.wrap (256+(k':Int))=256+(k':Int):=by rw[IntKind.wrap_i64];omega
       have hwr2:IntKind.i64.wrap (256+(k':Int)+(q:Int))=(r:Int):=by rw[IntKind.wrap_i64];omega
       have HBS:=hW_ HB2.out.size;have HO3:Hid (iA Sp.enc 2 117 (wr.alloc (.cells #[.string s, .int .i64 (r:Int)] 117)) ws.heap.size u9 Y):=hW_ (HO2.out.alloc _);have HS3:Hid (SlF 2 (wr.alloc (.cells #[.string s, .int .i64 (r:Int)] 117)) (some ⟨wr.heap.size,0,none⟩) 1 1 (flat Sp.enc [⟨s,(r:Int)⟩])):=hW_ (SlF.one Sp.enc_len wr ⟨s,(r:Int)⟩ 117 (cs:=#[.string s, .int .i64 (r:Int)]) rfl);clear hs hqN hr;go_wp2_with (at_builtin;go_loud (refine kA rfl _ _ 24 rfl j0 y0 24 Tryz.underlying24 hj hy0 hy1 hy2 hy3 Sp.enc_len (by omega) Sp.enc_oneL rfl HO3.out rfl HS3.out (by have:=HYL.out;unfold maxLen;omega) (by have:=HYL.out;omega) (by have:=HBS.out;simp;omega) ?_));intro v' w' ho' hg' hb';rw[HN.out]at ho';have HO':=hW_ ho';have HB':=hW_ ((HB2.out.alloc HB2.out.size _).trans hb');clear ho' hg' hb';go_wp2_with (fail);go_roundw
       case rel=>exact⟨q+1,by omega,by go_num,HO'.out,HB'.out⟩
       case measure=>simp[intOf];omega
      ·obtain rfl:q=nn:=by omega
       have HSF:Hid (Y=pK M N):=hW_ (by rw[<-HY.out,<-HNL.out];rfl);rw[HSF.out]at HO2;have HSL:Hid ((pK M N).length=q):=hW_ (by rw[<-HSF.out];exact HYL.out);obtain⟨so,sc,rfl,hss⟩:=HO2.out.sl;rw[HSL.out]at hss |-;have hfr:=nQ wr (HRS.out.below HB2.out) hss (fun r hr=>by
        rcases List.mem_append.1 hr with h | h
        ·obtain⟨b,_,rfl⟩:=yI h;show 1<=maxLen;unfold maxLen;omega
        ·unfold mK at h;obtain⟨i,hi,rfl⟩:=List.mem_map.1 h;exact HMS.out _ (qB (List.mem_range.1 hi))) (fun s hs=>by
        unfold pK gI at hs;obtain⟨i,hi,rfl⟩:=List.mem_map.1 hs;exact HNS.out _ (qB (List.mem_range.1 hi))) hnn
       have HX4:=hW_ ((HBW.out.block w.heap.size HSZ1.out).trans HXA.out);clear hss;go_wp2_with (fail);refine hfr.mono ?_
       rintro e w9 ⟨hpost,hb9⟩;have hx9:=(hb9.block w.heap.size (Array.getElem?_eq_some_iff.1 HX4.out).1).trans HX4.out;have HB9:Hid (Below w.heap.size w w9):=hW_ (HBA.out.trans ((HBW.out.trans (hb9.mono HBW.out.size)).mono HBA.out.size));obtain⟨c0,c1,c2⟩:=A4 hx9;have cf:∀o,w9.frozen? ⟨w.heap.size,o,none⟩=false:=by intro o;simp[World.frozen?,hx9]
       have HX9:=hW_ hx9;clear hb9 hx9 hfr;rcases hpost with⟨hg,⟨ta,tn,tc,ma,mn2,mc2,sa,sn,sc2⟩,rfl,hv⟩ | ⟨hg,rfl⟩
       ·have HV:=hW_ hv;have HG:=hW_ hg;clear hv hg;go_wp2_with (fail);refine bodyPost_ret (v:= .tuple #[Vd.val ⟨ta,tn,tc,ma,mn2,mc2,sa,sn,sc2⟩, .bool true]) ?_ rfl ⟨.inl ⟨HG.out,⟨ta,tn,tc,ma,mn2,mc2,sa,sn,sc2⟩,rfl,?_⟩,?_⟩
        ·simp[results,Tryz.results34,go_sem,Vd.val,c0,c1,c2]
        ·exact HV.out.notSl HX9.out (fun q hq=>(Below.heap_setCell _ _ _ _ hq).trans ((Below.heap_setCell _ _ _ _ hq).trans (Below.heap_setCell _ _ _ _ hq)))
        ·exact((HB9.out.setCell (p:=⟨w.heap.size,0,none⟩) (Nat.le_refl _) _).setCell (p:=⟨w.heap.size,1,none⟩) (Nat.le_refl _) _).setCell (p:=⟨w.heap.size,2,none⟩) (Nat.le_refl _) _
       ·have HG:=hW_ hg;clear hg;unfold kH Vd.val;go_wp2_with (fail);refine bodyPost_ret (v:= .tuple #[kH.val, .bool false]) ?_ rfl ⟨.inr ⟨HG.out,rfl⟩,?_⟩
        ·simp[results,Tryz.results34,go_sem,kH,Vd.val,c0,c1,c2]
        ·exact((HB9.out.setCell (p:=⟨w.heap.size,0,none⟩) (Nat.le_refl _) _).setCell (p:=⟨w.heap.size,1,none⟩) (Nat.le_refl _) _).setCell (p:=⟨w.heap.size,2,none⟩) (Nat.le_refl _) _
open Go
def abcS:ByteArray:=⟨#[97,98,99]⟩
def R1:List Rw:=R0++ [⟨abcS,257⟩]
def m1:Mg:=⟨256,99,257,257⟩
def T2:List ByteArray:=(List.range 256).map one++ [ByteArray.empty]
theorem I0:oA usR:=by unfold oA J6;decide +kernel
theorem Sl.lit6 (w:World) (vs:List Value) (cs:Array Value) (hcs:cs=vs.toArray) (g n:Nat) (hg:g=w.heap.size) (hn:n=vs.length) (hm:n<=100) (t:TypeId):
  Sl (w.alloc (.cells cs t)) (some ⟨g,0, .none⟩) n n vs:=by
 subst hg hn hcs;refine⟨rfl,Nat.le_refl _,by unfold maxLen;omega,fun h=>(by cases h),fun i u hu=>⟨_,_,rfl,?_⟩⟩;simp[hu]
theorem aDA {T:List Rg} (h:oA T):oA (D4 T):=by
 unfold D4;split
 ·exact I0
 ·exact h
theorem zP {V:Vc} {N:List ByteArray}:∀{ps:List (Int×Bool)} {A:List Int},jD ps A->mA V N A=0->(yA V N ps A).length<=A.length
 | [],A,_,_=>Nat.zero_le _
 | p::ps,A,h,hc=>by
  simp only[yA,List.length_append];have h1:=zP h.2.2.2 (nA hc p.1.toNat).2;have h2:=(fJ (nA hc p.1.toNat).1 h.2.2.1).2;rw[List.length_drop]at h1;rw[List.length_take]at h2;have:=h.2.1;omega
theorem nU {V:Vc} {N:List ByteArray} {kind:Int} {T:List Rg} (hT:oA T) {A:List Int} (hc:mA V N A=0):(B5 V N kind T A).length<=A.length:=zP (pG hT hc) hc
theorem sS (X Y:List Int):∀R:List Int,wA (R++X) (R++Y)=R.length+wA X Y
 | []=>by simp
 | r::R=>by
  show(if r=r then wA (R++X) (R++Y)+1 else 0)=_;rw[if_pos rfl,sS X Y R,List.length_cons];omega
theorem aCU (R X Y:List Int):(R++X).length-wA (R++X) (R++Y)=X.length-wA X Y/\(R++Y).drop (wA (R++X) (R++Y))=Y.drop (wA X Y):=by
 rw[sS];refine⟨by rw[List.length_append];omega,?_⟩;rw[<-List.drop_drop,List.drop_left]
def Inc (S:List Stp):Prop:=S.Pairwise (fun x y=>x.fin<y.fin)
theorem aCx:∀{S:List Stp} {lo n:Nat},Inc S->(∀x∈S,lo<=x.fin/\x.fin<=n)->S.length<=n+1-lo
 | [],lo,n,_,_=>Nat.zero_le _
 | x::l,lo,n,h,hb=>by
  obtain⟨h1,h2⟩:=List.pairwise_cons.1 h;have hx:=hb x (by simp);have:=aCx (S:=l) (lo:=x.fin+1) (n:=n) h2 (fun y hy=>⟨h1 y hy,(hb y (by simp[hy])).2⟩);rw[List.length_cons];omega
theorem Inc.filter {S:List Stp} (h:Inc S) (p:Stp->Bool):Inc (S.filter p):=List.Pairwise.filter p h
theorem inc_more {S Z:List Stp} {n:Nat} (h:Inc S) (hs:∀x∈S,x.fin<=n) (hz:Inc Z) (hn:∀x∈Z,n<x.fin):Inc (S++Z):=
 List.pairwise_append.2 ⟨h,hz,fun x hx y hy=>by have:=hs x hx;have:=hn y hy;omega⟩
theorem last_max {S:List Stp} {a t:Nat} (h:Inc S):∀x∈S,x.fin<=(wJ S a t).fin:=by
 rcases List.eq_nil_or_concat S with rfl | ⟨M,s,rfl⟩
 ·intro x hx;cases hx
 ·intro x hx;rw[List.concat_eq_append]at h hx |-;have e:wJ (M++ [s]) a t=s:=by unfold wJ;simp
  rw[e];rcases List.mem_append.1 hx with hx | hx
  ·exact Nat.le_of_lt ((List.pairwise_append.1 h).2.2 x hx s (by simp))
  ·obtain rfl:x=s:=by simpa using hx
   exact Nat.le_refl _
section
variable {V:Vc} {N:List ByteArray} {kind:Int} {T:List Rg} {A W B:List Int} {f a t bs st keep m:Nat} {S:List Stp} {Sv:List Int} {s:Stp}
theorem aDF {S:List Stp} {a t m:Nat}:(wJ (S.filter (fun s=>decide (s.need<=m))) a t).need<=m:=by
 unfold wJ
 cases h:(S.filter (fun s=>decide (s.need<=m))).getLast? with
 | none=>exact Nat.zero_le _
 | some s=>simpa using(List.mem_filter.1 (List.mem_of_getLast? h)).2
theorem TkI.fins (hI:TkI V N kind T A W f a t bs st keep false S Sv):∀x∈S,x.fin<=A.length:=fun x hx=>by
 have hk:=hI.steps rfl x hx;have hl:=hk.bd.1;rw[List.length_take]at hl;omega
theorem TkI.slen (hI:TkI V N kind T A W f a t bs st keep false S Sv) (hInc:Inc S):S.length<=A.length+1:=
 aCx (lo:=0) (n:=A.length) hInc (fun x hx=>⟨Nat.zero_le _,hI.fins x hx⟩)
structure TrnOk (V:Vc) (N:List ByteArray) (kind:Int) (T:List Rg) (A W B A' W':List Int) (f a t bs st keep m:Nat) (S0:List Stp) (Sv':List Int) (s:Stp) (X Y:List Int):Prop where
 chk:mA V N A'=0
 lo:st<=s.fin/\s.fin<=A'.length
 base:bs<=t/\t<=s.toks
 view:W=W.take s.toks++X
 wl:s.toks<=W.length/\W.length<=100000
 at_:a<=s.fin/\s.fin<=1000000/\s.need<=1000000
 sl:S0.length+A'.length<=1000000
 bd:Bd V N kind T A' s.fin s.toks
 start:(st:Int)=pC V N (W.take bs)
 sum:pC V N (W.take s.toks)=s.fin
 next:W.take s.toks++Y=W'
 ed:W.length-wA W W'=X.length-wA X Y/\W'.drop (wA W W')=Y.drop (wA X Y)
 tk:∀Z:List Stp,Z.Pairwise (fun x y=>x.fin<y.fin)->(∀x∈Z,oI V N kind T A' a t x/\s.fin<x.fin)->TkI V N kind T A' W' f a t bs st keep false (S0++Z) Sv'/\Inc (S0++Z)
theorem trn_ok (hI:TkI V N kind T A W f a t bs st keep false S Sv) (hInc:Inc S) (hT:oA T) (hm:f<=m/\m<=A.length) (hB:mA V N B=0) (hA:A.length<=70000) (hl:m+B.length<=70000)
  (hs:wJ (S.filter (fun s=>decide (s.need<=m))) a t=s):
  TrnOk V N kind T A W B (A.take m++B) (B5 V N kind T (A.take m++B)) f a t bs st keep m (S.filter (fun s=>decide (s.need<=m))) (Sv.filter (fun x=>!decide (x>(m:Int)))) s (B5 V N kind T (A.drop s.fin)) (B5 V N kind T ((A.take m++B).drop s.fin)):=by
 have hF:From V N kind T A a t m s:=hs▸aDG hI.chk hm.1 hm.2 hI.at_ (hI.bd rfl) (hI.steps rfl);have hneed:s.need<=m:=hs▸aDF;obtain⟨R,hR,hRs,e1,e2,hbd⟩:=hF.part hI.chk hm.2 hB;have hAl:(A.take m++B).length=m+B.length:=by rw[List.length_append,List.length_take];omega
 have hW:W=R++B5 V N kind T (A.drop s.fin):=hI.view.trans e1;have hWt:W.take s.toks=R:=by rw[hW,<-hR,List.take_left]
 have hWl:W.length<=A.length:=by rw[hI.view];exact nU hT hI.chk
 have hst:=hI.st_le;have hsl:=hI.slen hInc;have hf:=List.length_filter_le (fun s:Stp=>decide (s.need<=m)) S;have hfin:=hF.fin;have htok:=hF.toks;have hRl:R.length<=W.length:=by rw[hW,List.length_append];omega
 have hmax:=last_max (a:=a) (t:=t) (hInc.filter (fun s:Stp=>decide (s.need<=m)));rw[hs]at hmax;refine⟨jL (nA hI.chk m).1 hB,⟨by omega,by omega⟩,⟨by rw[hI.base];omega,htok⟩,by rw[hWt];exact hW,⟨by omega,by omega⟩,⟨hfin.1,by omega,by omega⟩,by omega,hbd,by rw[hI.start],by rw[hWt];exact hRs,by rw[hWt];exact e2.symm,?_,fun Z hz hZ=> ?_⟩
 ·rw[e2,hW];exact aCU R _ _
 ·refine⟨hI.turned hm.1 hm.2 hB (fun x hx=> ?_) ⟨hI.saves.1.filter _,fun x hx=> ?_⟩,inc_more (hInc.filter _) hmax hz (fun x hx=>(hZ x hx).2)⟩
  ·rcases List.mem_append.1 hx with hx | hx
   ·obtain⟨h1,h2⟩:=List.mem_filter.1 hx;exact(hI.steps rfl x h1).keep (by simpa using h2) (by rw[List.take_append_of_le_length (by rw[List.length_take];omega),List.take_take,Nat.min_self]) (by omega)
   ·exact(hZ x hx).1
  ·obtain⟨h1,h2⟩:=List.mem_filter.1 hx;have h3:=(hI.saves.2 x h1).1;have h4:¬x>(m:Int):=by simpa using h2
   exact⟨h3,by omega⟩
end
theorem aBa {m h i j:Nat} (hij:i<j) (hj:j<i+m):(h+i) % m≠(h+j) % m:=by
 intro e;have h1:=Nat.sub_mod_eq_zero_of_mod_eq e.symm;have h2:h+j-(h+i)=j-i:=by omega
 rw[h2,Nat.mod_eq_of_lt (by omega)]at h1;omega
theorem rot_at {α:Type} {B:List α} {m h:Nat} (hl:B.length=m) (hh:h<=m) {i:Nat} (hi:i<m):(B.drop h++B.take h)[i]?=B[(h+i) % m]? :=by
 by_cases c:h+i<m
 ·rw[List.getElem?_append_left (by simp;omega),List.getElem?_drop,Nat.mod_eq_of_lt c]
 ·rw[List.getElem?_append_right (by simp;omega),List.length_drop,List.getElem?_take,if_pos (by omega)];have h2:(h+i) % m=h+i-m:=by rw[Nat.mod_eq_sub_mod (by omega),Nat.mod_eq_of_lt (by omega)]
  rw[h2];congr 1;omega
theorem aDU {L:List (Int×Int)} {i:Nat} (hi:i<L.length) (x:Int×Int):((flat plE L).set (i*2) (.int .i64 x.1)).set (i*2+1) (.int .i64 x.2)=flat plE (L.set i x):=by
 apply List.ext_getElem?;intro k;have hl:=lB lC L;obtain⟨q,r,hr,rfl⟩:∃q r,r<2/\k=q*2+r:=⟨k / 2,k % 2,Nat.mod_lt _ (by omega),by omega⟩
 by_cases hq:q<L.length
 ·have hx:(L.set i x)[q]?=some (if i=q then x else L[q]):=by
   rw[List.getElem?_set];split
   ·rename_i h;subst h;simp
   ·simp[hq]
  rw[yD lC hx hr];have hL:L[q]?=some L[q]:=by simp[hq]
  have h2:=yD lC hL hr;simp only[List.getElem?_set,List.length_set]
  by_cases e:i=q
  ·subst e;rw[if_pos rfl];rcases(by omega:r=0\/r=1)with rfl | rfl<;>simp[plE]<;>omega
  ·rw[if_neg (by omega),if_neg (by omega),if_neg e];exact h2
 ·rw[List.getElem?_eq_none (by simp only[List.length_set];omega),List.getElem?_eq_none (by rw[lB lC];simp only[List.length_set];omega)]
section
variable {e:TypeId} {w:World} {base b n c:Nat} {L:List (Int×Int)}
theorem pl_row (h:iA plE 2 e w base (.slice (some ⟨b,0,none⟩) n c) L):n=L.length/\w.ownsRow base e 2 (.slice (some ⟨b,0,none⟩) n c) n (flat plE L):=by
 obtain⟨ao,cap,e0,_⟩:=h.sl;obtain⟨_,hn,_⟩:=Value.slice.inj e0;have:=h;unfold iA at this;rw[<-hn]at this;exact⟨hn,this⟩
theorem pl_put (h:iA plE 2 e w base (.slice (some ⟨b,0,none⟩) n c) L) {i:Nat} (hi:i<L.length) (x:Int×Int):
  iA plE 2 e ((w.setCell ⟨b,i*2,none⟩ (.int .i64 x.1)).setCell ⟨b,i*2+1,none⟩ (.int .i64 x.2)) base (.slice (some ⟨b,0,none⟩) n c) (L.set i x):=by
 obtain⟨hn,h0⟩:=pl_row h;obtain⟨h1,g1⟩:=World.ownsRow.stored h0 (i*2) (.int .i64 x.1);obtain⟨h2,g2⟩:=World.ownsRow.stored h1 (i*2+1) (.int .i64 x.2);rw[aDU hi x]at h2;unfold iA;rw[List.length_set,<-hn];exact h2
theorem qN (h:iA plE 2 e w base (.slice (some ⟨b,0,none⟩) n c) L) {i:Nat} {x:Int×Int} (hi:L[i]?=some x):
  w.cell? ⟨b,i*2,none⟩=some (.int .i64 x.1)/\w.cell? ⟨b,i*2+1,none⟩=some (.int .i64 x.2)/\∀o,w.frozen? ⟨b,o,none⟩=false:=by
 obtain⟨hn,h0⟩:=pl_row h;have hl:=(List.getElem?_eq_some_iff.1 hi).1;refine⟨?_,?_,World.ownsRow.frozenAt h0⟩
 ·rw[World.ownsRow.cellAt h0 _ (by omega)];have:=yD lC hi (j:=0) (by omega);rw[Nat.add_zero]at this;rw[this];rfl
 ·rw[World.ownsRow.cellAt h0 _ (by omega),yD lC hi (j:=1) (by omega)];rfl
end
theorem oT {P:Program} (w:World) (dT sT ty elem:TypeId) (g o dLen dCap:Nat) (a:Addr) (sLen sCap:Nat) (cur:Array Value) (t:TypeId) (cs:List Value) {s:Nat}
  (hu:P.underlying dT=some (.slice elem)) (hs:(P.info? elem).map (·.size)=some s) (hg:w.heap[g]?=some (.cells cur t (0,0))) (hle:sLen<=dLen) (hn:cs.length=sLen*s)
  (hsrc:∀j v,cs[j]?=some v->w.cell? (a.add j)=some v) (hfit:o+cs.length<=cur.size) (h1:∀v∈cs,v.oneCell'=true):
  (Builtin.copy_ #[dT,sT] ty #[.slice (some ⟨g,o,none⟩) dLen dCap, .slice (some a) sLen sCap]).run P w= .ok (goInt sLen) (w.setRow g (cur.toList.take o++cs++cur.toList.drop (o+cs.length)).toArray):=by
 have hl:=run_loadCells_list (P:=P) w a cs hsrc;have hst:=run_storeCells_at P g o t cs 0 cur w hg (by simpa using hfit) h1;have hm:Nat.min sLen dLen=sLen:=Nat.min_eq_left hle
 cases hq:P.info? elem with
 | none=>simp[hq]at hs
 | some i=>
  have hi:i.size=s:=by simpa[hq]using hs
  simp[Builtin.copy_,run_underlying hu,Builtin.lenOf,Builtin.firstCells,sizeOf,typeInfo,hq,hi,hm,<-hn,hl,hst]
theorem rR {P:Program} (w:World) (dT sT ty elem:TypeId) (g o dLen dCap:Nat) (sCap:Nat) {s:Nat} (so:Option Addr)
  (hu:P.underlying dT=some (.slice elem)) (hs:(P.info? elem).map (·.size)=some s):
  (Builtin.copy_ #[dT,sT] ty #[.slice (some ⟨g,o,none⟩) dLen dCap, .slice so 0 sCap]).run P w= .ok (goInt 0) w:=by
 have hm:Nat.min 0 dLen=0:=Nat.min_eq_left (Nat.zero_le _)
 cases hq:P.info? elem with
 | none=>simp[hq]at hs
 | some i=>
  cases so with
  | none=>simp[Builtin.copy_,run_underlying hu,Builtin.lenOf,Builtin.firstCells,sizeOf,typeInfo,hq,storeCells]
  | some a=>
   have hl:=run_loadCells_list (P:=P) w a [] (fun j v h=>by simp at h);have hl2:(loadCells a 0).run P w= .ok #[] w:=by simpa using hl
   simp[Builtin.copy_,run_underlying hu,Builtin.lenOf,Builtin.firstCells,sizeOf,typeInfo,hq,storeCells,hl2]
theorem yO {P:Program} {w:World} {dT sT elem:TypeId} (ty:TypeId) {s:Nat} (hu:P.underlying dT=some (.slice elem)) (hs:(P.info? elem).map (·.size)=some s)
  {g off dLen dCap sLen sCap:Nat} {so:Option Addr} {cur:List Value} {t':TypeId} (hg:w.heap[g]?=some (.cells cur.toArray t' (0,0))) {cs:List Value} (hsl:SlF s w so sLen sCap cs) (hle:sLen<=dLen) (hfit:off+cs.length<=cur.length) (h1:∀v∈cs,v.oneCell'=true):
  ∃w',(Builtin.copy_ #[dT,sT] ty #[.slice (some ⟨g,off,none⟩) dLen dCap, .slice so sLen sCap]).run P w= .ok (goInt sLen) w'/\w'.heap[g]?=some (.cells (cur.take off++cs++cur.drop (off+cs.length)).toArray t' (0,0))/\
   w'.os=w.os/\w'.tape=w.tape/\w'.output=w.output/\w'.heap.size=w.heap.size/\∀q,q≠g->w'.heap[q]?=w.heap[q]? :=by
 have hn:=hsl.len
 by_cases h0:sLen=0
 ·subst h0;obtain rfl:cs= []:=List.eq_nil_of_length_eq_zero (by rw[hn,Nat.zero_mul]);exact⟨w,rR (P:=P) w dT sT ty elem g off dLen dCap sCap so hu hs,by simpa using hg,rfl,rfl,rfl,rfl,fun _ _=>rfl⟩
 ·have hso:∃ad,so=some ad:=by
   cases so with
   | none=>have:=hsl.nil rfl;have:=hsl.le;omega
   | some ad=>exact⟨ad,rfl⟩
  obtain⟨ad,rfl⟩:=hso;have hr:=oT (P:=P) w dT sT ty elem g off dLen dCap ad sLen sCap cur.toArray t' cs hu hs hg hle hn (fun j u hu=>by
   obtain⟨b,of,e,hc⟩:=hsl.at_ j u hu;obtain rfl:=Option.some.inj e;rw[Addr.add_lit];exact hc) (by simpa using hfit) h1
  refine⟨_,hr,?_,rfl,rfl,rfl,by simp[World.setRow],fun q hq=>setRow_other w g q _ hq⟩;exact setRow_heap w g cur.toArray (cur.take off++cs++cur.drop (off+cs.length)).toArray t' (0,0) hg
theorem infoPl:(Tryz.prog.info? 140).map (fun i=>(i.zero,i.size,i.bytes))=some (some (.agg #[.int .i64 0, .int .i64 0]),2,16):=by kernel_rfl
theorem made2 (k:Nat) (x:Value):madeCells #[x,x] k=(List.replicate k x).toArray:=by
 apply Array.ext
 ·simp[madeCells]
 ·intro i h1 h2;have:i % 2=0\/i % 2=1:=by omega
  rcases this with e | e<;>simp[madeCells,e]
theorem aCa:∀{L:List (Int×Int)},∀v∈flat plE L,v.oneCell'=true:=by
 intro L v hv;obtain⟨p,_,hp⟩:=List.mem_flatMap.1 hv;simp[plE]at hp;rcases hp with rfl | rfl<;>rfl
theorem J9 {P:Program} {w:World} {ops:Array Oper} {o:Oper} {a:Act} {K:Act->World->Prop} {Q:Exit->Act->World->Prop} {E:Prop} (hgd:o.guard= .none) (d x:Operand) (t elem:TypeId) {s:Nat}
  (ho:o.op= .call {callee:= .builtin .copy,args:=#[d,x],argTypes:=#[t,t]}) (hu:P.underlying t=some (.slice elem)) (hs:(P.info? elem).map (·.size)=some s)
  {g off dLen dCap sLen sCap:Nat} {so:Option Addr} (hd:a.eval d= .slice (some ⟨g,off,none⟩) dLen dCap) (hx:a.eval x= .slice so sLen sCap)
  {cur:List Value} {t':TypeId} (hg:w.heap[g]?=some (.cells cur.toArray t' (0,0))) {cs:List Value} (hsl:SlF s w so sLen sCap cs) (hle:sLen<=dLen) (hfit:off+cs.length<=cur.length) (h1:∀v∈cs,v.oneCell'=true)
  (h:∀w',w'.heap[g]?=some (.cells (cur.take off++cs++cur.drop (off+cs.length)).toArray t' (0,0))->w'.os=w.os->w'.tape=w.tape->w'.output=w.output->w'.heap.size=w.heap.size->(∀q,q≠g->w'.heap[q]?=w.heap[q]?)->
   K (a.put o.dst (goInt sLen)) w'):if Region.wanted o (yielded ops a.tmps)=true then Oper.wp P o a w K Q else E:=by
 have hw:Region.wanted o (yielded ops a.tmps)=true:=by simp[Region.wanted,hgd]
 rw[if_pos hw];obtain⟨w',hr,h2,h3,h4,h5,h6,h7⟩:=yO (P:=P) (sT:=t) o.type hu hs hg hsl hle hfit h1 (dCap:=dCap);unfold Oper.wp;simp[execOp,ho,resolve,invoke,builtin,hd,hx,hr,Result.andThen];exact h w' h2 h3 h4 h5 h6 h7
theorem flat_rep (k:Nat):flat plE (List.replicate k (0,0))=List.replicate (k*2) (.int .i64 0):=by
 induction k with
 | zero=>rfl
 | succ k ih=>
  rw[List.replicate_succ,xD,ih,show(k+1)*2=k*2+1+1 by omega,List.replicate_succ,List.replicate_succ];rfl
theorem RgB.slf {w:World} {base g:Nat} {o:Option Addr} {m c h n:Nat} {from_:Int} {B:List (Int×Int)} (hb:RgB w base g o m c h n from_ B):SlF 2 w o m c (flat plE B):=by
 obtain⟨o1,cc1,ev,hsl⟩:=hb.own.sl;obtain⟨e1,e0,e2⟩:=Value.slice.inj ev;rw[<-e0,<-e1,<-e2]at hsl;exact hsl
theorem add0 (x:Addr):x.add 0=x:=by
 obtain⟨b,o,k⟩:=x
 cases k<;>simp[Addr.add]
theorem aW {w:World} {base g:Nat} {o:Option Addr} {c h n:Nat} {from_:Int} {B:List (Int×Int)} (hb:RgB w base g o n c h n from_ B) (hn:n<1048576):
  Calls Tryz.prog 197 #[.pointer (some ⟨g,0,none⟩)] w fun E w'=>E= .returned (.tuple #[])/\
   ∃m' B',RgB w' base g (some ⟨w.heap.size,0,none⟩) m' m' 0 n from_ B'/\n<m'/\(∀i,i<n->B'[i]?=B[(h+i) % n]?)/\dA (fun q=>q=g) w w':=by
 obtain⟨c0,c1,c2,c3,c4,cf⟩:=uC hb.box;obtain⟨m,hm⟩:∃m,min 1048576 (max 8 (2*n))=m:=⟨_,rfl⟩;have hnm:n<m:=by omega
 have hm2:m<=1048576:=by omega
 have hmul:IntKind.i64.wrap (2*(n:Int))=2*(n:Int):=by rw[IntKind.wrap_i64];omega
 have hmm:min (1048576:Int) (max 8 (2*(n:Int)))=(m:Int):=by omega
 obtain⟨i0,hi,hz0,hz1,hz2⟩:=info_parts infoPl;have HMK:∀W,(Instr.makeSlice 185 (.int .i64 (m:Int)) (.int .i64 (m:Int))).run Tryz.prog W= .ok (.slice (some ⟨W.heap.size,0,none⟩) m m) (W.alloc (.cells (madeCells #[.int .i64 0, .int .i64 0] (m*2)) 140)):=fun W=>by
  have:=run_make (P:=Tryz.prog) W 185 140 i0 _ Tryz.underlying185 hi hz0 .i64 .i64 m m (by omega) (by omega) (by rw[hz2];omega) (by omega);rw[hz1]at this;exact this
 have hsz2:(Tryz.prog.info? 140).map (·.size)=some 2:=by rw[hi];simp[hz1]
 have hh:h<=n:=by rcases hb.hd with h0 | h0<;>omega
 have hBl:=hb.len;have hgl:=(Array.getElem?_eq_some_iff.1 hb.box).1;have hsl:SlF 2 w o n c (flat plE B):=by
  obtain⟨o1,cc1,ev,hsl⟩:=hb.own.sl;obtain⟨e1,e0,e2⟩:=Value.slice.inj ev;rw[<-e0,<-e1,<-e2]at hsl;exact hsl
 have hnc:=hsl.le;obtain⟨j,hj⟩:∃j,n-h=j:=⟨_,rfl⟩;have hjm:j<=m:=by omega
 obtain⟨w1,hw1⟩:∃w1,(w.alloc (.cells (madeCells #[.int .i64 0, .int .i64 0] (m*2)) 140)).drew=w1:=⟨_,rfl⟩;have hb1:Below w.heap.size w w1:=hw1▸(aA w _).drew;have hs1:w1.heap.size=w.heap.size+1:=by rw[<-hw1];simp
 have hx1:w1.heap[w.heap.size]?=some (.cells (List.replicate (m*2) (.int .i64 0)).toArray 140 (0,0)):=by
  rw[<-hw1,<-made2];exact heap_alloc_new w _
 have hxg:=(hb1.block g hgl).trans hb.box;obtain⟨d0,d1,d2,d3,d4,df⟩:=uC hxg;have hS1:=hsl.below hb1;have hlen2:(flat plE (B.drop h)).length=j*2:=by rw[lB lC,List.length_drop,hBl,hj]
 have hlen3:(flat plE (B.take h)).length=h*2:=by rw[lB lC,List.length_take,hBl,Nat.min_eq_left hh]
 obtain⟨so,hso⟩:∃so,(if c=h then o else o.map (·.add (h*2)))=so:=⟨_,rfl⟩;have hRA:∀W,(Instr.sliceAt 185 (.slice o n c) (some (.int .i64 (h:Int))) none none).run Tryz.prog W= .ok (.slice so j (c-h)) W:=fun W=>by
  have:=tA Tryz.underlying185 hi W o n c (some (.int .i64 (h:Int))) none h n (fun w=>by simp[Instr.sliceBounds,run_sliceBound,hh]);rw[hz1,hso,hj]at this;exact this
 have hRB:∀W,(Instr.sliceAt 185 (.slice o n c) none (some (.int .i64 (h:Int))) none).run Tryz.prog W= .ok (.slice o h c) W:=fun W=>by
  have:=tA Tryz.underlying185 hi W o n c none (some (.int .i64 (h:Int))) 0 h (fun w=>by simp[Instr.sliceBounds,run_sliceBound,Nat.le_trans hh hnc]);simp only[Nat.zero_mul,Nat.sub_zero]at this;rw[this];split
  ·rfl
  ·cases o<;>simp[add0]
 have hRC:∀W,(Instr.sliceAt 185 (.slice (some ⟨w.heap.size,0,none⟩) m m) (some (.int .i64 (j:Int))) none none).run Tryz.prog W= .ok (.slice (some ⟨w.heap.size,j*2,none⟩) (m-j) (m-j)) W:=fun W=>by
  have:=tA Tryz.underlying185 hi W (some ⟨w.heap.size,0,none⟩) m m (some (.int .i64 (j:Int))) none j m (fun w=>by simp[Instr.sliceBounds,run_sliceBound,hjm]);rw[hz1,if_neg (by omega)]at this;simpa[Addr.add_lit]using this
 have hDA:SlF 2 w1 so j (c-h) (flat plE (B.drop h)):=by
  rw[aP lC,<-hj,<-hso];exact hS1.drop hh
 have HDA:=hW_ hDA;have HX1:=hW_ hx1;have HXG:=hW_ hxg;have HL:=hW_ (And.intro hlen2 hlen3);have HS:=hW_ hS1;have HW1:=hW_ hw1;have HB:=hW_ hb;have HS1:=hW_ hs1;have HB1:=hW_ hb1;have HJ:=hW_ (And.intro hj (And.intro hh (And.intro hgl hm2)));clear hsl hS1 hDA hlen2 hlen3 hx1 hw1 hb hs1 hb1 hxg hso hj hh hgl hm hBl d0 d1 d2 d3 d4 df;go_enter Tryz.func197,Tryz.ntmps197;go_wp2_with (fail);go_region;go_wp2_with (fail);rw[HW1.out];clear c0 c1 c2 c3 c4 cf;obtain⟨d0,d1,d2,d3,d4,df⟩:=uC HXG.out;refine dR ?kyP ?kfP ?khP
 case kfP=>
  intro key
  go_region_law (refine J9 (by rfl) _ _ 185 140 (by rfl) Tryz.underlying185 hsz2 (by rfl) (by rfl) (by exact HX1.out) (by exact HDA.out.drew) hjm (by rw[HL.out.1,List.length_replicate];omega) aCa ?_;intro w2 hx2 ho2 ht2 hp2 hs2 hk2)
  all_goals(revert w2;exact key.out)
 intro w2 hx2 ho2 ht2 hp2 hs2 hk2;obtain⟨hj,hh,hgl,hm2⟩:=HJ.out;have hx2':w2.heap[w.heap.size]?=some (.cells (flat plE (B.drop h)++List.replicate (m*2-j*2) (Value.int .i64 0)).toArray 140 (0,0)):=by
  rw[hx2,List.take_zero,List.nil_append,List.drop_replicate,Nat.zero_add,HL.out.1]
 have hS2:SlF 2 w2 o h c (flat plE (B.take h)):=by
  rw[dL lC];refine(HS.out.take hh).keep0 (fun ad e h0=>hk2 _ ?_);have:=(HB.out.slf).lt (by omega) ad e (by omega);omega
 have hg2:w2.heap[g]?=_:=(hk2 g (by omega)).trans HXG.out
 have HX2:=hW_ hx2';have HS2:=hW_ hS2;have HG2:=hW_ hg2;have HK2:=hW_ (And.intro ho2 (And.intro ht2 (And.intro hp2 (And.intro hs2 hk2))));have hhm:h<=m-j:=by omega
 have hfit:j*2+(flat plE (B.take h)).length<=(flat plE (B.drop h)++List.replicate (m*2-j*2) (Value.int .i64 0)).length:=by rw[List.length_append,HL.out.1,HL.out.2,List.length_replicate];omega
 have HFT:=hW_ hfit;clear hfit hx2 hx2' hS2 hg2 ho2 ht2 hp2 hs2 hk2 hj hh hgl hm2 d0 d1 d2 d3 d4 df;obtain⟨d0,d1,d2,d3,d4,df⟩:=uC HG2.out;go_wp2_with (fail);refine dR ?kyQ ?kfQ ?khQ
 case kfQ=>
  intro key
  go_region_law (refine J9 (by rfl) _ _ 185 140 (by rfl) Tryz.underlying185 hsz2 (by rfl) (by rfl) (by exact HX2.out) (by exact HS2.out.drew) hhm HFT.out aCa ?_;intro w3 hx3 ho3 ht3 hp3 hs3 hk3)
  all_goals(revert w3;exact key.out)
 intro w3 hx3 ho3 ht3 hp3 hs3 hk3;obtain⟨hj,hh,hgl,hm2⟩:=HJ.out;have hz0:List.drop (j*2+h*2) (flat plE (B.drop h))= []:=List.drop_eq_nil_of_le (by rw[HL.out.1];omega);have hx3':w3.heap[w.heap.size]?=some (.cells (flat plE (B.drop h++B.take h++List.replicate (m-n) (0,0))).toArray 140 (0,0)):=by
  rw[hx3,List.take_left' HL.out.1,HL.out.2,List.drop_append,hz0,List.nil_append,HL.out.1,List.drop_replicate,cB,cB];have e:m*2-j*2-(j*2+h*2-j*2)=(m-n)*2:=by omega
  rw[e,flat_rep]
 have hg3:w3.heap[g]?=_:=(hk3 g (by omega)).trans HG2.out
 have HX3:=hW_ hx3';have HG3:=hW_ hg3;have HK3:=hW_ (And.intro ho3 (And.intro ht3 (And.intro hp3 (And.intro hs3 hk3))));clear hx3 hx3' hg3 ho3 ht3 hp3 hs3 hk3 hj hh hgl hm2 d0 d1 d2 d3 d4 df;obtain⟨d0,d1,d2,d3,d4,df⟩:=uC HG3.out;have dg:=fun o=>Option.some.inj (df o)
 clear df;go_wp2_with (fail)
 go_end0
 obtain⟨hj,hh,hgl,hm2⟩:=HJ.out;have hbl:=HB.out.len;refine⟨rfl,m,B.drop h++B.take h++List.replicate (m-n) (0,0),⟨?_,?_,?_,?_,HB.out.lo, .inl rfl,by omega,hm2⟩,hnm,fun i hi=> ?_,?_⟩
 ·exact rA (i:=1) (rA (i:=0) HG3.out)
 ·have hl:(B.drop h++B.take h++List.replicate (m-n) ((0:Int),(0:Int))).length=m:=by simp;omega
  refine⟨lB lC _, .inr ⟨w.heap.size,m,(flat plE (B.drop h++B.take h++List.replicate (m-n) (0,0))).toArray,by rw[hl],?_,?_,by omega,by unfold maxLen;omega,by show(flat plE _).length=_;rw[lB lC,hl],?_⟩⟩
  ·have:=HB.out.lo;omega
  ·rw[cA (by omega),cA (by omega)];exact HX3.out
  ·rw[<-lB lC,List.take_length]
 ·simp;omega
 ·simp[Value.ownBlock];omega
 ·rw[List.getElem?_append_left (by simp;omega),rot_at hbl hh hi]
 ·have k2:=HK2.out;have k3:=HK3.out;have k1:=HB1.out;have s1:=HS1.out;have t1:w2.heap.size=w1.heap.size:=k2.2.2.2.1;have t2:w3.heap.size=w2.heap.size:=k3.2.2.2.1;refine⟨k3.1.trans (k2.1.trans k1.os),k3.2.1.trans (k2.2.1.trans k1.tape),k3.2.2.1.trans (k2.2.2.1.trans k1.output),by simp;omega,fun q hq hz=> ?_⟩;rw[cA hz,cA hz];exact(k3.2.2.2.2 q (by omega)).trans ((k2.2.2.2.2 q (by omega)).trans (k1.block q hq))
end Go.Proofs.YtahiballegpbgaaGreatDoor
