/- Walk: the vocabulary of the bytes and of some more tokens and names. -/
import Derived.Test.YtimkkkdabmhedaaGreatDoorF10
import Derived.Test.YtimkkkdabmhedaaGreatDoorF41
import Derived.Test.YtimkkkdabmhedaaGreatDoorF25
import Derived.Test.YtimkkkdabmhedaaGreatDoorF20
import Derived.Test.YtimkkkdabmhedaaGreatDoorF36
import Derived.Test.YtimkkkdabmhedaaGreatDoorF33
import Derived.Test.YtimkkkdabmhedaaGreatDoorF40
import Derived.Test.YtimkkkdabmhedaaGreatDoorF35
set_option linter.unusedVariables false
set_option maxHeartbeats 2000000
set_option maxRecDepth 100000
namespace Go.Proofs.YtimkkkdabmhedaaGreatDoor
open Go.RowKit
theorem infoRwL:(Tryz.prog.info? 123).map (fun i=>(i.zero.map (·.cells.size),i.size,i.bytes))=some (some 2,2,24):=by kernel_rfl
theorem infoSpL:(Tryz.prog.info? 58).map (fun i=>(i.zero.map (·.cells.size),i.size,i.bytes))=some (some 2,2,24):=by kernel_rfl
theorem Rw.enc_oneL (x:Rw):∀v∈x.enc,v.oneCell'=true:=by
 intro v hv;simp[Rw.enc]at hv;rcases hv with rfl | rfl<;>rfl
theorem Sp.enc_oneL (x:Sp):∀v∈x.enc,v.oneCell'=true:=by
 intro v hv;simp[Sp.enc]at hv;rcases hv with rfl | rfl<;>rfl
def kJ (M:List ByteArray) (k:Nat):List Rw:=(List.range k).map fun i=>⟨tk M i,256+(i:Int)⟩
def eI (M N:List ByteArray) (k:Nat):List Sp:=(List.range k).map fun i=>⟨tk N i,256+(M.length:Int)+(i:Int)⟩
def bK (M:List ByteArray):List Rw:=lG 256++kJ M M.length
def aK (M N:List ByteArray):List Sp:=eI M N N.length
theorem aAl (M:List ByteArray) (k:Nat):kJ M (k+1)=kJ M k++ [⟨tk M k,256+(k:Int)⟩]:=by
 unfold kJ;rw[List.range_succ,List.map_append];rfl
theorem wX (M N:List ByteArray) (k:Nat):eI M N (k+1)=eI M N k++ [⟨tk N k,256+(M.length:Int)+(k:Int)⟩]:=by
 unfold eI;rw[List.range_succ,List.map_append];rfl
theorem aCp (M:List ByteArray) (k:Nat):(kJ M k).length=k:=by simp[kJ]
theorem aAh (M N:List ByteArray) (k:Nat):(eI M N k).length=k:=by simp[eI]
theorem T6 {w:World} {g b k:Nat} {u:Value} {a0 a1 a2:Option Addr} {n0 n1 n2 c0 c1 c2:Nat} {t:TypeId} (hg:w.heap[g]?=some (.cells #[.slice a0 n0 c0, .slice a1 n1 c1, .slice a2 n2 c2] t)) (hc:w.cell? ⟨b,k,none⟩=some u) (hv:∀a n c,u≠ .slice a n c):b≠g:=by
 rintro rfl;simp only[World.cell?,hg]at hc;have:=Array.mem_of_getElem? hc;simp at this;rcases this with h | h | h<;>exact hv _ _ _ h
theorem Sl.notSl {w w':World} {g:Nat} {ao:Option Addr} {n cap:Nat} {vs:List Value} (h:Sl w ao n cap vs) (hv:∀u∈vs,∀a n c,u≠ .slice a n c) {a0 a1 a2:Option Addr} {n0 n1 n2 c0 c1 c2:Nat} {t:TypeId} (hg:w.heap[g]?=some (.cells #[.slice a0 n0 c0, .slice a1 n1 c1, .slice a2 n2 c2] t)) (hk:∀q,q≠g->w'.heap[q]?=w.heap[q]?):Sl w' ao n cap vs:=
 ⟨h.len,h.le,h.max,h.nil,fun i u hu=>let ⟨b,o,e,hc⟩:=h.at_ i u hu;⟨b,o,e,(World.cell?_of_block (a:=⟨b,o+i, .none⟩) (hk b (T6 hg hc (hv u (List.mem_of_getElem? hu))))).trans hc⟩⟩
theorem SlF.notSl {s:Nat} {w w':World} {g:Nat} {ao:Option Addr} {n cap:Nat} {vs:List Value} (h:SlF s w ao n cap vs) (hv:∀u∈vs,∀a n c,u≠ .slice a n c) {a0 a1 a2:Option Addr} {n0 n1 n2 c0 c1 c2:Nat} {t:TypeId} (hg:w.heap[g]?=some (.cells #[.slice a0 n0 c0, .slice a1 n1 c1, .slice a2 n2 c2] t)) (hk:∀q,q≠g->w'.heap[q]?=w.heap[q]?):SlF s w' ao n cap vs:=
 ⟨h.len,h.le,h.max,h.nil,fun i u hu=>let ⟨b,o,e,hc⟩:=h.at_ i u hu;⟨b,o,e,(World.cell?_of_block (a:=⟨b,o+i, .none⟩) (hk b (T6 hg hc (hv u (List.mem_of_getElem? hu))))).trans hc⟩⟩
theorem jF.notSl {w w':World} {g:Nat} {d:Vd} {V:Vc} (h:jF w d V) {a0 a1 a2:Option Addr} {n0 n1 n2 c0 c1 c2:Nat} {t:TypeId} (hg:w.heap[g]?=some (.cells #[.slice a0 n0 c0, .slice a1 n1 c1, .slice a2 n2 c2] t)) (hk:∀q,q≠g->w'.heap[q]?=w.heap[q]?):jF w' d V:=by
 refine⟨Sl.notSl h.tok (fun u hu=> ?_) hg hk,SlF.notSl h.mrg (fun u hu=> ?_) hg hk,SlF.notSl h.spc (fun u hu=> ?_) hg hk⟩
 ·obtain⟨x,_,rfl⟩:=List.mem_map.1 hu;intro a n c e;cases e
 ·obtain⟨x,_,hx⟩:=List.mem_flatMap.1 hu;simp[Mg.enc]at hx;rcases hx with rfl | rfl | rfl | rfl<;>(intro a n c e;cases e)
 ·obtain⟨x,_,hx⟩:=List.mem_flatMap.1 hu;simp[Sp.enc]at hx;rcases hx with rfl | rfl<;>(intro a n c e;cases e)
theorem S1 {M N:List ByteArray} {mo no:Option Addr} {mn mc nn nc:Nat} (w:World) (hM:SlS w mo mn mc M) (hN:SlS w no nn nc N) (hMs:∀s∈M,s.size<=maxLen) (hNs:∀s∈N,s.size<=maxLen) (hmn:mn<=1000) (hnn:nn<=20):
  Calls Tryz.prog 45 #[.slice mo mn mc, .slice no nn nc] w (pU (bK M) (aK M N) w):=by
 obtain⟨i0,z0,hi,hz0,hz1,hz2,hz3⟩:=eC infoRwL;obtain⟨j0,y0,hj,hy0,hy1,hy2,hy3⟩:=eC infoSpL;obtain⟨wa,hwa⟩:∃wa,w.alloc (.cells #[.slice none 0 0, .slice none 0 0, .slice none 0 0] 26)=wa:=⟨_,rfl⟩;obtain⟨w0,hw0⟩:∃w0,wa.alloc (.cells #[] 123)=w0:=⟨_,rfl⟩;have hba:Below w.heap.size w wa:=hwa▸aA w _;have hsa:wa.heap.size=w.heap.size+1:=by rw[<-hwa];simp
 have HXA:Hid (wa.heap[w.heap.size]?=some (.cells #[.slice none 0 0, .slice none 0 0, .slice none 0 0] 26)):=hW_ (by rw[<-hwa];exact heap_alloc_new w _);have HO0:Hid (eA Rw.enc 2 123 w0 wa.heap.size (.slice (some ⟨w.heap.size+1,0,none⟩) 0 0) []):=hW_ (by rw[<-hw0,<-hsa];exact eA.made0 wa);have HBA:Hid (Below w.heap.size w wa):=hW_ hba;have HBA0:Hid (Below wa.heap.size wa w0):=hW_ (by rw[<-hw0];exact aA wa _);have HSZ1:Hid (w.heap.size<wa.heap.size):=hW_ (by omega);have HMR:=hW_ (Sl.below hM hba);have HNR:=hW_ (Sl.below hN hba);have HML:Hid (M.length=mn):=hW_ hM.count;have HNL:Hid (N.length=nn):=hW_ hN.count;have HMS:=hW_ hMs;have HNS:=hW_ hNs;have HW0:=hW_ hw0;have HWA:=hW_ hwa;clear hba hw0 hwa hsa hM hN hMs hNs;go_enter Tryz.func45,Tryz.ntmps45;go_wp2_with (fail);rw[HWA.out,HW0.out];go_loopw [6,7] (fun v i wr=>∃k:Nat,k<=256/\i= .int .i64 k/\eA Rw.enc 2 123 wr wa.heap.size v (lG k)/\Below wa.heap.size wa wr) (fun _ i _=>256-(intOf i).toNat)
 case atStart=>exact⟨0,by omega,rfl,HO0.out,HBA0.out⟩
 case round=>
  obtain⟨k,hk,rfl,ho,hb⟩:=hrel
  by_cases hlt:k<256
  ·have hw8:IntKind.u8.wrap (k:Int)=(k:Int):=by rw[IntKind.wrap_u8];omega
   have hcv:=jK wr k;have hln:=zT k;obtain⟨Ls,hLs⟩:∃Ls,lG k=Ls:=⟨_,rfl⟩;rw[hLs]at ho hln;have HLS:=hW_ hLs;obtain⟨vo,vc,rfl,_⟩:=ho.sl;have HLN:=hW_ hln;rw[hln]at ho |-;have HBS:=hW_ hb.size;have HO3:Hid (eA Rw.enc 2 123 ((wr.alloc (.cells #[.int .u8 (k:Int)] 5)).alloc (.cells #[.string (one k), .int .i64 (k:Int)] 123)) wa.heap.size (.slice vo k vc) Ls):=hW_ ((ho.alloc _).alloc _);have HS3:Hid (SlF 2 ((wr.alloc (.cells #[.int .u8 (k:Int)] 5)).alloc (.cells #[.string (one k), .int .i64 (k:Int)] 123)) (some ⟨wr.heap.size+1,0,none⟩) 1 1 (flat Rw.enc [⟨one k,k⟩])):=hW_ (by
    have:=SlF.one Rw.enc_len (wr.alloc (.cells #[.int .u8 (k:Int)] 5)) ⟨one k,k⟩ 123 (cs:=#[.string (one k), .int .i64 (k:Int)]) rfl;simpa using this)
   have HB:=hW_ hb;clear ho hb hln hLs;go_wp2_with (at_builtin;go_loud (refine gA rfl _ _ 120 rfl i0 z0 24 Tryz.underlying120 hi hz0 hz1 hz2 hz3 Rw.enc_len (by omega) Rw.enc_oneL rfl HO3.out rfl HS3.out (by have:=HLN.out;unfold maxLen;omega) (by have:=HLN.out;omega) (by have:=HBS.out;simp;omega) ?_));intro v' w' ho' hg' hb';have HO':=hW_ ho';have HB':=hW_ (((HB.out.alloc HB.out.size _).alloc (by have:=HBS.out;simp;omega) _).trans hb');clear ho' hg' hb';go_wp2_with (fail);go_roundw
   case rel=>exact⟨k+1,by omega,by go_num,by rw[Q6,HLS.out];exact HO'.out,HB'.out⟩
   case measure=>simp[intOf];omega
  ·have HK:Hid (k=256):=hW_ (by omega);have hln:=zT k;obtain⟨Ls,hLs⟩:∃Ls,lG k=Ls:=⟨_,rfl⟩;rw[hLs]at ho hln;have HLS:Hid (lG 256=Ls):=hW_ (by rw[<-hLs,HK.out]);have HLN:Hid (Ls.length=256):=hW_ (by rw[hln,HK.out]);have HO:=hW_ ho;have HB:=hW_ hb;clear hLs hln ho hb;go_wp2_with (fail);go_loopw [6,27] (fun v i wr=>∃k:Nat,k<=mn/\i= .int .i64 k/\eA Rw.enc 2 123 wr wa.heap.size v (Ls++kJ M k)/\Below wa.heap.size wa wr) (fun _ i _=>mn-(intOf i).toNat)
   case atStart=>exact⟨0,Nat.zero_le _,rfl,by simpa[kJ]using HO.out,HB.out⟩
   case round=>
    obtain⟨k',hk,rfl,ho,hb⟩:=hrel;obtain⟨X,hX⟩:∃X,Ls++kJ M k'=X:=⟨_,rfl⟩;have hxl:X.length=256+k':=by rw[<-hX,List.length_append,HLN.out,aCp]
    rw[hX]at ho;have HX:=hW_ hX;have HXL:=hW_ hxl;have HO:=hW_ ho;have HB:=hW_ hb;clear hX hxl ho hb
    by_cases hlt:k'<mn
    ·have hkM:k'<M.length:=by have:=HML.out;omega
     obtain⟨b,of,hao,hce⟩:=(HMR.out.below HB.out).at_ k' _ (by rw[List.getElem?_map,nB hkM];rfl);subst hao;obtain⟨s,hs⟩:∃s,tk M k'=s:=⟨_,rfl⟩;rw[hs]at hce;have HN:Hid (X++ [⟨s,256+(k':Int)⟩]=Ls++kJ M (k'+1)):=hW_ (by rw[aAl,<-List.append_assoc,HX.out,hs]);have hwr:IntKind.i64.wrap (256+(k':Int))=256+(k':Int):=by rw[IntKind.wrap_i64];omega
     have HBS:=hW_ HB.out.size;have HO3:Hid (eA Rw.enc 2 123 (wr.alloc (.cells #[.string s, .int .i64 (256+(k':Int))] 123)) wa.heap.size u6 X):=hW_ (HO.out.alloc _);have HS3:Hid (SlF 2 (wr.alloc (.cells #[.string s, .int .i64 (256+(k':Int))] 123)) (some ⟨wr.heap.size,0,none⟩) 1 1 (flat Rw.enc [⟨s,256+(k':Int)⟩])):=hW_ (SlF.one Rw.enc_len wr ⟨s,256+(k':Int)⟩ 123 (cs:=#[.string s, .int .i64 (256+(k':Int))]) rfl);clear hs hkM;go_wp2_with (at_builtin;go_loud (refine gA rfl _ _ 120 rfl i0 z0 24 Tryz.underlying120 hi hz0 hz1 hz2 hz3 Rw.enc_len (by omega) Rw.enc_oneL rfl HO3.out rfl HS3.out (by have:=HXL.out;unfold maxLen;omega) (by have:=HXL.out;omega) (by have:=HBS.out;simp;omega) ?_));intro v' w' ho' hg' hb';rw[HN.out]at ho';have HO':=hW_ ho';have HB':=hW_ ((HB.out.alloc HB.out.size _).trans hb');clear ho' hg' hb';go_wp2_with (fail);go_roundw
     case rel=>exact⟨k'+1,by omega,by go_num,HO'.out,HB'.out⟩
     case measure=>simp[intOf];omega
    ·obtain rfl:k'=mn:=by omega
     have HRF:Hid (X=bK M):=hW_ (by rw[<-HX.out,<-HLS.out,<-HML.out];rfl);rw[HRF.out]at HO;obtain⟨ro,rc,rfl,hrs⟩:=HO.out.sl;obtain⟨rn,hrn⟩:∃rn,(bK M).length=rn:=⟨_,rfl⟩;rw[hrn]at hrs |-;obtain⟨ws,hws⟩:∃ws,wr=ws:=⟨_,rfl⟩;rw[hws]at HO HB hrs |-;have HRS:=hW_ hrs;clear hws;obtain⟨wb,hwb⟩:∃wb,ws.alloc (.cells #[] 58)=wb:=⟨_,rfl⟩;have HWB:=hW_ hwb;have HBR:Hid (Below ws.heap.size ws wb):=hW_ (by rw[<-hwb];exact aA ws _);have HOS:Hid (eA Sp.enc 2 58 wb ws.heap.size (.slice (some ⟨ws.heap.size,0,none⟩) 0 0) []):=hW_ (by rw[<-hwb];exact eA.made0 ws);clear hrn hwb hrs;go_wp2_with (fail);rw[HWB.out];go_loopw [9,44] (fun v i wr2=>∃k2:Nat,k2<=nn/\i= .int .i64 k2/\eA Sp.enc 2 58 wr2 ws.heap.size v (eI M N k2)/\Below ws.heap.size ws wr2) (fun _ i _=>nn-(intOf i).toNat)
     case atStart=>exact⟨0,Nat.zero_le _,rfl,HOS.out,HBR.out⟩
     case round=>
      obtain⟨q,hq,rfl,ho,hb⟩:=hrel;obtain⟨Y,hY⟩:∃Y,eI M N q=Y:=⟨_,rfl⟩;have hyl:Y.length=q:=by rw[<-hY,aAh]
      rw[hY]at ho;have HY:=hW_ hY;have HYL:=hW_ hyl;have HO2:=hW_ ho;have HB2:=hW_ hb;have HBW:Hid (Below wa.heap.size wa wr):=hW_ (HB.out.trans (hb.mono HB.out.size));clear hY hyl ho hb
      by_cases hlt:q<nn
      ·have hqN:q<N.length:=by have:=HNL.out;omega
       obtain⟨b,of,hao,hce⟩:=(HNR.out.below HBW.out).at_ q _ (by rw[List.getElem?_map,nB hqN];rfl);subst hao;obtain⟨s,hs⟩:∃s,tk N q=s:=⟨_,rfl⟩;rw[hs]at hce;obtain⟨r,hr⟩:∃r:Nat,256+k'+q=r:=⟨_,rfl⟩;have HN:Hid (Y++ [⟨s,(r:Int)⟩]=eI M N (q+1)):=hW_ (by rw[wX,HY.out,hs,HML.out,<-hr];simp);have hwr:IntKind.i64.wrap (256+(k':Int))=256+(k':Int):=by rw[IntKind.wrap_i64];omega
       have hwr2:IntKind.i64.wrap (256+(k':Int)+(q:Int))=(r:Int):=by rw[IntKind.wrap_i64];omega
       have HBS:=hW_ HB2.out.size;have HO3:Hid (eA Sp.enc 2 58 (wr.alloc (.cells #[.string s, .int .i64 (r:Int)] 58)) ws.heap.size u9 Y):=hW_ (HO2.out.alloc _);have HS3:Hid (SlF 2 (wr.alloc (.cells #[.string s, .int .i64 (r:Int)] 58)) (some ⟨wr.heap.size,0,none⟩) 1 1 (flat Sp.enc [⟨s,(r:Int)⟩])):=hW_ (SlF.one Sp.enc_len wr ⟨s,(r:Int)⟩ 58 (cs:=#[.string s, .int .i64 (r:Int)]) rfl);clear hs hqN hr;go_wp2_with (at_builtin;go_loud (refine gA rfl _ _ 24 rfl j0 y0 24 Tryz.underlying24 hj hy0 hy1 hy2 hy3 Sp.enc_len (by omega) Sp.enc_oneL rfl HO3.out rfl HS3.out (by have:=HYL.out;unfold maxLen;omega) (by have:=HYL.out;omega) (by have:=HBS.out;simp;omega) ?_));intro v' w' ho' hg' hb';rw[HN.out]at ho';have HO':=hW_ ho';have HB':=hW_ ((HB2.out.alloc HB2.out.size _).trans hb');clear ho' hg' hb';go_wp2_with (fail);go_roundw
       case rel=>exact⟨q+1,by omega,by go_num,HO'.out,HB'.out⟩
       case measure=>simp[intOf];omega
      ·obtain rfl:q=nn:=by omega
       have HSF:Hid (Y=aK M N):=hW_ (by rw[<-HY.out,<-HNL.out];rfl);rw[HSF.out]at HO2;have HSL:Hid ((aK M N).length=q):=hW_ (by rw[<-HSF.out];exact HYL.out);obtain⟨so,sc,rfl,hss⟩:=HO2.out.sl;rw[HSL.out]at hss |-;have hfr:=bQ wr (HRS.out.below HB2.out) hss (fun r hr=>by
        rcases List.mem_append.1 hr with h | h
        ·obtain⟨b,_,rfl⟩:=pI h;show 1<=maxLen;unfold maxLen;omega
        ·unfold kJ at h;obtain⟨i,hi,rfl⟩:=List.mem_map.1 h;exact HMS.out _ (mB (List.mem_range.1 hi))) (fun s hs=>by
        unfold aK eI at hs;obtain⟨i,hi,rfl⟩:=List.mem_map.1 hs;exact HNS.out _ (mB (List.mem_range.1 hi))) hnn
       have HX4:=hW_ ((HBW.out.block w.heap.size HSZ1.out).trans HXA.out);clear hss;go_wp2_with (fail);refine hfr.mono ?_
       rintro e w9 ⟨hpost,hb9⟩;have hx9:=(hb9.block w.heap.size (Array.getElem?_eq_some_iff.1 HX4.out).1).trans HX4.out;have HB9:Hid (Below w.heap.size w w9):=hW_ (HBA.out.trans ((HBW.out.trans (hb9.mono HBW.out.size)).mono HBA.out.size));obtain⟨c0,c1,c2⟩:=qA hx9;have cf:∀o,w9.frozen? ⟨w.heap.size,o,none⟩=false:=by intro o;simp[World.frozen?,hx9]
       have HX9:=hW_ hx9;clear hb9 hx9 hfr;rcases hpost with⟨hg,⟨ta,tn,tc,ma,mn2,mc2,sa,sn,sc2⟩,rfl,hv⟩ | ⟨hg,rfl⟩
       ·have HV:=hW_ hv;have HG:=hW_ hg;clear hv hg;go_wp2_with (fail);refine bodyPost_ret (v:= .tuple #[Vd.val ⟨ta,tn,tc,ma,mn2,mc2,sa,sn,sc2⟩, .bool true]) ?_ rfl ⟨.inl ⟨HG.out,⟨ta,tn,tc,ma,mn2,mc2,sa,sn,sc2⟩,rfl,?_⟩,?_⟩
        ·simp[results,Tryz.results45,go_sem,Vd.val,c0,c1,c2]
        ·exact HV.out.notSl HX9.out (fun q hq=>(Below.heap_setCell _ _ _ _ hq).trans ((Below.heap_setCell _ _ _ _ hq).trans (Below.heap_setCell _ _ _ _ hq)))
        ·exact((HB9.out.setCell (p:=⟨w.heap.size,0,none⟩) (Nat.le_refl _) _).setCell (p:=⟨w.heap.size,1,none⟩) (Nat.le_refl _) _).setCell (p:=⟨w.heap.size,2,none⟩) (Nat.le_refl _) _
       ·have HG:=hW_ hg;clear hg;unfold qH Vd.val;go_wp2_with (fail);refine bodyPost_ret (v:= .tuple #[qH.val, .bool false]) ?_ rfl ⟨.inr ⟨HG.out,rfl⟩,?_⟩
        ·simp[results,Tryz.results45,go_sem,qH,Vd.val,c0,c1,c2]
        ·exact((HB9.out.setCell (p:=⟨w.heap.size,0,none⟩) (Nat.le_refl _) _).setCell (p:=⟨w.heap.size,1,none⟩) (Nat.le_refl _) _).setCell (p:=⟨w.heap.size,2,none⟩) (Nat.le_refl _) _
open Go
def abcS:ByteArray:=⟨#[97,98,99]⟩
def R1:List Rw:=R0++ [⟨abcS,257⟩]
def m1:Mg:=⟨256,99,257,257⟩
def Mg.tup (m:Mg):Int×Int×Int×Int:=(m.left,m.right,m.out,m.order)
theorem Mg.tup_inj (a b:Mg) (h:a.tup=b.tup):a=b:=by
 cases a;cases b
 simp only[Mg.tup,Prod.mk.injEq]at h;obtain⟨rfl,rfl,rfl,rfl⟩:=h;rfl
theorem mgs_inj {L M:List Mg} (h:L.map Mg.tup=M.map Mg.tup):L=M:=(List.map_inj_right Mg.tup_inj).1 h
def I8:ByteArray:=⟨#[101,110,100]⟩
def R2:List Rw:=lG 256
def S2:List Sp:=[⟨I8,256⟩]
theorem R2_eq:bK []=R2:=by
 unfold bK R2;simp[kJ]
theorem S2_eq:aK [] [I8]=S2:=rfl
def T2:List ByteArray:=(List.range 256).map one++ [ByteArray.empty]
theorem M3:T2.length=257:=by simp[T2]
theorem O9 {i:Nat} (h:i<256):tk T2 i=one i:=by
 unfold tk T2;rw[List.getD_eq_getElem?_getD,List.getElem?_append_left (by simpa using h)];simp[h]
theorem kW:tk T2 256=ByteArray.empty:=by
 unfold tk T2;rw[List.getD_eq_getElem?_getD,List.getElem?_append_right (by simp)];simp
theorem top_R2:top R2 S2=257:=by decide +kernel
theorem toks_R2:rF R2 S2=T2:=by
 unfold rF;rw[top_R2];refine List.ext_getElem? fun i=> ?_
 by_cases h:i<257
 ·rw[nB (T:=T2) (by rw[M3];exact h)];simp only[List.getElem?_map,List.getElem?_range (show i<(257:Int).toNat from h),Option.map_some];congr 1;unfold R2;rw[aCk]
  by_cases e:i=256
  ·subst e;rw[kW,if_neg (by omega)]
  ·rw[O9 (by omega),if_pos (by omega)]
 ·rw[List.getElem?_eq_none (by simp;omega),List.getElem?_eq_none (by rw[M3];omega)]
theorem aCq:gH T2= []:=mgs_inj (by decide +kernel)
def V2:Vc:=⟨T2,[],S2⟩
theorem aAW:O7 T2:=fun i j h1 h2 e=>by
 rw[M3]at h2
 by_cases hj:j=256
 ·subst hj;rw[kW]at e;rw[e];rfl
 ·rw[O9 (by omega),O9 (by omega)]at e;exfalso;have h3:tk T0 i=tk T0 j:=by rw[aP (by omega),aP (by omega)];exact e
  have:=uniq_T0 i j h1 (by rw[T0_len];omega) h3;rw[aP (by omega)]at this;exact absurd this (by show¬1=0;omega)
theorem aCu:yD T2:=⟨by rw[M3];omega,fun s hs=>by
 unfold T2 at hs;rcases List.mem_append.1 hs with h | h
 ·obtain⟨b,_,rfl⟩:=List.mem_map.1 h;exact show 1<=64 by omega
 ·obtain rfl:=List.mem_singleton.1 h;exact show 0<=64 by omega,aAW,fun b hb=>List.mem_append.2 (.inl (List.mem_map.2 ⟨b,List.mem_range.2 hb,rfl⟩))⟩
theorem sP:wB I8:=by unfold wB;decide +kernel
theorem tV:May V2:=by
 refine⟨aCu,⟨by simp[V2],by simp[V2],by simp[V2]⟩,fun i hi h=> ?_,⟨by simp[V2,S2],fun s hs=> ?_,by simp[V2,S2]⟩⟩
 ·simp only[V2]at hi h |-;rw[M3]at hi
  by_cases e:i=256
  ·subst e;rw[kW]at h;exact absurd h (by show¬1<0;omega)
  ·rw[O9 (by omega)]at h;exact absurd h (by show¬1<1;omega)
 ·obtain rfl:=List.mem_singleton.1 hs;refine⟨sP,by simp,?_,?_⟩
  ·show(256:Int)<(T2.length:Int);rw[M3];omega
  ·show(tk T2 256).size=0;rw[kW];rfl
theorem voc_R2:kT R2 S2=V2:=by
 unfold kT;rw[toks_R2,aCq];have h1:dG []= []:=by unfold dG;simp
 have h2:cG S2=S2:=by unfold cG S2;simp
 rw[h1,h2];rfl
theorem ok_R2:kG R2 S2:=by
 refine⟨fun s hs=>by obtain rfl:=List.mem_singleton.1 hs;simp,fun r hr=> ?_,?_⟩
 ·obtain⟨b,hb,rfl⟩:=pI hr;simp only;omega
 ·have h:=ok_R0.2.2;unfold R0 at h;exact(List.pairwise_append.1 h).1
theorem good_R2:eJ R2 S2:=⟨ok_R2,by rw[voc_R2];exact tV⟩
theorem uV:rB [I8]:=⟨by simp,fun s hs=>by obtain rfl:=List.mem_singleton.1 hs;exact sP,by simp⟩
theorem okKit_2:E3 [I8] 2 [] 4:=⟨uV,by omega,by omega,⟨by simp,by simp,by simp⟩,by omega,by omega⟩
theorem mark_2:C9 V2 [I8] 256=256:=by decide +kernel
theorem tok_2:ofT V2.tokens (one (97:Int).toNat)=97:=by
 have h1:(97:Int).toNat=97:=rfl;have:=aAW.of (i:=97) (by rw[M3];omega) (by rw[O9 (by omega)];show 1≠0;omega);rw[O9 (by omega)]at this;rw[h1];exact this
theorem cW:lA V2 [I8] [97,256]=0:=by
 have h1:A4 V2 [I8] 97=0:=by unfold A4;simp
 have h2:A4 V2 [I8] 256=0:=by
  unfold A4;rw[mark_2];simp
 simp[lA,h1,h2]
theorem split_2:∃d1 d2,B6 2 usR [97,256] true= [(1,d1),(1,d2)]:=⟨true,true,by decide +kernel⟩
theorem T8:kA usR:=by unfold kA sJ;decide +kernel
theorem Sl.lit6 (w:World) (vs:List Value) (cs:Array Value) (hcs:cs=vs.toArray) (g n:Nat) (hg:g=w.heap.size) (hn:n=vs.length) (hm:n<=100) (t:TypeId):
  Sl (w.alloc (.cells cs t)) (some ⟨g,0, .none⟩) n n vs:=by
 subst hg hn hcs;refine⟨rfl,Nat.le_refl _,by unfold maxLen;omega,fun h=>(by cases h),fun i u hu=>⟨_,_,rfl,?_⟩⟩;simp[hu]
theorem iU:∀s∈[I8],s.size<=maxLen:=fun s hs=>by
 obtain rfl:=List.mem_singleton.1 hs;exact show 3<=maxLen by unfold maxLen;omega
theorem text_2:qL V2 [I8] 2 usR [97,256]= [97,256]:=by
 obtain⟨d1,d2,hsp⟩:=split_2;have hc:lA V2 [I8] [97]=0:=uB.2 (fun s hs=>uB.1 cW s (by simp at hs;simp[hs]));have hm:lA V2 [I8] [256]=0:=uB.2 (fun s hs=>uB.1 cW s (by simp at hs;simp[hs]));have h1:tB V2 [I8] [97]= [97]:=by rw[sG hc (by simp) (fun y hy=>by simp at hy;subst hy;omega),encF_one,tok_2]
 have h2:tB V2 [I8] [256]= [256]:=by rw[wH hm (by omega),mark_2]
 unfold qL;rw[hsp];have e1:([97,256]:List Int).take (1:Int).toNat= [97]:=rfl;have e2:([97,256]:List Int).drop (1:Int).toNat= [256]:=rfl;have e3:([256]:List Int).take (1:Int).toNat= [256]:=rfl;simp only[qB,e1,e2,e3,h1,h2,List.append_nil,List.singleton_append]
theorem F7 (w:World) (hU:Usu w):Calls Tryz.prog 13 #[] w fun e w'=>e= .returned (.bool true)/\Below w.heap.size w w':=by
 obtain⟨w1,hw1⟩:∃w1,w.alloc (.cells #[.string ⟨#[101,110,100]⟩] 9)=w1:=⟨_,rfl⟩;have hb1:Below w.heap.size w w1:=hw1▸aA w _;have HS1:Hid (SlS w1 (some ⟨w.heap.size,0,none⟩) 1 1 [I8]):=hW_ (by rw[<-hw1];exact Sl.lit6 w _ _ rfl _ _ rfl rfl (by simp) _);have HU1:=hW_ (hU.below hb1);have HB1:=hW_ hb1;have HW1:=hW_ hw1;clear hw1 hb1 hU;go_enter Tryz.func13,Tryz.ntmps13;go_wp2_with (fail);rw[HW1.out];refine(S1 (M:=[]) (N:=[I8]) w1 Sl.none HS1.out (by simp) iU (by omega) (by omega)).mono ?_
 rintro e w2 ⟨hpost,hb2⟩;rw[R2_eq,S2_eq,voc_R2]at hpost;rcases hpost with⟨_,⟨ta,tn,tc,ma,mn,mc,sa,sn,sc⟩,rfl,hv⟩ | ⟨hn,_⟩;rotate_left
 ·exact absurd good_R2 hn
 obtain⟨w3,hw3⟩:∃w3,w2.alloc (.cells #[.slice ta tn tc, .slice ma mn mc, .slice sa sn sc] 26)=w3:=⟨_,rfl⟩;have hb3:Below w2.heap.size w2 w3:=hw3▸aA w2 _;obtain⟨w4,hw4⟩:∃w4,w3.alloc (.cells #[.string ⟨#[101,110,100]⟩] 9)=w4:=⟨_,rfl⟩;have hb4:Below w3.heap.size w3 w4:=hw4▸aA w3 _;have HS4:Hid (SlS w4 (some ⟨w3.heap.size,0,none⟩) 1 1 [I8]):=hW_ (by rw[<-hw4];exact Sl.lit6 w3 _ _ rfl _ _ rfl rfl (by simp) _);have HB4:Hid (Below w.heap.size w w4):=hW_ (HB1.out.trans ((hb2.trans ((hb3.mono hb2.size).trans (hb4.mono (Nat.le_trans hb2.size hb3.size)))).mono HB1.out.size));have HV4:=hW_ ((hv.below hb3).below hb4);have HU4:=hW_ (((HU1.out.below hb2).below hb3).below hb4);have hx3:w3.heap[w2.heap.size]?=some (.cells #[.slice ta tn tc, .slice ma mn mc, .slice sa sn sc] 26):=by rw[<-hw3];exact heap_alloc_new w2 _
 have HZ3:Hid (w3.heap.size=w2.heap.size+1):=hW_ (by rw[<-hw3];simp);have HW3:=hW_ hw3;have HW4:=hW_ hw4;clear hw3 hw4 hb2 hb3 hb4 hv hx3;simp only[Vd.val];go_wp2_with (fail);rw[HW3.out,<-HZ3.out,HW4.out];refine(pL (dd:=⟨ta,tn,tc,ma,mn,mc,sa,sn,sc⟩) (kind:=2) (N:=[I8]) (T:=[]) (room:=4) w4 HV4.out ⟨fun s hs=>Nat.le_trans (tV.1.2.1 s hs) (by unfold maxLen;omega),fun s hs=>(by obtain rfl:=List.mem_singleton.1 hs;exact show 3<=maxLen by unfold maxLen;omega),(show 1<=1048576 by omega)⟩ HS4.out iU (by omega) (SlF.nothing _) (by omega) HU4.out).mono ?_
 rintro e w5 ⟨hpost,hb5⟩;rcases hpost with⟨h,_⟩ | ⟨_,h,_⟩ | ⟨_,_,g,cb,mb,rfl,hcod⟩
 ·exact absurd tV h
 ·exact absurd okKit_2 h
 have HB5:=hW_ (HB4.out.trans (hb5.mono HB4.out.size));have hT5:=Cdr.new hcod (by omega);obtain⟨w6,hw6⟩:∃w6,w5.alloc (.cells #[.int .i64 97, .int .i64 256] 3)=w6:=⟨_,rfl⟩;have hb6:Below w5.heap.size w5 w6:=hw6▸aA w5 _;have hx6:w6.heap[w5.heap.size]?=some (.cells #[.int .i64 97, .int .i64 256] 3):=by rw[<-hw6];exact heap_alloc_new w5 _
 have HT6:=hW_ (hT5.below hb6);have HSZ6:Hid (w5.heap.size<w6.heap.size):=hW_ (by rw[<-hw6];simp);have HX6:=hW_ hx6;have HB6:=hW_ (HB5.out.trans (hb6.mono HB5.out.size));have HW6:=hW_ hw6;have HB46:Hid (w4.heap.size<=w6.heap.size):=hW_ (Nat.le_trans hb5.size hb6.size);clear hb5 hcod hT5 hw6 hb6 hx6;go_wp2_with (fail);rw[HW6.out];go_at_call 17;refine(rL w6 HT6.out tV (by simp) T8 (by omega) (by omega) (by omega) (two_sl HX6.out) (fun ad e _=>by obtain rfl:(⟨w5.heap.size,0,none⟩:Addr)=ad:=Option.some.inj e;exact⟨HSZ6.out,fun h=>absurd h.2 (Nat.lt_irrefl _)⟩) (by omega) (by omega) cW).mono ?_
 rintro e w7 ⟨v,P7,rfl,ho,-,-,-,hk7⟩;have hb7:Below w4.heap.size w6 w7:=hk7.below HB46.out (fun q hq=>hq.1);rw[show C6 ([]:List Rg)=usR from rfl,text_2]at ho;obtain⟨ao,cap,rfl,hs⟩:=ho.sl;have HB7:Hid (Below w.heap.size w w7):=hW_ (HB6.out.trans (hb7.mono HB4.out.size));obtain⟨w8,hw8⟩:∃w8,w7.alloc (.cells #[.int .i64 97, .int .i64 256] 3)=w8:=⟨_,rfl⟩;have hb8:Below w7.heap.size w7 w8:=hw8▸aA w7 _;have HS8:Hid (SlI w8 (some ⟨w7.heap.size,0,none⟩) 2 2 [97,256]):=hW_ (by rw[<-hw8];exact Sl.lit6 w7 _ _ rfl _ _ rfl rfl (by simp) _);have HA8:=hW_ (hs.below hb8);have HB8:=hW_ (HB7.out.trans (hb8.mono HB7.out.size));have HW8:=hW_ hw8;clear hw8 hb8 hb7 hk7 ho hs;go_wp2_with (fail);rw[HW8.out];refine(Z0 w8 HA8.out HS8.out).mono ?_
 rintro e w9 ⟨k,rfl,rfl⟩;rw[N6 rfl];go_wp2_with (fail);go_ret;exact⟨rfl,bA HB8.out k⟩
theorem aCv {T:List Rg} (h:kA T):kA (C6 T):=by
 unfold C6;split
 ·exact T8
 ·exact h
theorem SlI.blk {w:World} {ao:Option Addr} {n c:Nat} {A:List Int} (h:SlI w ao n c A):∀ad,ao=some ad->0<n->ad.block<w.heap.size:=fun ad e h0=>by
 obtain⟨b,o,hao,hc⟩:=h.at_ h0;obtain rfl:ad=⟨b,o,Option.none⟩:=Option.some.inj (e.symm.trans hao);exact World.block_lt_of_cell? w _ hc
theorem nP {V:Vc} {N:List ByteArray}:∀{ps:List (Int×Bool)} {A:List Int},H8 ps A->lA V N A=0->(qB V N ps A).length<=A.length
 | [],A,_,_=>Nat.zero_le _
 | p::ps,A,h,hc=>by
  simp only[qB,List.length_append];have h1:=nP h.2.2.2 (vC hc p.1.toNat).2;have h2:=(cH (vC hc p.1.toNat).1 h.2.2.1).2;rw[List.length_drop]at h1;rw[List.length_take]at h2;have:=h.2.1;omega
theorem aBW {V:Vc} {N:List ByteArray} {kind:Int} {T:List Rg} (hT:kA T) {A:List Int} (hc:lA V N A=0):(qL V N kind T A).length<=A.length:=nP (aN hT hc) hc
def A3:List Int:=[119,101,39,114,101,32,111,110]
end Go.Proofs.YtimkkkdabmhedaaGreatDoor
