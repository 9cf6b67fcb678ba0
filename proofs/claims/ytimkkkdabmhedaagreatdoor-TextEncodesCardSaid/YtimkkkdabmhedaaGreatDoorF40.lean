/- Walks: the document's run of bytes, and the bytes behind a text's last mark. -/
import Derived.Test.YtimkkkdabmhedaaGreatDoorF30
import Derived.Test.YtimkkkdabmhedaaGreatDoorF34
import Derived.Test.YtimkkkdabmhedaaGreatDoorF20
import Derived.Test.YtimkkkdabmhedaaGreatDoorF36
import Derived.Test.YtimkkkdabmhedaaGreatDoorF33
import Derived.Test.YtimkkkdabmhedaaGreatDoorF7
import Derived.LoopN
set_option linter.unusedVariables false
set_option maxHeartbeats 2000000
set_option maxRecDepth 100000
namespace Go.Proofs.YtimkkkdabmhedaaGreatDoor
open Go.RowKit
theorem zY {w:World} (g c:Nat):(convert 121 9 (.slice (some ⟨g,0,none⟩) 0 c)).run Tryz.prog w= .ok (.string (rI [])) w:=by
 rw[run_convert_bytes_string (P:=Tryz.prog) _ 121 9 5 _ _ _ Tryz.underlying121 Tryz.underlying5 Tryz.underlying9];rw[run_bytesToString _ _ _ _ [] (by
  have:=run_loadCells_list (w:=w) (P:=Tryz.prog) ⟨g,0,none⟩ [] (fun j v hj=>by simp at hj);exact this)]
 rfl
theorem yY {w:World} {base:Nat} {A:List Int} {v:Value} (h:w.ownsRow base 5 1 v A.length (A.map (.int .u8))) (hv:∃g c,v= .slice (some ⟨g,0,none⟩) A.length c):(convert 121 9 v).run Tryz.prog w= .ok (.string (rI A)) w:=by
 obtain⟨g,c,rfl⟩:=hv
 cases A with
 | nil=>exact zY g c
 | cons a l=>
  obtain⟨gb,cap,e,_,_,hs⟩:=rN h (by simp);obtain⟨e1,-,rfl⟩:=Value.slice.inj e;rw[e1];exact yF hs (by simp)
theorem lM {A:List Int} {j:Nat} (h:∀x∈A.take j,isB x=true) (hm:∀m,A[j]?=some m->isB m=false):A5 A=A.take j:=by
 have e:=List.take_append_drop j A;unfold A5
 conv=>lhs;rw[<-e]
 rw[List.takeWhile_append_of_pos h]
 cases hd:A.drop j with
 | nil=>simp
 | cons m l=>
  have:A[j]?=some m:=by
   have h2:=congrArg (fun x=>x[0]?) hd;simpa using h2
  rw[List.takeWhile_cons,hm m this];simp
theorem Z5 {A:List Int} {ao:Option Addr} {n c:Nat} (f:Nat) (w:World) (hA:SlI w ao n c A) (hf:f<=n) (hsz:n<=100000):
  Calls Tryz.prog 69 #[.slice ao n c, .int .i64 f] w fun e w'=>e= .returned (.string (rI (A5 (A.drop f))))/\Below w.heap.size w w':=by
 obtain⟨i0,hi,hz0,hz1,hz2⟩:=info_parts cU;have HA:=hW_ hA;have HAL:=hW_ hA.len;have HOM:Hid ((w.alloc (.cells #[] 5)).ownsRow w.heap.size 5 1 (.slice (some ⟨w.heap.size,0,none⟩) 0 0) 0 []):=hW_ (World.ownsRow_made w #[] 0 (Nat.le_refl _) (by unfold maxLen;omega) rfl);clear hA;go_enter Tryz.func69,Tryz.ntmps69;go_wp2_with (fail);go_loopw [5,6] (fun v i wr=>∃j:Nat,i= .int .i64 ((f+j:Nat):Int)/\f+j<=n/\Hid (∀x∈(A.drop f).take j,isB x=true)/\Hid (∃g cap,v= .slice (some ⟨g,0,none⟩) j cap)/\Hid (wr.ownsRow w.heap.size 5 1 v j (((A.drop f).take j).map (.int .u8)))/\Hid (Below w.heap.size w wr)) (fun _ i _=>n-(intOf i).toNat)
 case atStart=>exact⟨0,rfl,by omega,hW_ (by simp),hW_ ⟨_,_,rfl⟩,hW_ (by simpa using HOM.out),hW_ (aA w _)⟩
 case round=>
  obtain⟨j,rfl,hj,HBY,HV,HOW,HB⟩:=hrel;have hlj:((A.drop f).take j).length=j:=by rw[List.length_take,List.length_drop];have:=HAL.out;omega
  have hcv:(convert 121 9 u5).run Tryz.prog wr= .ok (.string (rI ((A.drop f).take j))) wr:=yY (by rw[hlj];exact HOW.out) (by rw[hlj];exact HV.out)
  by_cases hjt:f+j<n
  ·have gj:((f+j:Nat):Int)<(n:Int):=by omega
   obtain⟨b1,o1,hao,hc1⟩:=(SlI.below HA.out HB.out).at_ hjt;subst hao;have hix:=uD (A:=A) (i:=f+j) (by have:=HAL.out;omega);have hix2:(A.drop f)[j]?=some (ix A (f+j)):=by rw[List.getElem?_drop];exact hix
   obtain⟨s,hs⟩:∃s,ix A (f+j)=s:=⟨_,rfl⟩;rw[hs]at hc1 hix2;have gj1:(0:Int)<=((f+j:Nat):Int):=by omega
   by_cases h1:s<0
   ·have g1:decide (s<0)=true:=by simpa using h1
    have HE:Hid (A5 (A.drop f)=(A.drop f).take j):=hW_ (lM HBY.out (fun m hm=>by
     obtain rfl:=Option.some.inj (hix2.symm.trans hm)
     cases hb:isB s with
     | false=>rfl
     | true=>have:=C0.1 hb;omega))
    clear hix hix2 hs hlj;go_wp2_with (fail);refine bodyPost_ret (results_tmp rfl _ _ _) rfl ⟨by rw[HE.out];rfl,HB.out⟩
   have g1:decide (s<0)=false:=by simpa using h1
   by_cases h2:255<s
   ·have g2:decide (255<s)=true:=by simpa using h2
    have HE:Hid (A5 (A.drop f)=(A.drop f).take j):=hW_ (lM HBY.out (fun m hm=>by
     obtain rfl:=Option.some.inj (hix2.symm.trans hm)
     cases hb:isB s with
     | false=>rfl
     | true=>have:=C0.1 hb;omega))
    clear hix hix2 hs hlj;go_wp2_with (fail);refine bodyPost_ret (results_tmp rfl _ _ _) rfl ⟨by rw[HE.out];rfl,HB.out⟩
   have g2:decide (255<s)=false:=by simpa using h2
   have hw8:IntKind.u8.wrap s=s:=by rw[IntKind.wrap_u8];omega
   have HTK:Hid ((A.drop f).take (j+1)=(A.drop f).take j++ [s]):=hW_ (by rw[List.take_add_one,hix2];rfl);have HBY2:Hid (∀x∈(A.drop f).take (j+1),isB x=true):=hW_ (fun x hx=>by
    rw[HTK.out]at hx;rcases List.mem_append.1 hx with h | h
    ·exact HBY.out x h
    ·obtain rfl:=List.mem_singleton.1 h;exact C0.2 (by omega))
   have HLO:=hW_ (World.ownsRow.lt HOW.out);have hsW:w.heap.size<=wr.heap.size:=HB.out.size;clear hix hix2 hs hcv hlj;go_wp2_with (at_builtin;refine wpList_append_own _ rfl _ _ 121 rfl w.heap.size 5 i0 (.int .u8 0) 1 1 Tryz.underlying121 hi hz0 hz1 hz2 rfl (by decide) _ _ _ rfl (HOW.out.alloc _) ⟨wr.heap.size,0,none⟩ 1 1 [.int .u8 s] rfl rfl (cell_one_new _ _ _) (by simp[Value.oneCell']) (by unfold maxLen;omega) (by omega) (by simp;omega) ?_;intro v' w2 hown' hgrow _);have hown2:w2.ownsRow w.heap.size 5 1 v' (j+1) (((A.drop f).take (j+1)).map (.int .u8)):=by rw[HTK.out,List.map_append];exact hown'
   have HOW2:=hW_ hown2;have HV2:Hid (∃g cap,v'= .slice (some ⟨g,0,none⟩) (j+1) cap):=hW_ (by
    have hl:((A.drop f).take (j+1)).length=j+1:=by rw[List.length_take,List.length_drop];have:=HAL.out;omega
    have h3:w2.ownsRow w.heap.size 5 1 v' ((A.drop f).take (j+1)).length (((A.drop f).take (j+1)).map (.int .u8)):=by rw[hl];exact hown2
    obtain⟨gb,cap,e,_⟩:=rN h3 (by omega);rw[hl]at e;exact⟨gb,cap,e⟩)
   have HB2:Hid (Below w.heap.size w w2):=hW_ ((HB.out.alloc hsW _).trans ((Below.refl _ _).grown hgrow (by simp;omega) (fun k hk=>(HLO.out k hk).1)));clear hown' hgrow hown2;go_wp2_with (fail);go_roundw
   case rel=>exact⟨j+1,by go_num,by omega,HBY2,HV2,HOW2,HB2⟩
   case measure=>simp[intOf];omega
  ·have hjn:f+j=n:=by omega
   have HE:Hid (A5 (A.drop f)=(A.drop f).take j):=hW_ (lM HBY.out (fun m hm=>by
    have:=(List.getElem?_eq_some_iff.1 hm).1;rw[List.length_drop]at this;have:=HAL.out;omega))
   clear hlj;go_wp2_with (fail);go_ret;exact⟨by rw[HE.out];rfl,HB.out⟩
theorem W8 {S:List Sp} {t:ByteArray} {k:Nat} (hk:k<S.length) (h:(sp S k).name=t) (hno:∀j,j<k->(sp S j).name≠t):mD S t=some (sp S k):=by
 unfold mD;rw[List.find?_eq_some_iff_getElem];exact⟨by simpa using h,k,hk,C8 hk,fun j hj=>by rw[C8 (by omega)];simpa using hno j hj⟩
theorem U7 {S:List Sp} {t:ByteArray} (hno:∀j,j<S.length->(sp S j).name≠t):mD S t=none:=by
 unfold mD;rw[List.find?_eq_none];intro x hx;obtain⟨j,hj,rfl⟩:=List.getElem_of_mem hx;rw[C8 hj];simpa using hno j hj
theorem aCx {V:Vc} {N:List ByteArray} {s:Int} {k:Nat} (hs:s-256=k) (hk:k<N.length):C9 V N s=aCJ (mD V.specials (tk N k)):=by
 unfold C9 iC;rw[hs,Int.toNat_natCast];simp[ix,List.getD,hk,tk]
theorem T1 {V:Vc} {N:List ByteArray} {dd:Vd} {no to_:Option Addr} {nn nc tn' tc':Nat} {kind:Int} (s:Int) (w:World) (h:CR w dd no nn nc V N) (hs:256<=s) (hl:s<256+(N.length:Int)):
  Calls Tryz.prog 62 #[lL dd no nn nc kind to_ tn' tc', .int .i64 s] w fun e w'=>e= .returned (.int .i64 (C9 V N s))/\Below w.heap.size w w':=by
 obtain⟨hV,hN,-,hn16,hsp,-⟩:=h;obtain⟨ta,tn,tc,ma,mn,mc,sa,sn,sc⟩:=dd;obtain⟨w0,hw0⟩:∃w0,w.alloc (.cells #[.slice ta tn tc, .slice ma mn mc, .slice sa sn sc, .slice no nn nc, .int .i64 kind, .slice to_ tn' tc'] 37)=w0:=⟨_,rfl⟩;have hb0:Below w.heap.size w w0:=hw0▸aA w _;have hx0:w0.heap[w.heap.size]?=some (.cells #[.slice ta tn tc, .slice ma mn mc, .slice sa sn sc, .slice no nn nc, .int .i64 kind, .slice to_ tn' tc'] 37):=by rw[<-hw0];exact heap_alloc_new w _
 obtain⟨b0,b1,b2,b3,b4,b5,bf⟩:=lK hx0;have HCS:=hW_ (hV.spc.count Sp.enc_len (by omega));have hNc:=hN.count;obtain⟨k,hk⟩:∃k:Nat,s-256=k:=⟨(s-256).toNat,by omega⟩;have hkN:k<N.length:=by omega
 have hmk:=aCx (V:=V) hk hkN;obtain⟨b',of',hao,hcn⟩:=SlS.cell (Sl.below hN hb0) (nB hkN);subst hao;obtain⟨nm,hnm⟩:∃y,tk N k=y:=⟨_,rfl⟩;rw[hnm]at hcn hmk;have q2:IntKind.i64.wrap (s-256)=(k:Int):=by rw[IntKind.wrap_i64];omega
 have gk:(k:Int)<(nn:Int):=by omega
 have HMK:=hW_ hmk;have HV:=hW_ (hV.below hb0);have HB0:=hW_ hb0;have HW0:=hW_ hw0;have hsn:sn<=1048576:=by have:=HCS.out;simp only at this;omega
 simp only at HCS;unfold lL;clear hV hN hb0 hx0 hw0 hsp hmk hnm hk hNc;have hcn2:=hcn;rw[<-HW0.out]at hcn2;go_enter Tryz.func62,Tryz.ntmps62;go_wp2_with (fail);rw[HW0.out];clear hcn2;go_loopw [17] (fun i wr=>∃k:Nat,k<=sn/\i= .int .i64 k/\Hid (∀j,j<k->(sp V.specials j).name≠nm)/\wr=w0) (fun i _=>sn-(intOf i).toNat)
 case atStart=>exact⟨0,Nat.zero_le _,rfl,hW_ (fun j h=>by omega),rfl⟩
 case round=>
  obtain⟨q,hq,rfl,HK,hwr⟩:=hrel;subst hwr
  by_cases hlt:q<sn
  ·have hkS:q<V.specials.length:=by have:=HCS.out;omega
   obtain⟨b,of,hao,hce⟩:=HV.out.spc.elem Sp.enc_len (by omega) (lD hkS);simp only at hao;subst hao;obtain⟨⟨nm2,id⟩,hseq⟩:∃m,sp V.specials q=m:=⟨_,rfl⟩;rw[hseq]at hce;have d0:=hce 0 _ rfl;have d1:=hce 1 _ rfl;rw[Nat.add_zero]at d0;simp only at d0 d1;have HSK:=hW_ hseq;have gq:(q:Int)<(sn:Int):=by omega
   clear hce hseq
   by_cases hid:nm2=nm
   ·have hb2:=iF hid;have HE:Hid (C9 V N s=id):=hW_ (by
     rw[HMK.out,W8 hkS (by rw[HSK.out];exact hid) HK.out,HSK.out];rfl)
    clear hid;go_wp2_with (fail);refine bodyPost_ret (results_tmp rfl _ _ _) rfl ⟨by rw[HE.out];rfl,HB0.out⟩
   ·have hb2:=uG hid;have HK2:Hid (∀j,j<q+1->(sp V.specials j).name≠nm):=hW_ (fun j hj=>by
     by_cases e:j=q
     ·subst e;rw[HSK.out];exact hid
     ·exact HK.out j (by omega))
    clear hid;go_wp2_with (fail);go_roundw
    case rel=>exact⟨q+1,by omega,by go_num,HK2,by first | rfl | trivial⟩
    case measure=>simp[intOf];omega
  ·have HE:Hid (C9 V N s= -1):=hW_ (by
    rw[HMK.out,U7 (fun j hj=>HK.out j (by have:=HCS.out;omega))];rfl)
   go_wp2_with (fail);refine bodyPost_ret (results_tmp rfl _ _ _) rfl ⟨by rw[HE.out];rfl,HB0.out⟩
theorem gV {V:Vc} {N:List ByteArray} {dd:Vd} {no to_:Option Addr} {nn nc tn' tc':Nat} {kind:Int} {A:List Int} {ao:Option Addr} {n c:Nat} (w:World) (h:CR w dd no nn nc V N) (hA:SlI w ao n c A) (hn:n<=1048576):
  Calls Tryz.prog 21 #[lL dd no nn nc kind to_ tn' tc', .slice ao n c] w fun e w'=>e= .returned (.int .i64 (lA V N A))/\Below w.heap.size w w':=by
 have hNl:N.length=nn:=by have:=h.names.count;omega
 have hn16:=h.n16;have HC:=hW_ h;obtain⟨ta,tn,tc,ma,mn,mc,sa,sn,sc⟩:=dd;obtain⟨w0,hw0⟩:∃w0,w.alloc (.cells #[.slice ta tn tc, .slice ma mn mc, .slice sa sn sc, .slice no nn nc, .int .i64 kind, .slice to_ tn' tc'] 37)=w0:=⟨_,rfl⟩;have hb0:Below w.heap.size w w0:=hw0▸aA w _;have hx0:w0.heap[w.heap.size]?=some (.cells #[.slice ta tn tc, .slice ma mn mc, .slice sa sn sc, .slice no nn nc, .int .i64 kind, .slice to_ tn' tc'] 37):=by rw[<-hw0];exact heap_alloc_new w _
 have HSZ1:Hid (w.heap.size<w0.heap.size):=hW_ (by rw[<-hw0];simp);have HA:=hW_ (SlI.below hA hb0);have HAL:=hW_ hA.len;have HX0:=hW_ hx0;have HB0:=hW_ hb0;have HW0:=hW_ hw0;have HNL:=hW_ hNl;have q1:IntKind.i64.wrap (256+(nn:Int))=256+(nn:Int):=by rw[IntKind.wrap_i64];omega
 unfold lL;clear hx0 hb0 hw0 hA h hNl;go_enter Tryz.func21,Tryz.ntmps21;go_wp2_with (fail);rw[HW0.out];go_loopw [8] (fun i wr=>∃k:Nat,k<=n/\i= .int .i64 k/\Hid (lA V N A=lA V N (A.drop k))/\Hid (Below w0.heap.size w0 wr)) (fun i _=>n-(intOf i).toNat)
 case atStart=>exact⟨0,Nat.zero_le _,rfl,hW_ rfl,hW_ (Below.refl _ _)⟩
 case round=>
  obtain⟨k,hk,rfl,HK,HB⟩:=hrel;obtain⟨b0,b1,b2,b3,b4,b5,bf⟩:=lK ((HB.out.block w.heap.size HSZ1.out).trans HX0.out)
  by_cases hlt:k<n
  ·obtain⟨b,o,hao,hc⟩:=(SlI.below HA.out HB.out).at_ hlt;subst hao;have hkA:k<A.length:=by have:=HAL.out;omega
   have hdr:=wP (V:=V) (N:=N) hkA;obtain⟨s,hs⟩:∃s,ix A k=s:=⟨_,rfl⟩;rw[hs]at hc hdr;have gk:(k:Int)<(n:Int):=by omega
   by_cases h1:s<0
   ·have g1:decide (s<0)=true:=by simpa using h1
    have HK2:Hid (lA V N A=1):=hW_ (by
     have:A4 V N s=1:=by unfold A4;rw[if_pos (.inl h1)]
     rw[HK.out,hdr,this];rfl)
    clear hdr hs h1;go_wp2_with (fail);go_quiet (fail);go_wp2_with (fail);refine bodyPost_ret (results_tmp rfl _ _ _) rfl ⟨by rw[HK2.out];rfl,HB0.out.trans (Below.mono (bA HB.out _) HB0.out.size)⟩
   have g1:decide (s<0)=false:=by simpa using h1
   by_cases h2:256+(nn:Int)<=s
   ·have g2:decide (256+(nn:Int)<=s)=true:=by simpa using h2
    have HK2:Hid (lA V N A=1):=hW_ (by
     have:A4 V N s=1:=by unfold A4;rw[HNL.out,if_pos (.inr h2)]
     rw[HK.out,hdr,this];rfl)
    clear hdr hs h1 h2;go_wp2_with (fail);go_quiet (fail);go_wp2_with (fail);refine bodyPost_ret (results_tmp rfl _ _ _) rfl ⟨by rw[HK2.out];rfl,HB0.out.trans (Below.mono (bA HB.out _) HB0.out.size)⟩
   have g2:decide (256+(nn:Int)<=s)=false:=by simpa using h2
   have hnn:¬(s<0\/256+(N.length:Int)<=s):=by rw[HNL.out];omega
   by_cases h3:256<=s
   ·have g3:decide (256<=s)=true:=by simpa using h3
    obtain⟨mk,hmk⟩:∃mk,C9 V N s=mk:=⟨_,rfl⟩;have HID:Hid (∀W,Ge w0 W->Calls Tryz.prog 62 #[.agg #[.slice ta tn tc, .slice ma mn mc, .slice sa sn sc, .slice no nn nc, .int .i64 kind, .slice to_ tn' tc'], .int .i64 s] W fun e w'=>e= .returned (.int .i64 mk)/\Below W.heap.size W w'):=hW_ (fun W hW=>by
     have:=T1 (dd:=⟨ta,tn,tc,ma,mn,mc,sa,sn,sc⟩) (kind:=kind) (to_:=to_) (tn':=tn') (tc':=tc') s W ((HC.out.below HB0.out).below hW) h3 (by rw[HNL.out];omega);rw[hmk]at this;exact this)
    by_cases h4:mk<0
    ·have g4:decide (mk<0)=true:=by simpa using h4
     have HK2:Hid (lA V N A=4):=hW_ (by
      have:A4 V N s=4:=by unfold A4;rw[if_neg hnn,if_pos ⟨h3,by rw[hmk];exact h4⟩]
      rw[HK.out,hdr,this];rfl)
     clear hdr hs h1 h2 h3 h4 hnn hmk;go_wp2_with (fail);go_quiet (fail);go_wp2_with (fail)
     go_region_with (go_at_call 62;refine(HID.out _ (by exact bA HB.out _)).mono ?_;rintro e w2 ⟨rfl,hb2⟩;have HB2:=hW_ hb2;clear hb2)
     all_goals(
      go_wp2_with (fail);refine bodyPost_ret (results_tmp rfl _ _ _) rfl ⟨by rw[HK2.out];rfl,HB0.out.trans (Below.mono ?_ HB0.out.size)⟩;exact Below.trans (by exact bA HB.out _) (HB2.out.mono HB.out.size))
    ·have g4:decide (mk<0)=false:=by simpa using h4
     have HK2:Hid (lA V N A=lA V N (A.drop (k+1))):=hW_ (by
      have:A4 V N s=0:=by unfold A4;rw[if_neg hnn,if_neg (fun h=>h4 (by rw[<-hmk];exact h.2))]
      rw[HK.out,hdr,this];rfl)
     clear hdr hs h1 h2 h3 h4 hnn hmk;go_wp2_with (fail);go_quiet (fail);go_wp2_with (fail)
     go_region_with (go_at_call 62;refine(HID.out _ (by exact bA HB.out _)).mono ?_;rintro e w2 ⟨rfl,hb2⟩;have HB2:=hW_ hb2;clear hb2)
     all_goals(
      go_wp2_with (fail);go_roundw
      case rel=>exact⟨k+1,by omega,by go_num,HK2,hW_ (Below.trans (by exact bA HB.out _) (HB2.out.mono HB.out.size))⟩
      case measure=>simp[intOf];omega)
   ·have g3:decide (256<=s)=false:=by simpa using h3
    have HK2:Hid (lA V N A=lA V N (A.drop (k+1))):=hW_ (by
     have:A4 V N s=0:=by unfold A4;rw[if_neg hnn,if_neg (fun h=>h3 h.1)]
     rw[HK.out,hdr,this];rfl)
    clear hdr hs h1 h2 h3 hnn;go_wp2_with (fail);go_quiet (fail);go_wp2_with (fail);go_quiet (fail);go_wp2_with (fail);go_roundw
    case rel=>exact⟨k+1,by omega,by go_num,HK2,hW_ (by exact bA HB.out _)⟩
    case measure=>simp[intOf];omega
  ·obtain rfl:k=n:=by omega
   have HK2:Hid (lA V N A=0):=hW_ (by rw[HK.out,List.drop_eq_nil_of_le (by have:=HAL.out;omega)];rfl);go_wp2_with (fail);refine bodyPost_ret (results_tmp rfl _ _ _) rfl ⟨by rw[HK2.out];rfl,HB0.out.trans (Below.mono HB.out HB0.out.size)⟩
end Go.Proofs.YtimkkkdabmhedaaGreatDoor
