/- Walks: the document's run of bytes, and the bytes behind a text's last mark. -/
import Derived.Test.YtimkkkdabmhedaaGreatDoorE29
import Derived.Test.YtimkkkdabmhedaaGreatDoorE32
import Derived.Test.YtimkkkdabmhedaaGreatDoorE19
import Derived.Test.YtimkkkdabmhedaaGreatDoorE37
import Derived.Test.YtimkkkdabmhedaaGreatDoorE41
import Derived.Test.YtimkkkdabmhedaaGreatDoorE30
import Derived.Test.YtimkkkdabmhedaaGreatDoorE36
set_option linter.unusedVariables false
set_option maxHeartbeats 2000000
set_option maxRecDepth 100000
namespace Go.Proofs.YtimkkkdabmhedaaGreatDoor
open Go.RowKit
theorem rY {w:World} (g c:Nat):(convert 121 9 (.slice (some ⟨g,0,none⟩) 0 c)).run Tryz.prog w= .ok (.string (mK [])) w:=by
 rw[run_convert_bytes_string (P:=Tryz.prog) _ 121 9 5 _ _ _ Tryz.underlying121 Tryz.underlying5 Tryz.underlying9];rw[run_bytesToString _ _ _ _ [] (by
  have:=run_loadCells_list (w:=w) (P:=Tryz.prog) ⟨g,0,none⟩ [] (fun j v hj=>by simp at hj);exact this)]
 rfl
theorem conv_row {w:World} {base:Nat} {A:List Int} {v:Value} (h:w.ownsRow base 5 1 v A.length (A.map (.int .u8))) (hv:∃g c,v= .slice (some ⟨g,0,none⟩) A.length c):(convert 121 9 v).run Tryz.prog w= .ok (.string (mK A)) w:=by
 obtain⟨g,c,rfl⟩:=hv
 cases A with
 | nil=>exact rY g c
 | cons a l=>
  obtain⟨gb,cap,e,_,_,hs⟩:=lR h (by simp);obtain⟨e1,-,rfl⟩:=Value.slice.inj e;rw[e1];exact F2 hs (by simp)
theorem mM {A:List Int} {j:Nat} (h:∀x∈A.take j,isB x=true) (hm:∀m,A[j]?=some m->isB m=false):lA A=A.take j:=by
 have e:=List.take_append_drop j A;unfold lA
 conv=>lhs;rw[<-e]
 rw[List.takeWhile_append_of_pos h]
 cases hd:A.drop j with
 | nil=>simp
 | cons m l=>
  have:A[j]?=some m:=by
   have h2:=congrArg (fun x=>x[0]?) hd;simpa using h2
  rw[List.takeWhile_cons,hm m this];simp
theorem yZ {A:List Int} {ao:Option Addr} {n c:Nat} (f:Nat) (w:World) (hA:SlI w ao n c A) (hf:f<=n) (hsz:n<=100000):
  Calls Tryz.prog 69 #[.slice ao n c, .int .i64 f] w fun e w'=>e= .returned (.string (mK (lA (A.drop f))))/\Below w.heap.size w w':=by
 obtain⟨i0,hi,hz0,hz1,hz2⟩:=info_parts X7;have HA:=hW_ hA;have HAL:=hW_ hA.len;have HOM:Hid ((w.alloc (.cells #[] 5)).ownsRow w.heap.size 5 1 (.slice (some ⟨w.heap.size,0,none⟩) 0 0) 0 []):=hW_ (World.ownsRow_made w #[] 0 (Nat.le_refl _) (by unfold maxLen;omega) rfl);clear hA;go_enter Tryz.func69,Tryz.ntmps69;go_wp2_with (fail);go_loopw [5,6] (fun v i wr=>∃j:Nat,i= .int .i64 ((f+j:Nat):Int)/\f+j<=n/\Hid (∀x∈(A.drop f).take j,isB x=true)/\Hid (∃g cap,v= .slice (some ⟨g,0,none⟩) j cap)/\Hid (wr.ownsRow w.heap.size 5 1 v j (((A.drop f).take j).map (.int .u8)))/\Hid (Below w.heap.size w wr)) (fun _ i _=>n-(intOf i).toNat)
 case atStart=>exact⟨0,rfl,by omega,hW_ (by simp),hW_ ⟨_,_,rfl⟩,hW_ (by simpa using HOM.out),hW_ (aA w _)⟩
 case round=>
  obtain⟨j,rfl,hj,HBY,HV,HOW,HB⟩:=hrel;have hlj:((A.drop f).take j).length=j:=by rw[List.length_take,List.length_drop];have:=HAL.out;omega
  have hcv:(convert 121 9 u5).run Tryz.prog wr= .ok (.string (mK ((A.drop f).take j))) wr:=conv_row (by rw[hlj];exact HOW.out) (by rw[hlj];exact HV.out)
  by_cases hjt:f+j<n
  ·have gj:((f+j:Nat):Int)<(n:Int):=by omega
   obtain⟨b1,o1,hao,hc1⟩:=(SlI.below HA.out HB.out).at_ hjt;subst hao;have hix:=qF (A:=A) (i:=f+j) (by have:=HAL.out;omega);have hix2:(A.drop f)[j]?=some (ix A (f+j)):=by rw[List.getElem?_drop];exact hix
   obtain⟨s,hs⟩:∃s,ix A (f+j)=s:=⟨_,rfl⟩;rw[hs]at hc1 hix2;have gj1:(0:Int)<=((f+j:Nat):Int):=by omega
   by_cases h1:s<0
   ·have g1:decide (s<0)=true:=by simpa using h1
    have HE:Hid (lA (A.drop f)=(A.drop f).take j):=hW_ (mM HBY.out (fun m hm=>by
     obtain rfl:=Option.some.inj (hix2.symm.trans hm)
     cases hb:isB s with
     | false=>rfl
     | true=>have:=yC.1 hb;omega))
    clear hix hix2 hs hlj;go_wp2_with (fail);refine bodyPost_ret (results_tmp rfl _ _ _) rfl ⟨by rw[HE.out];rfl,HB.out⟩
   have g1:decide (s<0)=false:=by simpa using h1
   by_cases h2:255<s
   ·have g2:decide (255<s)=true:=by simpa using h2
    have HE:Hid (lA (A.drop f)=(A.drop f).take j):=hW_ (mM HBY.out (fun m hm=>by
     obtain rfl:=Option.some.inj (hix2.symm.trans hm)
     cases hb:isB s with
     | false=>rfl
     | true=>have:=yC.1 hb;omega))
    clear hix hix2 hs hlj;go_wp2_with (fail);refine bodyPost_ret (results_tmp rfl _ _ _) rfl ⟨by rw[HE.out];rfl,HB.out⟩
   have g2:decide (255<s)=false:=by simpa using h2
   have hw8:IntKind.u8.wrap s=s:=by rw[IntKind.wrap_u8];omega
   have HTK:Hid ((A.drop f).take (j+1)=(A.drop f).take j++ [s]):=hW_ (by rw[List.take_add_one,hix2];rfl);have HBY2:Hid (∀x∈(A.drop f).take (j+1),isB x=true):=hW_ (fun x hx=>by
    rw[HTK.out]at hx;rcases List.mem_append.1 hx with h | h
    ·exact HBY.out x h
    ·obtain rfl:=List.mem_singleton.1 h;exact yC.2 (by omega))
   have HLO:=hW_ (World.ownsRow.lt HOW.out);have hsW:w.heap.size<=wr.heap.size:=HB.out.size;clear hix hix2 hs hcv hlj;go_wp2_with (at_builtin;refine wpList_append_own _ rfl _ _ 121 rfl w.heap.size 5 i0 (.int .u8 0) 1 1 Tryz.underlying121 hi hz0 hz1 hz2 rfl (by decide) _ _ _ rfl (HOW.out.alloc _) ⟨wr.heap.size,0,none⟩ 1 1 [.int .u8 s] rfl rfl (cell_one_new _ _ _) (by simp[Value.oneCell']) (by unfold maxLen;omega) (by omega) (by simp;omega) ?_;intro v' w2 hown' hgrow _);have hown2:w2.ownsRow w.heap.size 5 1 v' (j+1) (((A.drop f).take (j+1)).map (.int .u8)):=by rw[HTK.out,List.map_append];exact hown'
   have HOW2:=hW_ hown2;have HV2:Hid (∃g cap,v'= .slice (some ⟨g,0,none⟩) (j+1) cap):=hW_ (by
    have hl:((A.drop f).take (j+1)).length=j+1:=by rw[List.length_take,List.length_drop];have:=HAL.out;omega
    have h3:w2.ownsRow w.heap.size 5 1 v' ((A.drop f).take (j+1)).length (((A.drop f).take (j+1)).map (.int .u8)):=by rw[hl];exact hown2
    obtain⟨gb,cap,e,_⟩:=lR h3 (by omega);rw[hl]at e;exact⟨gb,cap,e⟩)
   have HB2:Hid (Below w.heap.size w w2):=hW_ ((HB.out.alloc hsW _).trans ((Below.refl _ _).grown hgrow (by simp;omega) (fun k hk=>(HLO.out k hk).1)));clear hown' hgrow hown2;go_wp2_with (fail);go_roundw
   case rel=>exact⟨j+1,by go_num,by omega,HBY2,HV2,HOW2,HB2⟩
   case measure=>simp[intOf];omega
  ·have hjn:f+j=n:=by omega
   have HE:Hid (lA (A.drop f)=(A.drop f).take j):=hW_ (mM HBY.out (fun m hm=>by
    have:=(List.getElem?_eq_some_iff.1 hm).1;rw[List.length_drop]at this;have:=HAL.out;omega))
   clear hlj;go_wp2_with (fail);go_ret;exact⟨by rw[HE.out];rfl,HB.out⟩
theorem SlF.pc1 (w:World) (n:Int) (b:Bool):SlF 2 (w.alloc (.cells #[.int .i64 n, .bool b] 51)) (some ⟨w.heap.size,0, .none⟩) 1 1 (flat eF [(n,b)]):=SlF.one uI w (n,b) _ rfl
theorem cV {text:List Int} {T:List Rg} {ao to_:Option Addr} {tn tc rn rc:Nat} (kind:Int) (final:Bool) (w:World) (hS:SlI w ao tn tc text) (hsz:tn<=100000)
  (hR:SlF 3 w to_ rn rc (flat Rg.enc T)) (hT:kA T) (hk0:0<=kind) (hk3:kind<=3) (hrn:rn<=1048576):
  Calls Tryz.prog 37 #[.int .i64 kind, .slice to_ rn rc, .slice ao tn tc, .bool final] w fun e w'=>(∃v,e= .returned v/\eA eF 2 51 w' w.heap.size v (dB kind T text final))/\Below w.heap.size w w':=by
 obtain⟨i0,z0,hci,hz0,hz1,hz2,hz3⟩:=jC infoPc;obtain⟨w0,hw0⟩:∃w0,w.alloc (.cells #[] 51)=w0:=⟨_,rfl⟩;have HB0:Hid (Below w.heap.size w w0):=hW_ (hw0▸aA w _);have HO0:Hid (eA eF 2 51 w0 w.heap.size (.slice (some ⟨w.heap.size,0, .none⟩) 0 0) []):=hW_ (hw0▸eA.made0 w);have HW0:=hW_ hw0;have HT:=hW_ hT;have HTL:=hW_ hS.len;have HS:=hW_ (fun(W:World) (h:Below w.heap.size w W)=>Sl.below hS h);have HR:=hW_ (fun(W:World) (h:Below w.heap.size w W)=>SlF.below hR h);have g0:decide (kind<0)=false:=by simpa using hk0
 have g3:decide (kind>3)=false:=by simpa using hk3
 clear hw0 hT hS hR;go_enter Tryz.func37,Tryz.ntmps37;go_wp2_with (fail);rw[HW0.out];go_wp2_with (fail);go_at_call 57;refine(sE w0 (HR.out w0 HB0.out)).mono ?_
 rintro e w1 ⟨⟨b,rfl,hb⟩,hb1⟩;obtain rfl:b=true:=hb.2 HT.out;have HB1:=hW_ (HB0.out.trans (hb1.mono HB0.out.size));have HO1:=hW_ (HO0.out.below hb1);clear hb hb1;go_wp2_with (fail);go_loopw [9,10,11,12,13,14,15] (fun v i o _ _ _ _ wr=>∃(k:Nat) (op:Bool) (ps:List (Int×Bool)),i= .int .i64 k/\o= .bool op/\Hid (SpS kind T final text k op ps)/\Hid (eA eF 2 51 wr w.heap.size v ps)/\Hid (Below w.heap.size w wr)) (fun _ i _ _ _ _ _ _=>tn-(intOf i).toNat)
 case atStart=>exact⟨0,false,[],rfl,rfl,hW_ SpS.zero,HO1,HB1⟩
 case round=>
  obtain⟨k,op,ps,rfl,rfl,HP,HO,HB⟩:=hrel;have hk:k<=tn:=by have:=HP.out.2.1;have:=HTL.out;omega
  have hpl:ps.length<=k:=HP.out.2.2
  by_cases hlt:k<tn
  ·have gk:(k:Int)<(tn:Int):=by omega
   have hkt:k<text.length:=by have:=HTL.out;omega
   obtain⟨R,hRR⟩:∃R,lA (text.drop k)=R:=⟨_,rfl⟩;have hrb:∀y∈R,0<=y/\y<256:=hRR▸uG;have hrl:k+R.length<=tn:=by have:=cH (text.drop k);rw[hRR,List.length_drop]at this;have:=HTL.out;omega
   have hrun:=yZ k wr (HS.out wr HB.out) hk hsz;rw[hRR]at hrun;have HRUN:=hW_ hrun;have hks:=T7 hrb;have hkb:=zF hrb;obtain⟨s,hs⟩:∃s,mK R=s:=⟨_,rfl⟩;rw[hs]at HRUN hks hkb;have HKS:=hW_ hks;have HKB:=hW_ hkb
   by_cases h0:R= []
   ·have HP2:=hW_ (HP.out.mark hkt (by rw[hRR,h0]));obtain⟨e1,e2,e3⟩:=rC (s:=s) (by rw[hks,h0];rfl);clear hrun hks hkb hs hRR hrb h0;go_wp2_with (fail);go_at_call 69;refine HRUN.out.mono ?_
    rintro e w2 ⟨rfl,hb2⟩;have HB2:=hW_ (HB.out.trans (hb2.mono HB.out.size));have HO2:=hW_ (HO.out.below hb2);clear hb2;go_wp2_with (at_builtin;refine gA rfl _ _ 48 rfl i0 z0 16 Tryz.underlying48 hci hz0 hz1 hz2 hz3 uI (by omega) wT rfl (HO2.out.alloc _) rfl (SlF.pc1 w2 1 true) (by unfold maxLen;omega) (by omega) (by have:=HB2.out.size;simp;omega) ?_;intro v3 w3 hown3 _ hbl3);have HO3:=hW_ hown3;have HB3:Hid (Below w.heap.size w w3):=hW_ ((HB2.out.alloc HB2.out.size _).trans hbl3);clear hown3 hbl3;go_wp2_with (fail);go_roundw
    case rel=>exact⟨k+1,op,_,by go_num,rfl,HP2,HO3,HB3⟩
    case measure=>simp[intOf];omega
   ·obtain⟨e1,e2,e3⟩:=C5 (s:=s) (by rw[hks];exact fun h=>h0 (List.eq_nil_of_length_eq_zero h));obtain⟨⟨n,d⟩,hn⟩:∃x,zA kind T R (final || decide (k+R.length<text.length))=x:=⟨_,rfl⟩;have hp2:=HP.out.run HT.out (by rw[hRR];exact h0) (n:=n) (d:=d) (by rw[hRR];exact hn);obtain⟨m,rfl⟩:∃m:Nat,n=m:=⟨n.toNat,by have:=hp2.2.1;omega⟩;rw[Int.toNat_natCast]at hp2;have HP2:=hW_ hp2.1;have hm1:1<=m:=by have:=hp2.2.1;omega
    have hm2:k+m<=tn:=by have:=hp2.2.2;have:=HTL.out;omega
    have hov:(final || decide (((k:Int)+(s.size:Int))<(tn:Int)))=(final || decide (k+R.length<text.length)):=by
     congr 1;exact decide_eq_decide.2 (by rw[hks,HTL.out];omega)
    have hwk:IntKind.i64.wrap ((k:Int)+(s.size:Int))=(k:Int)+(s.size:Int):=by rw[IntKind.wrap_i64];omega
    have hwm:IntKind.i64.wrap ((k:Int)+(m:Int))=((k+m:Nat):Int):=by rw[IntKind.wrap_i64];omega
    obtain⟨ov,hO⟩:∃ov,(final || decide (((k:Int)+(s.size:Int))<(tn:Int)))=ov:=⟨_,rfl⟩;have hnx:=fun(W:World) (h:Below w.heap.size w W)=>oV (kind:=kind) ov s W (HR.out W h) HT.out hrn hk0 hk3 (by rw[hks];omega) (by rw[hks];exact fun h=>h0 (List.eq_nil_of_length_eq_zero h))
    rw[hkb,<-hO,hov,hn]at hnx;simp only at hnx;rw[<-hov,hO]at hnx;have HNX:=hW_ hnx;have HOV:=hW_ hO;clear hrun hks hkb hs hRR hrb h0 hn hp2 hov hnx hO
    cases final<;>cases op<;>cases d<;>(
     first
      | (obtain rfl:true=ov:=HOV.out)
      | (have hO1:decide (((k:Int)+(s.size:Int))<(tn:Int))=ov:=by simpa using HOV.out)
     go_wp2_with (fail);go_at_call 69;refine HRUN.out.mono ?_
     rintro e w2 ⟨rfl,hb2⟩;have HB2:=hW_ (HB.out.trans (hb2.mono HB.out.size));have HO2:=hW_ (HO.out.below hb2);clear hb2;go_wp2_with (fail);go_at_call 74;refine(HNX.out w2 HB2.out).mono ?_
     rintro e w3 ⟨rfl,hb3⟩;have HB3:=hW_ (HB2.out.trans (hb3.mono HB2.out.size));have HO3:=hW_ (HO2.out.below hb3);clear hb3;go_wp2_with (at_builtin;refine gA rfl _ _ 48 rfl i0 z0 16 Tryz.underlying48 hci hz0 hz1 hz2 hz3 uI (by omega) wT rfl (HO3.out.alloc _) rfl (SlF.pc1 w3 (m:Int) _) (by unfold maxLen;omega) (by omega) (by have:=HB3.out.size;simp;omega) ?_;intro v4 w4 hown4 _ hbl4);have HO4:=hW_ hown4;have HB4:Hid (Below w.heap.size w w4):=hW_ ((HB3.out.alloc HB3.out.size _).trans hbl4);clear hown4 hbl4;go_wp2_with (fail);go_roundw
     case rel=>exact⟨k+m,_,_,by go_num,rfl,HP2,HO4,HB4⟩
     case measure=>simp[intOf];omega)
  ·obtain rfl:k=tn:=by omega
   have HD:=hW_ (HP.out.done (by rw[HTL.out];exact Nat.le_refl _));go_wp2_with (fail);go_ret;exact⟨⟨_,rfl,by rw[HD.out];exact HO.out⟩,HB.out⟩
theorem aR {text:List Int} {T:List Rg} {ao to_:Option Addr} {tn tc rn rc:Nat} (kind:Int) (w:World) (hS:SlI w ao tn tc text) (hsz:tn<=100000)
  (hR:SlF 3 w to_ rn rc (flat Rg.enc T)) (hT:kA T) (hk0:0<=kind) (hk3:kind<=3) (hrn:rn<=1048576):
  Calls Tryz.prog 75 #[.int .i64 kind, .slice to_ rn rc, .slice ao tn tc] w fun e w'=>e= .returned (.int .i64 ((pD kind T text false:Nat):Int))/\Below w.heap.size w w':=by
 have HD:=hW_ (cV kind false w hS hsz hR hT hk0 hk3 hrn);have HPO:=hW_ (fun k=>sumD_le (kind:=kind) (T:=T) (final:=false) (A:=text) hT k);have HTL:=hW_ hS.len;clear hS hR hT;obtain⟨ps,hps⟩:∃ps,dB kind T text false=ps:=⟨_,rfl⟩;have HCN:=hW_ (fun k h=>sumD_all kind T text (k:=k) h);rw[hps]at HD HPO HCN;clear hps;go_enter Tryz.func75,Tryz.ntmps75;go_wp2_with (fail);go_at_call 37;refine HD.out.mono ?_
 rintro e w1 ⟨⟨v,rfl,hown⟩,hb1⟩;obtain⟨po,pc,rfl,hsl⟩:=eA.sl hown;have HSL:=hW_ hsl;have HB1:=hW_ hb1;clear hown hsl hb1;obtain⟨n,hn⟩:∃n,ps.length=n:=⟨_,rfl⟩;rw[hn]at HSL |-;have HN:=hW_ hn;have hm:=Nat.le_trans HSL.out.le HSL.out.max;unfold maxLen at hm;clear hn;go_wp2_with (fail);go_loop [7,9,16] (fun s _ i=>∃k:Nat,i= .int .i64 k/\k<=n/\s= .int .i64 ((U5 ps k:Nat):Int)) (fun _ _ i=>n-(intOf i).toNat)
 case atStart=>exact⟨0,rfl,Nat.zero_le _,rfl⟩
 case round=>
  obtain⟨k,rfl,hk,rfl⟩:=hrel
  by_cases hlt:k<n
  ·have gk:(k:Int)<(n:Int):=by omega
   have hkp:k<ps.length:=by have:=HN.out;omega
   obtain⟨⟨x,b⟩,hp⟩:∃p,ps[k]?=some p:=⟨_,List.getElem?_eq_getElem hkp⟩
   obtain⟨bb,oo,hao,hce⟩:=HSL.out.elem uI (by omega) hp;have d0:=hce 0 _ rfl;have d1:=hce 1 _ rfl;rw[Nat.add_zero]at d0;simp only at d0 d1;subst hao;have hx1:=(HPO.out k).2 _ (List.mem_of_getElem? hp);have hnx:=aBP hp;have hbd:=(HPO.out (k+1)).1;obtain⟨m,rfl⟩:∃m:Nat,x=m:=⟨x.toNat,by simp only at hx1;omega⟩
   cases b with
   | true=>
    rw[if_pos rfl,Int.toNat_natCast]at hnx;have HNX:=hW_ hnx;obtain⟨z,hz⟩:∃z,U5 ps k=z:=⟨_,rfl⟩;rw[hz]at hnx |-;have hw:IntKind.i64.wrap ((z:Int)+(m:Int))=((z+m:Nat):Int):=by rw[IntKind.wrap_i64];have:=HTL.out;omega
    have HZ:=hW_ hz;clear hz hnx hbd hx1 hce hp;go_wp2_with (fail);go_round
    case rel=>exact⟨k+1,by go_num,by omega,by rw[HNX.out,HZ.out];simp⟩
    case measure=>simp[intOf];omega
   | false=>
    rw[if_neg (by simp),Nat.add_zero]at hnx;have HNX:=hW_ hnx;clear hnx hbd hx1 hce hp;go_wp2_with (fail);go_round
    case rel=>exact⟨k+1,by go_num,by omega,by rw[HNX.out];rfl⟩
    case measure=>simp[intOf];omega
  ·have HF:=hW_ (HCN.out k (by have:=HN.out;omega));go_wp2_with (fail);go_ret;exact⟨by rw[HF.out];rfl,HB1.out⟩
theorem vT {text:List Int} {T:List Rg} {ao to_:Option Addr} {tn tc rn rc:Nat} {dd:Vd} {no:Option Addr} {nn nc:Nat} (kind:Int) (w:World) (hS:SlI w ao tn tc text) (hsz:tn<=100000)
  (hR:SlF 3 w to_ rn rc (flat Rg.enc T)) (hT:kA T) (hk0:0<=kind) (hk3:kind<=3) (hrn:rn<=1048576):
  Calls Tryz.prog 41 #[M0 dd no nn nc kind to_ rn rc, .slice ao tn tc, .bool false] w fun e w'=>e= .returned (.int .i64 ((pD kind T text false:Nat):Int))/\Below w.heap.size w w':=by
 obtain⟨ta,tn',tc',ma,mn,mc,sa,sn,sc⟩:=dd;obtain⟨w0,hw0⟩:∃w0,w.alloc (.cells #[.slice ta tn' tc', .slice ma mn mc, .slice sa sn sc, .slice no nn nc, .int .i64 kind, .slice to_ rn rc] 37)=w0:=⟨_,rfl⟩;have hb0:Below w.heap.size w w0:=hw0▸aA w _;have hx0:w0.heap[w.heap.size]?=some (.cells #[.slice ta tn' tc', .slice ma mn mc, .slice sa sn sc, .slice no nn nc, .int .i64 kind, .slice to_ rn rc] 37):=by rw[<-hw0];exact heap_alloc_new w _
 obtain⟨b0,b1,b2,b3,b4,b5,bf⟩:=xK hx0;have HD:=hW_ (aR kind w0 (SlI.below hS hb0) hsz (hR.below hb0) hT hk0 hk3 hrn);have HB0:=hW_ hb0;have HW0:=hW_ hw0;clear hS hR hT hb0 hx0 hw0;unfold M0;go_enter Tryz.func41,Tryz.ntmps41;go_wp2_with (fail);rw[HW0.out];go_wp2_with (fail);go_at_call 75;refine HD.out.mono ?_
 rintro e w1 ⟨rfl,hb1⟩;have HB1:=hW_ (HB0.out.trans (hb1.mono HB0.out.size));clear hb1;go_wp2_with (fail);go_ret;exact⟨rfl,HB1.out⟩
end Go.Proofs.YtimkkkdabmhedaaGreatDoor
