/- Plain: the vocabulary of the law's own example: the bytes and one special. No program here. -/
import Derived.Test.YtimkkkdabmhedaaGreatDoorE36
import Derived.Test.YtimkkkdabmhedaaGreatDoorE19
import Derived.Test.YtimkkkdabmhedaaGreatDoorE35
import Derived.Test.YtimkkkdabmhedaaGreatDoorE32
import Derived.Test.YtimkkkdabmhedaaGreatDoorE34
import Derived.Test.YtimkkkdabmhedaaGreatDoorE18
set_option linter.unusedVariables false
set_option maxHeartbeats 2000000
set_option maxRecDepth 100000
namespace Go.Proofs.YtimkkkdabmhedaaGreatDoor
open Go
def endS:ByteArray:=⟨#[101,110,100]⟩
def R2:List Rw:=qG 256
def S2:List Sp:=[⟨endS,256⟩]
theorem R2_eq:kK []=R2:=by
 unfold kK R2;simp[sJ]
def T2:List ByteArray:=(List.range 256).map one++ [ByteArray.empty]
theorem ok_R2:oG R2 S2:=by
 refine⟨fun s hs=>by obtain rfl:=List.mem_singleton.1 hs;simp,fun r hr=> ?_,?_⟩
 ·obtain⟨b,hb,rfl⟩:=sI hr;simp only;omega
 ·have h:=ok_R0.2.2;unfold R0 at h;exact(List.pairwise_append.1 h).1
open Go.RowKit
theorem wF:kA usR:=by unfold kA J0;decide +kernel
theorem Sl.lit6 (w:World) (vs:List Value) (cs:Array Value) (hcs:cs=vs.toArray) (g n:Nat) (hg:g=w.heap.size) (hn:n=vs.length) (hm:n<=100) (t:TypeId):
  Sl (w.alloc (.cells cs t)) (some ⟨g,0, .none⟩) n n vs:=by
 subst hg hn hcs;refine⟨rfl,Nat.le_refl _,by unfold maxLen;omega,fun h=>(by cases h),fun i u hu=>⟨_,_,rfl,?_⟩⟩;simp[hu]
theorem aCn {T:List Rg} (h:kA T):kA (iB T):=by
 unfold iB;split
 ·exact wF
 ·exact h
theorem jP {A B:List Int} {ao bo:Option Addr} {n c m d:Nat} (w:World) (hA:SlI w ao n c A) (hB:SlI w bo m d B) (hn:n<=100000) (hm:m<=100000):
  Calls Tryz.prog 22 #[.slice ao n c, .slice bo m d] w fun e w'=>(∃vo vc,e= .returned (.slice vo (n+m) vc)/\Own w' w.heap.size (.slice vo (n+m) vc) (A++B))/\Below w.heap.size w w':=by
 obtain⟨i0,hi,hz0,hz1,hz2⟩:=info_parts kQ;have hown:=hW_ (yT w);have HA:=hW_ (hA.alloc (.cells #[] 3));have HB:=hW_ hB;have HAL:=hW_ hA.len;have HBL:=hW_ hB.len;clear hA hB;go_enter Tryz.func22,Tryz.ntmps22;go_wp2_with (first
  | (at_builtin;refine yG rfl _ _ 43 rfl (base:=w.heap.size) i0 Tryz.underlying43 hi hz0 hz1 hz2 rfl hown.out rfl HA.out (by simp;omega) (by simp) ?_;intro v1 w1 ho1 hg1 hb1;have HO1:=hW_ ho1;have HB1:=hW_ ((aA w _).trans hb1);clear ho1 hg1 hb1)
  | (at_builtin;refine yG rfl _ _ 43 rfl (base:=w.heap.size) i0 Tryz.underlying43 hi hz0 hz1 hz2 rfl HO1.out rfl (HB.out.below HB1.out) (by have:=HAL.out;simp;omega) HB1.out.size ?_;intro v2 w2 ho2 hg2 hb2;have HO2:=hW_ ho2;have HB2:=hW_ (HB1.out.trans hb2);clear ho2 hg2 hb2))
 go_ret;have ho:=HO2.out;rw[List.nil_append]at ho;obtain⟨vo,vc,rfl,-⟩:=ho.sl;rw[List.length_append,HAL.out,HBL.out]at *;exact⟨⟨vo,vc,rfl,ho⟩,HB2.out⟩
theorem fR (g:Nat) (w:World):Calls Tryz.prog 26 #[.pointer (some ⟨g,0,none⟩)] w fun E w'=>E= .returned (.pointer (some ⟨w.heap.size,0,none⟩))/\w'=w.alloc (.cells #[.pointer (some ⟨g,0,none⟩), .slice none 0 0, .int .i64 0, .int .i64 0, .bool false] 110):=by
 go_enter Tryz.func26,Tryz.ntmps26;go_wp2_with (fail);go_ret;exact⟨rfl,rfl⟩
theorem xO {w:World} {pb g:Nat} {o:Option Addr} {R:List Int} {a t:Int} {e:Bool} (h:PtR w pb g o R a t e):Calls Tryz.prog 31 #[.pointer (some ⟨pb,0,none⟩)] w fun E w'=>E= .returned (.int .i64 a)/\w'=w:=by
 obtain⟨c,hx,-⟩:=h;obtain⟨c0,c1,c2,c3,c4,cf⟩:=oE hx;clear hx;go_enter Tryz.func31,Tryz.ntmps31;go_wp2_with (fail);go_ret;exact⟨rfl,rfl⟩
theorem Z4 {w:World} {pb g:Nat} {o:Option Addr} {R:List Int} {a t:Int} {e:Bool} (h:PtR w pb g o R a t e):Calls Tryz.prog 43 #[.pointer (some ⟨pb,0,none⟩)] w fun E w'=>E= .returned (.int .i64 t)/\w'=w:=by
 obtain⟨c,hx,-⟩:=h;obtain⟨c0,c1,c2,c3,c4,cf⟩:=oE hx;clear hx;go_enter Tryz.func43,Tryz.ntmps43;go_wp2_with (fail);go_ret;exact⟨rfl,rfl⟩
theorem lX {w:World} {pb g:Nat} {o:Option Addr} {R:List Int} {a t:Int} {e:Bool} (h:PtR w pb g o R a t e):Calls Tryz.prog 40 #[.pointer (some ⟨pb,0,none⟩)] w fun E w'=>E= .returned (.pointer (some ⟨w.heap.size,0,none⟩))/\PtR w' w.heap.size g o R a t e/\Below w.heap.size w w':=by
 obtain⟨c,hx,hs⟩:=h;have HS:=hW_ hs;obtain⟨c0,c1,c2,c3,c4,cf⟩:=oE hx;clear hx hs;go_enter Tryz.func40,Tryz.ntmps40;go_wp2_with (fail);go_ret;exact⟨rfl,⟨c,heap_alloc_new w _,SlI.below HS.out (aA w _)⟩,aA w _⟩
theorem lP {w:World} {pb g:Nat} {o:Option Addr} {R:List Int} {a t:Int} {e:Bool} (h:PtR w pb g o R a t e) (hn:R.length<=1000000):Calls Tryz.prog 32 #[.pointer (some ⟨pb,0,none⟩)] w fun E w'=>∃vo vc,E= .returned (.slice vo R.length vc)/\Own w' w.heap.size (.slice vo R.length vc) R/\Below w.heap.size w w':=by
 obtain⟨c,hx,hs⟩:=h;have HC:=hW_ (bG w hs (by omega));obtain⟨c0,c1,c2,c3,c4,cf⟩:=oE hx;clear hx hs;go_enter Tryz.func32,Tryz.ntmps32;go_wp2_with (go_at_call 70;refine HC.out.mono ?_;rintro E w1 ⟨vo,vc,rfl,ho,hb⟩;have HO:=hW_ ho;have HB:=hW_ hb;clear ho hb);go_ret;exact⟨vo,vc,rfl,HO.out,HB.out⟩
theorem gX {V:Vc} {N:List ByteArray} {kind:Int} {T:List Rg} {base cb:Nat} {w:World} {pb g:Nat} {o:Option Addr} {R:List Int} {a t:Int} {e:Bool} (hcod:yJ w base g V N kind T cb) (h:PtR w pb g o R a t e) (hn:R.length<=1000000) (hT:kA T) (hk0:0<=kind) (hk3:kind<=3):
  Calls Tryz.prog 28 #[.pointer (some ⟨pb,0,none⟩)] w fun E w'=>E= .returned (.int .i64 ((dB kind T R e).length:Int))/\Below w.heap.size w w':=by
 obtain⟨c,hx,hA⟩:=h;obtain⟨ps,hps⟩:∃ps,dB kind T R e=ps:=⟨_,rfl⟩;have hSp:∀W,Ge w W->Calls Tryz.prog 18 #[.pointer (some ⟨g,0,none⟩), .slice o R.length c, .bool e] W fun E w'=>(∃ao cap,E= .returned (.slice ao ps.length cap))/\Below w.heap.size w w':=fun W hW=>by
  have h9:=M7 e W (hcod.below hW) (hA.below hW) (by omega) hT hk0 hk3;rw[hps]at h9;refine h9.mono ?_
  rintro E w' ⟨⟨v,rfl,h1⟩,h2⟩;obtain⟨pa,pc',rfl,-⟩:=h1.sl;exact⟨⟨pa,pc',rfl⟩,hW.below h2⟩
 rw[hps];have HSP:=hW_ hSp;obtain⟨c0,c1,c2,c3,c4,cf⟩:=oE hx;have G0:=fun w' (hg:Ge w w')=>hg.at w w' c0
 have G1:=fun w' (hg:Ge w w')=>hg.at w w' c1
 have G4:=fun w' (hg:Ge w w')=>hg.at w w' c4
 have gr:=Ge.refl w;clear hx hA hcod hps hSp c0 c1 c2 c3 c4 cf;go_enter Tryz.func28,Tryz.ntmps28;go_wp2_with (fail)
 go_region_held3 (Ge w) (first | (with_reducible assumption) | (with_reducible refine Ge.drew ?_;with_reducible assumption) | (with_reducible refine Ge.drewN ?_ _;with_reducible assumption)) ((go_at_call 18;refine(HSP.out _ (by exact bA (Below.refl _ _) _)).mono ?_;rintro E w1 ⟨⟨pa,pc',rfl⟩,hb1⟩;have HB1:=hW_ hb1;have hg1:Ge w w1:=hb1;clear hb1))
 go_wp2_with (fail);go_ret;exact⟨rfl,HB1.out⟩
theorem com_len {V:Vc} {N:List ByteArray} {kind:Int} {T:List Rg} (hT:kA T) {e:Bool} {A:List Int} (hc:qA V N A=0):(mI V N kind T A e).length<=A.length:=uR (aH hT hc) hc
def GrQ (w:World) (base pb g:Nat) (V:Vc) (N:List ByteArray) (kind:Int) (T:List Rg) (room cnt:Int) (P:Nat->Prop) (R:List Int) (a t:Int) (e:Bool) (v:Value) (w':World):Prop:=
 ∃o' P',Own w' w.heap.size v (mI V N kind T R e)/\Cdr w' base g V N kind T room (cnt+V4 kind T R e) P'/\
  PtR w' pb g o' (R.drop (pD kind T R e)) (a+pD kind T R e) (t+(mI V N kind T R e).length) e/\(∀q,P' q->P q\/w.heap.size<=q)/\
  (∀ad,o'=some ad->0<(R.drop (pD kind T R e)).length->w.heap.size<=ad.block/\¬P' ad.block)/\(∀q,v.ownBlock=some q->¬P' q)/\iA (fun q=>P q\/q=pb) w w'
theorem TkQ.from {w w3 w':World} {base pb g:Nat} {V:Vc} {N:List ByteArray} {kind:Int} {T:List Rg} {room cnt:Int} {P:Nat->Prop} {R:List Int} {a t:Int} {e:Bool} {E:Ending} (h:TkQ w3 base pb g V N kind T room cnt P R a t e E w') (hk:iA (fun q=>P q\/q=pb) w w3) (hp:∀q,P q->q<w.heap.size) (hb:pb<w.heap.size):
  ∃v,E= .returned v/\GrQ w base pb g V N kind T room cnt P R a t e v w':=by
 obtain⟨v,o',P',rfl,h1,h2,h3,h4,h5,h6,h7⟩:=h;have hs:=hk.size;exact⟨v,rfl,o',P',h1.mono hs,h2,h3,fun q hq=>(h4 q hq).imp id (fun h=>Nat.le_trans hs h),fun ad e h0=>⟨Nat.le_trans hs (h5 ad e h0).1,(h5 ad e h0).2⟩,h6,hk.trans h7⟩
theorem F8 {P:Nat->Prop} {V:Vc} {N:List ByteArray} {kind:Int} {T:List Rg} {base pb g:Nat} {room:Int} {cnt a t:Int} {R B:List Int} {o bo:Option Addr} {m d:Nat} (w:World) (h:Cdr w base g V N kind T room cnt P) (hM:May V) (hN:N.length<=16) (hT:kA T) (hk0:0<=kind) (hk3:kind<=3) (hr:room<=1048576)
  (hp:PtR w pb g o R a t false) (hpb:¬P pb) (hB:SlI w bo m d B) (hn:R.length+B.length<=100000) (hcnt:cnt+(R.length+B.length:Nat)<1000000) (hc:qA V N R=0) (hc2:qA V N B=0) (ha:0<=a/\a<=1000000) (ht:0<=t/\t<=1000000):
  Calls Tryz.prog 27 #[.pointer (some ⟨pb,0,none⟩), .slice bo m d] w (fun E w'=>∃v,E= .returned (.tuple #[v, .int .i64 0])/\GrQ w base pb g V N kind T room cnt P (R++B) a t false v w'):=by
 have hplt:=hp.lt;obtain⟨c,hx,hA⟩:=hp;obtain⟨cb,hcod⟩:=h.cod;have hBl:=hB.len;subst hBl;have hCk:=vK w hcod hN hB (by omega);rw[hc2]at hCk;have HCK:=hW_ hCk;have hcc:qA V N (R++B)=0:=by rw[gJ hc];exact hc2
 have HV:=hW_ h;have HM:=hW_ hM;have HX:=hW_ hx;have HPB:=hW_ (And.intro hplt hpb);have HCC:=hW_ hcc;have HAB:=hW_ (D2.two hA hB 43 w.heap.size rfl);have HCN:=hW_ hcnt;obtain⟨c0,c1,c2,c3,c4,cf⟩:=oE hx;clear h hM hx hplt hpb hcc hA hB hcod hCk hc hc2 hcnt;go_enter Tryz.func27,Tryz.ntmps27;go_wp2_with (first
  | (go_at_call 33;refine HCK.out.mono ?_;rintro e w1 ⟨rfl,rfl⟩)
  | (go_at_call 66;refine(aAt (R:=[R,B]) (L:=R.length+B.length) _ (by exact HAB.out) (by simp) (by omega)).mono ?_;rintro E w2 ⟨vo,vc,rfl,ho,hb⟩;have hb2:=(aA w _).trans (hb.mono (by simp));obtain⟨c0,c1,c2,c3,c4,cf⟩:=oE ((hb2.block pb HPB.out.1).trans HX.out);have HO:=hW_ ho;have HB:=hW_ hb2;clear ho hb hb2))
 have hb2:=HB.out;have ho2:=HO.out;have hx2:=(hb2.block pb HPB.out.1).trans HX.out;have hs2:=wG (i:=1) (v:= .slice vo (R.length+B.length) vc) hx2;have hp2:pb<w2.heap.size:=(Array.getElem?_eq_some_iff.1 hx2).1;have hvo:∀ad,vo=some ad->0<(R++B).length->w.heap.size<=ad.block:=fun ad e h0=>by
  have ho3:Own w2 (w.alloc (.cells #[.slice o R.length c, .slice bo B.length d] 43)).heap.size (.slice vo (R.length+B.length) vc) (R++B):=by simpa using ho2
  obtain⟨b,c',hv⟩:=aJ ho3 h0;obtain⟨rfl,-,-⟩:=Value.slice.inj hv;obtain rfl:=Option.some.inj e;exact Nat.le_trans (by simp) (World.ownsRow.lt ho3 b rfl).1
 have hcd:Cdr (w2.setCell ⟨pb,1,none⟩ (.slice vo (R.length+B.length) vc)) base g V N kind T room cnt P:=(HV.out.below hb2).stay (fun q hq=>pA (fun e=>HPB.out.2 (e▸hq))) (by simp);have hpt:PtR (w2.setCell ⟨pb,1,none⟩ (.slice vo (R.length+B.length) vc)) pb g vo (R++B) a t false:=by
  obtain⟨ra,rc,e3,hsl⟩:=ho2.sl;obtain⟨rfl,e4,rfl⟩:=Value.slice.inj e3;refine⟨vc,by rw[List.length_append];exact hs2,?_⟩;have h9:SlI w2 vo (R++B).length vc (R++B):=by simpa using hsl
  exact h9.keep0 (fun ad e h0=>pA (fun e2=>by have:=hvo ad e h0;have:=HPB.out.1;omega))
 have hkk:iA (fun q=>P q\/q=pb) w (w2.setCell ⟨pb,1,none⟩ (.slice vo (R.length+B.length) vc)):=(iA.of_below hb2).set (Or.inr rfl) _;have htk:=pW _ hcd HM.out hN hT hk0 hk3 hr hpt HPB.out.2 (fun ad e h0=>⟨fun hq=>by have:=hvo ad e h0;have:=(HV.out.lt _ hq).2;omega,fun e2=>by have:=hvo ad e h0;have:=HPB.out.1;omega⟩) (by rw[List.length_append];omega) (by rw[List.length_append];exact HCN.out) HCC.out ha ht;have HTK:=hW_ htk;have HKK:=hW_ hkk;clear hb2 ho2 hx2 hs2 hp2 hvo hcd hpt hkk htk c0 c1 c2 c3 c4 cf;go_at_call 67;refine HTK.out.mono ?_
 rintro E w4 hq;obtain⟨v,rfl,hgr⟩:=hq.from HKK.out (fun q hq=>(HV.out.lt q hq).2) HPB.out.1;have HGR:=hW_ hgr;clear hgr hq;go_wp2_with (fail);refine bodyPost_ret (v:= .tuple #[v, .int .i64 0]) ?_ rfl ⟨v,rfl,HGR.out⟩
 simp[results,Tryz.results27,go_sem]
def T3:List ByteArray:=(List.range 256).map one
theorem O6:T3.length=256:=by simp[T3]
theorem pU {i:Nat} (h:i<256):tk T3 i=one i:=by
 unfold tk T3;rw[List.getD_eq_getElem?_getD];simp[h]
theorem top_R3:top R2 []=256:=by decide +kernel
theorem toks_R3:tF R2 []=T3:=by
 unfold tF;rw[top_R3];refine List.ext_getElem? fun i=> ?_
 by_cases h:i<256
 ·rw[uB (T:=T3) (by rw[O6];exact h)];simp only[List.getElem?_map,List.getElem?_range (show i<(256:Int).toNat from h),Option.map_some];congr 1;unfold R2;rw[aBZ,pU h,if_pos h]
 ·rw[List.getElem?_eq_none (by simp;omega),List.getElem?_eq_none (by rw[O6];omega)]
theorem aCi:kH T3= []:=mgs_inj (by decide +kernel)
def V5:Vc:=⟨T3,[],[]⟩
theorem aAN:gO T3:=fun i j h1 h2 e=>by
 rw[O6]at h2;exfalso;rw[pU (by omega),pU (by omega)]at e;have h3:tk T0 i=tk T0 j:=by rw[O7 (by omega),O7 (by omega)];exact e
 have:=uniq_T0 i j h1 (by rw[T0_len];omega) h3;rw[O7 (by omega)]at this;exact absurd this (by show¬1=0;omega)
theorem aCm:wE T3:=⟨by rw[O6];omega,fun s hs=>by
 unfold T3 at hs;obtain⟨b,_,rfl⟩:=List.mem_map.1 hs;exact show 1<=64 by omega,aAN,fun b hb=>List.mem_map.2 ⟨b,List.mem_range.2 hb,rfl⟩⟩
theorem qR:May V5:=by
 refine⟨aCm,⟨by simp[V5],by simp[V5],by simp[V5]⟩,fun i hi h=> ?_,⟨by simp[V5],fun s hs=>by simp[V5]at hs,by simp[V5]⟩⟩;simp only[V5]at hi h |-;rw[O6]at hi;rw[pU hi]at h;exact absurd h (by show¬1<1;omega)
theorem voc_R3:lT R2 []=V5:=by
 unfold lT;rw[toks_R3,aCi];have h1:jG []= []:=by unfold jG;simp
 have h2:iG []= []:=by unfold iG;simp
 rw[h1,h2];rfl
theorem good_R3:oJ R2 []:=⟨⟨fun s hs=>by simp at hs,ok_R2.2.1,ok_R2.2.2⟩,by rw[voc_R3];exact qR⟩
theorem okKit_3:E4 [] 2 [] 4:=⟨⟨by simp,fun s hs=>by simp at hs,by simp⟩,by omega,by omega,⟨by simp,by simp,by simp⟩,by omega,by omega⟩
theorem ofT_3 {x:Int} (h:0<=x/\x<256):ofT V5.tokens (one x.toNat)=x:=by
 have:=aAN.of (i:=x.toNat) (by rw[O6];omega) (by rw[pU (by omega)];show 1≠0;omega);rw[pU (by omega)]at this;show ofT T3 _=_;rw[this];omega
theorem aBR (r:List Int):G9 [] r=none:=Q1 fun i a b _ _=>rfl
theorem encF_3 {b:List Int} (h:∀x∈b,0<=x/\x<256):tH V5 b=b:=by
 have e:dC V5 b=b:=by
  unfold dC
  conv=>rhs;rw[<-List.map_id b]
  exact List.map_congr_left fun x hx=>ofT_3 (h x hx)
 unfold tH;rw[e];exact dN (aBR b) _
theorem fault_3 {x:Int} (h:0<=x/\x<256):bB V5 [] x=0:=by unfold bB;rw[if_neg (by simp;omega),if_neg (by omega)]
theorem H8 {b:List Int} (h:∀x∈b,0<=x/\x<256):qA V5 [] b=0:=D1.2 fun x hx=>fault_3 (h x hx)
theorem piece_3 {b:List Int} (h:∀x∈b,0<=x/\x<256) (h0:b≠[]):dF V5 [] b=b:=by rw[I9 (H8 h) h0 h,encF_3 h]
theorem com_3:∀{ps:List (Int×Bool)} {A:List Int},rF ps A->(∀x∈A,0<=x/\x<256)->B6 V5 [] (B9 ps) A=A.take (cE (B9 ps))
 | [],A,h,hb=>by
  show []=A.take 0;simp
 | p::ps,A,h,hb=>by
  cases hp:p.2 with
  | false=>rw[fL hp];show []=A.take 0;simp
  | true=>
   rw[aG hp,iD];simp only[B6];have h1:=h.1;have h2:=h.2.1;rw[piece_3 (fun x hx=>hb x (List.mem_of_mem_take hx)) (fun e=>by
    have h9:min p.1.toNat A.length=0:=by rw[<-List.length_take,e];rfl
    omega),com_3 h.2.2.2 (fun x hx=>hb x (List.mem_of_mem_drop hx))]
   rw[List.take_add]
theorem zY:∀{ps:List (Int×Bool)} {A:List Int},rF ps A->0<=byN (B9 ps) A/\byN (B9 ps) A<=cE (B9 ps)
 | [],A,h=>by simp[B9,byN,cE]
 | p::ps,A,h=>by
  have h2:=aBm (A.take p.1.toNat);have h3:=h.1
  cases hp:p.2 with
  | false=>rw[fL hp];simp[byN,cE]
  | true=>
   have h1:=zY h.2.2.2;rw[aG hp,iD];simp only[byN];omega
theorem V2 {V:Vc} {N:List ByteArray} {kind:Int} {T:List Rg} (hT:kA T) {e:Bool} {A:List Int} (hc:qA V N A=0):0<=V4 kind T A e/\V4 kind T A e<=A.length:=by
 have h:=aH (kind:=kind) (final:=e) hT hc;have h1:=zY h;have h2:=h.decd_le;unfold V4;omega
def A3:List Int:=[119,101,39,114,101,32,111,110]
theorem pQ:∀x∈A3,(0:Int)<=x/\x<256:=by decide +kernel
theorem n_3:pD 2 usR A3 false=5:=by decide +kernel
theorem n_4:pD 2 usR [32,111,110,32] false=3:=by decide +kernel
theorem open_3:(dB 2 usR [32] false).length=1:=by decide +kernel
theorem cW:∀x∈([32,111,110,32]:List Int),(0:Int)<=x/\x<256:=by decide +kernel
theorem aAQ (w:World) (vs:List Int) (cs:Array Value) (hcs:cs=(vs.map (.int .i64)).toArray) (g n:Nat) (hg:g=w.heap.size) (hn:n=vs.length) (hm:n<=100) (t:TypeId):
  SlI (w.alloc (.cells cs t)) (some ⟨g,0, .none⟩) n n vs:=Sl.lit6 w _ _ hcs _ _ hg (by simpa using hn) hm t
theorem eC (w:World) (hU:Usu w):Calls Tryz.prog 25 #[] w fun e w'=>e= .returned (.bool true)/\Below w.heap.size w w':=by
 have HU:=hW_ hU;clear hU;go_enter Tryz.func25,Tryz.ntmps25;go_wp2_with (fail);refine(S3 (M:=[]) (N:=[]) w Sl.none Sl.none (by simp) (by simp) (by omega) (by omega)).mono ?_
 rintro e w2 ⟨hpost,hb2⟩;rw[R2_eq,show jK [] []= [] from rfl,voc_R3]at hpost;rcases hpost with⟨_,⟨ta,tn,tc,ma,mn,mc,sa,sn,sc⟩,rfl,hv⟩ | ⟨hn,_⟩;rotate_left
 ·exact absurd good_R3 hn
 obtain⟨w3,hw3⟩:∃w3,w2.alloc (.cells #[.slice ta tn tc, .slice ma mn mc, .slice sa sn sc] 26)=w3:=⟨_,rfl⟩;have hb3:Below w2.heap.size w2 w3:=hw3▸aA w2 _;have HB3:Hid (Below w.heap.size w w3):=hW_ (hb2.trans (hb3.mono hb2.size));have HV3:=hW_ (hv.below hb3);have HU3:=hW_ ((HU.out.below hb2).below hb3);have HW3:=hW_ hw3;clear hw3 hb2 hb3 hv;simp only[Vd.val];go_wp2_with (fail);rw[HW3.out];refine(tL (dd:=⟨ta,tn,tc,ma,mn,mc,sa,sn,sc⟩) (kind:=2) (N:=[]) (T:=[]) (room:=4) w3 HV3.out ⟨fun s hs=>Nat.le_trans (qR.1.2.1 s hs) (by unfold maxLen;omega),⟨(fun s hs=>(by cases hs)),(show 0<=1048576 by omega)⟩⟩ Sl.none (by simp) (by omega) (SlF.nothing _) (by omega) HU3.out).mono ?_
 rintro e w5 ⟨hpost,hb5⟩;rcases hpost with⟨h,_⟩ | ⟨_,h,_⟩ | ⟨_,_,g,cb,mb,rfl,hcod⟩
 ·exact absurd qR h
 ·exact absurd okKit_3 h
 have hT5:=Cdr.new hcod (by omega);rw[show iB ([]:List Rg)=usR from rfl]at hT5;obtain⟨w6,hw6⟩:∃w6,w5.alloc (.cells #[.pointer (some ⟨g,0,none⟩), .slice none 0 0, .int .i64 0, .int .i64 0, .bool false] 110)=w6:=⟨_,rfl⟩;have hb6:Below w5.heap.size w5 w6:=hw6▸aA w5 _;have hx6:w6.heap[w5.heap.size]?=some (.cells #[.pointer (some ⟨g,0,none⟩), .slice none 0 0, .int .i64 0, .int .i64 0, .bool false] 110):=by rw[<-hw6];exact heap_alloc_new w5 _
 obtain⟨w7,hw7⟩:∃w7,w6.alloc (.cells #[.int .i64 119, .int .i64 101, .int .i64 39, .int .i64 114, .int .i64 101, .int .i64 32, .int .i64 111, .int .i64 110] 3)=w7:=⟨_,rfl⟩;have hb7:Below w6.heap.size w6 w7:=hw7▸aA w6 _;have hS7:SlI w7 (some ⟨w6.heap.size,0,none⟩) 8 8 A3:=by rw[<-hw7];exact aAQ w6 A3 _ rfl _ 8 rfl rfl (by omega) _
 have hb57:=hb6.trans (hb7.mono hb6.size);have hp7:PtR w7 w5.heap.size g none [] 0 0 false:=⟨0,(hb7.block _ (by rw[<-hw6];simp)).trans hx6,Sl.none⟩;have hG:=F8 w7 (hT5.below hb57) qR (by simp) wF (by omega) (by omega) (by omega) hp7 (fun h=>absurd h.2 (Nat.lt_irrefl _)) hS7 (show 0+8<=100000 by omega) (show(0:Int)+((0+8:Nat):Int)<1000000 by omega) rfl (H8 pQ) (by omega) (by omega);rw[List.nil_append]at hG;have HG:=hW_ hG;have HZ6:Hid (w6.heap.size=w5.heap.size+1):=hW_ (by rw[<-hw6];simp);have HW6:=hW_ hw6;have HW7:=hW_ hw7;have HB7:Hid (Below w.heap.size w w7):=hW_ (HB3.out.trans ((hb5.trans (hb57.mono hb5.size)).mono HB3.out.size));have HSZ:Hid (w5.heap.size<w7.heap.size/\w.heap.size<=w3.heap.size/\w3.heap.size<=w5.heap.size):=hW_ ⟨by have:=hp7.lt;exact this,HB3.out.size,hb5.size⟩;clear hb5 hcod hT5 hb6 hx6 hw6 hw7 hb7 hS7 hb57 hp7 hG;go_wp2_with (go_at_call 26;refine(fR g w5).mono ?_;rintro E W6 ⟨rfl,rfl⟩);rw[HW6.out,<-HZ6.out,HW7.out];go_at_call 27;refine HG.out.mono ?_
 rintro E w8 ⟨v8,rfl,o8,P8,ho8,hc8,hp8,hs8,hf8,-,hk8⟩;have hcm:mI V5 [] 2 usR A3 false= [119,101,39,114,101]:=by
  have h1:=com_3 (aH (V:=V5) (N:=[]) (kind:=2) (final:=false) wF (H8 pQ)) pQ;have h2:cE (B9 (dB 2 usR A3 false))=5:=n_3;unfold mI;rw[h1,h2];rfl
 have hcb:=V2 (V:=V5) (N:=[]) (kind:=2) (T:=usR) wF (e:=false) (A:=A3) (H8 pQ);rw[hcm]at ho8 hp8;rw[n_3]at hp8 hf8;obtain⟨a8,k8,rfl,-⟩:=ho8.sl;have e5:A3.drop 5= [32,111,110]:=by decide +kernel
 rw[e5]at hp8 hf8;have hb8:Below w3.heap.size w7 w8:=hk8.below (Nat.le_trans HSZ.out.2.2 (Nat.le_of_lt HSZ.out.1)) (fun q hq=>hq.elim (fun h=>h.1) (fun h=>h▸HSZ.out.2.2));obtain⟨w9,hw9⟩:∃w9,w8.alloc (.cells #[.int .i64 32] 3)=w9:=⟨_,rfl⟩;have hb9:Below w8.heap.size w8 w9:=hw9▸aA w8 _;have hS9:SlI w9 (some ⟨w8.heap.size,0,none⟩) 1 1 [32]:=by rw[<-hw9];exact aAQ w8 [32] _ rfl _ 1 rfl rfl (by omega) _
 have hp8':PtR w8 w5.heap.size g o8 [32,111,110] 5 5 false:=by simpa using hp8
 have hp9:PtR w9 w5.heap.size g o8 [32,111,110] 5 5 false:=hp8'.stay (hb9.block _ hp8'.lt) (fun ad e h0=>hb9.block _ (hp8'.olt ad e h0));have hpn:¬P8 w5.heap.size:=fun hq=>by
  rcases hs8 _ hq with h | h
  ·exact absurd h.2 (Nat.lt_irrefl _)
  ·have:=HSZ.out.1;omega
 have h42:qA V5 [] [32,111,110,32]=0:=H8 cW;have hG:=F8 w9 (hc8.below hb9) qR (by simp) wF (by omega) (by omega) (by omega) hp9 hpn hS9 (show 3+1<=100000 by omega) (by
  have h2:A3.length=8:=rfl;show(0:Int)+V4 2 usR A3 false+((3+1:Nat):Int)<1000000;omega) (H8 (by decide +kernel)) (H8 (by decide +kernel)) (by omega) (by omega)
 rw[show([32,111,110]:List Int)++ [32]= [32,111,110,32] from rfl]at hG;have HG:=hW_ hG;have HP8:=hW_ hp8';have HW9:=hW_ hw9;have HB9:Hid (Below w.heap.size w w9):=hW_ (HB7.out.trans ((hb8.trans (hb9.mono (Nat.le_trans (Nat.le_trans HSZ.out.2.2 (Nat.le_of_lt HSZ.out.1)) hb8.size))).mono HSZ.out.2.1));have HP8S:=hW_ (And.intro hs8 hc8.lt);have HZ8:Hid (w7.heap.size<=w8.heap.size/\w8.heap.size<=w9.heap.size):=hW_ ⟨hk8.size,hb9.size⟩;clear hG hcb hcm ho8 hc8 hp8 hs8 hf8 hk8 hb8 hw9 hb9 hS9 hp8' hp9 hpn e5 h42;go_wp2_with (go_at_call 31;refine(xO HP8.out).mono ?_;rintro E W8 ⟨rfl,rfl⟩);rw[HW9.out];go_at_call 27;refine HG.out.mono ?_
 rintro E w10 ⟨v10,rfl,o10,P10,ho10,hc10,hp10,hs10,hf10,-,hk10⟩;have hcm:mI V5 [] 2 usR [32,111,110,32] false= [32,111,110]:=by
  have h1:=com_3 (aH (V:=V5) (N:=[]) (kind:=2) (final:=false) wF (H8 cW)) cW;have h2:cE (B9 (dB 2 usR [32,111,110,32] false))=3:=n_4;unfold mI;rw[h1,h2];rfl
 rw[hcm]at ho10 hp10;rw[n_4]at hp10;have hp10':PtR w10 w5.heap.size g o10 [32] 8 8 false:=by simpa using hp10
 obtain⟨a10,k10,rfl,-⟩:=ho10.sl;obtain⟨cb10,hcod10⟩:=hc10.cod;have hO:=gX hcod10 hp10' (by simp) wF (by omega) (by omega);rw[open_3]at hO;have hb10:Below w3.heap.size w9 w10:=hk10.below (by have:=HSZ.out;have:=HZ8.out;omega) (fun q hq=>hq.elim (fun h=>by
  rcases HP8S.out.1 q h with h2 | h2
  ·exact h2.1
  ·have:=HSZ.out;omega) (fun h=>h▸HSZ.out.2.2))
 have HO:=hW_ hO;have HP10:=hW_ hp10';have HB10:Hid (Below w.heap.size w w10):=hW_ (HB9.out.trans (hb10.mono HSZ.out.2.1));clear hcm ho10 hc10 hp10 hp10' hs10 hf10 hk10 hcod10 hO hb10;go_wp2_with (first
  | (go_at_call 43;refine(Z4 HP10.out).mono ?_;rintro E W10 ⟨rfl,rfl⟩)
  | (go_at_call 28;refine HO.out.mono ?_;rintro E w11 ⟨rfl,hb11⟩;have HB11:=hW_ hb11;clear hb11))
 go_ret;exact⟨rfl,HB10.out.trans (HB11.out.mono HB10.out.size)⟩
variable {kind:Int} {T:List Rg} {final:Bool} {A:List Int}
def SpS (kind:Int) (T:List Rg) (final:Bool) (A:List Int) (i:Nat) (op:Bool) (ps:List (Int×Bool)):Prop:=
 dB kind T A final=ps++uA kind T final (A.length-i) (A.drop i) op/\i<=A.length/\ps.length<=i
theorem SpS.zero:SpS kind T final A 0 false []:=⟨rfl,Nat.zero_le _,Nat.le_refl _⟩
theorem SpS.mark {i:Nat} {op:Bool} {ps:List (Int×Bool)} (h:SpS kind T final A i op ps) (hi:i<A.length) (hr:lA (A.drop i)= []):SpS kind T final A (i+1) op (ps++ [(1,true)]):=by
 refine⟨?_,hi,by have:=h.2.2;simp;omega⟩;have e:=List.drop_eq_getElem_cons hi;have hm:isB A[i]=false:=by
  rw[e]at hr
  cases hb:isB A[i]with
  | false=>rfl
  | true=>unfold lA at hr;rw[List.takeWhile_cons,hb,if_pos rfl]at hr;cases hr
 rw[h.1,show A.length-i=(A.length-(i+1))+1 by omega,e,tC hm];simp
theorem SpS.run (hT:kA T) {i:Nat} {op d:Bool} {n:Int} {ps:List (Int×Bool)} (h:SpS kind T final A i op ps) (hr:lA (A.drop i)≠[])
  (hn:zA kind T (lA (A.drop i)) (final || decide (i+(lA (A.drop i)).length<A.length))=(n,d)):SpS kind T final A (i+n.toNat) (op || !d) (ps++ [(n,!(op || !d))])/\1<=n/\i+n.toNat<=A.length:=by
 have hl:=cH (A.drop i);rw[List.length_drop]at hl;have h0:=List.length_pos_iff.2 hr;have hle:=gF (kind:=kind) hT uG hr (final || decide (i+(lA (A.drop i)).length<A.length));rw[hn]at hle;simp only at hle;have hd:decide (i+(lA (A.drop i)).length<A.length)=decide ((lA (A.drop i)).length<(A.drop i).length):=by rw[List.length_drop];exact decide_eq_decide.2 (by omega)
 rw[hd]at hn;refine⟨⟨?_,by omega,by have:=h.2.2;simp;omega⟩,hle.1,by omega⟩;rw[h.1,show A.length-i=(A.length-(i+1))+1 by omega,sC hr hn,List.drop_drop,List.append_assoc];rw[cD hT (k:=A.length-(i+1)) (j:=A.length-(i+n.toNat)) (by simp only[List.length_drop];omega) (by simp only[List.length_drop];omega)];rfl
theorem SpS.done {i:Nat} {op:Bool} {ps:List (Int×Bool)} (h:SpS kind T final A i op ps) (hi:A.length<=i):dB kind T A final=ps:=by
 rw[h.1,List.drop_eq_nil_of_le hi,cC,List.append_nil]
theorem M8:∀{k:Nat} {text:List Int},(∀x∈text,isB x=true)->∀p∈uA kind T final k text true,p.2=false
 | 0,text,_,p,hp=>by simp[uA]at hp
 | k+1,text,h,p,hp=>by
  by_cases h0:text= []
  ·subst h0;rw[cC]at hp;cases hp
  ·have hr:lA text=text:=iP (fun x hx=>yC.1 (h x hx));rw[sC (n:=(zA kind T (lA text) (final || decide ((lA text).length<text.length))).1) (d:=(zA kind T (lA text) (final || decide ((lA text).length<text.length))).2) (by rw[hr];exact h0) rfl]at hp;rcases List.mem_cons.1 hp with rfl | hp
   ·rfl
   ·rw[Bool.true_or]at hp;exact M8 (fun x hx=>h x (List.mem_of_mem_drop hx)) p hp
theorem sK:∀{k:Nat} {text:List Int},(uA kind T final k text false).filter (fun p=>p.2)=B9 (uA kind T final k text false)
 | 0,text=>rfl
 | k+1,text=>by
  by_cases h0:text= []
  ·subst h0;rw[cC];rfl
  ·by_cases hr:lA text= []
   ·cases text with
    | nil=>exact absurd rfl h0
    | cons m l=>
     have hm:isB m=false:=by
      cases hb:isB m with
      | false=>rfl
      | true=>simp[lA,hb]at hr
     rw[tC hm,aG rfl,List.filter_cons_of_pos rfl,sK]
   ·obtain⟨⟨n,d⟩,hn⟩:∃x,zA kind T (lA text) (final || decide ((lA text).length<text.length))=x:=⟨_,rfl⟩;rw[sC hr hn]
    cases d with
    | true=>rw[aG rfl,List.filter_cons_of_pos rfl];exact congrArg _ sK
    | false=>
     rw[fL rfl,List.filter_cons_of_neg (by simp),List.filter_eq_nil_iff];have hb:∀x∈text,isB x=true:=by
      have hf:(final || decide ((lA text).length<text.length))=false:=by
       cases hb:(final || decide ((lA text).length<text.length))with
       | false=>rfl
       | true=>rw[hb]at hn;have:=H4 kind T (lA text);rw[hn]at this;cases this
      have hl:=cH text;simp only[Bool.or_eq_false_iff,decide_eq_false_iff_not]at hf;obtain⟨r,hr2⟩:lA text <+:text:=List.takeWhile_prefix isB;have hr0:r= []:=by
       have:=congrArg List.length hr2;rw[List.length_append]at this;exact List.eq_nil_of_length_eq_zero (by omega)
      rw[hr0,List.append_nil]at hr2;intro x hx;rw[<-hr2]at hx;exact yC.2 (uG x hx)
     intro p hp;have:=M8 (kind:=kind) (T:=T) (final:=final) (k:=k) (text:=text.drop n.toNat) (fun x hx=>hb x (List.mem_of_mem_drop hx)) p hp;rw[this];simp
def U5 (ps:List (Int×Bool)) (k:Nat):Nat:=cE ((ps.take k).filter (fun p=>p.2))
theorem aBP {ps:List (Int×Bool)} {k:Nat} {p:Int×Bool} (h:ps[k]?=some p):U5 ps (k+1)=U5 ps k+if p.2=true then p.1.toNat else 0:=by
 unfold U5;rw[List.take_add_one,h];simp only[Option.toList_some,List.filter_append,sW];congr 1
 by_cases g:p.2=true
 ·rw[if_pos g,List.filter_cons_of_pos g];simp[cE]
 ·rw[if_neg g,List.filter_cons_of_neg g];rfl
theorem sumD_all (kind:Int) (T:List Rg) (A:List Int) {k:Nat} (hk:(dB kind T A false).length<=k):U5 (dB kind T A false) k=pD kind T A false:=by
 unfold U5 pD;rw[List.take_of_length_le hk];unfold dB;rw[sK]
theorem sumP_sub {l m:List (Int×Bool)} (h:l.Sublist m):cE l<=cE m:=by
 induction h with
 | slnil=>exact Nat.le_refl _
 | cons a _ ih=>rw[iD];omega
 | cons_cons a _ ih=>rw[iD,iD];omega
theorem sumP_int {ps:List (Int×Bool)} (h:∀p∈ps,1<=p.1):((cE ps:Nat):Int)=(ps.map (·.1)).sum:=by
 induction ps with
 | nil=>rfl
 | cons p ps ih=>
  rw[iD,List.map_cons,List.sum_cons,<-ih fun q hq=>h q (by simp[hq])];have:=h p (by simp);omega
theorem sumD_le (hT:kA T) (k:Nat):U5 (dB kind T A final) k<=A.length/\∀p∈dB kind T A final,1<=p.1:=by
 have h:=J4 (kind:=kind) (t:=T) (final:=final) hT (k:=A.length) (text:=A) (op:=false) (Nat.le_refl _);have h2:=sumP_int h.2;rw[h.1]at h2;refine⟨?_,h.2⟩;have h3:U5 (dB kind T A final) k<=cE (dB kind T A final):=sumP_sub (List.filter_sublist.trans (List.take_sublist _ _));have h4:dB kind T A final=uA kind T final A.length A false:=rfl;rw[h4]at h3 |-;omega
def B1 (c:Int):Nat:=if c<128 then 1 else if 192<=c/\c<224 then 2 else if 224<=c/\c<240 then 3 else if 240<=c/\c<248 then 4 else 0
def oB:Nat->Int->List Int->Int
 | 0,p,_=>p
 | _+1,_,[]=> -1
 | k+1,p,x::l=>if x<128\/191<x then -1 else oB k (64*p+x-128) l
def lC (b:List Int) (n:Nat):Int:=match b with
 | []=> -1
 | c::l=>if n=1 then c else oB (n-1) (c-(if n=4 then 240 else if n=3 then 224 else 192)) l
def qK (p:Int):Option (List Int):=
 if p<0\/1114111<p\/(55296<=p/\p<=57343)then none
 else if p<128 then some [p]
 else if p<2048 then some [192+p / 64,128+p % 64]
 else if p<65536 then some [224+p / 4096,128+p / 64 % 64,128+p % 64]
 else some [240+p / 262144,128+p / 4096 % 64,128+p / 64 % 64,128+p % 64]
def uD (b:List Int) (n:Nat):Int:=if qK (lC b n)=some (b.take n)then lC b n else -1
def kI (n:Nat):Int:=if n=4 then 65536 else if n=3 then 2048 else 128
def nD (a c m:Int):Prop:=0<=a/\0<=c/\max a m<=min c 1114111/\¬(55296<=max a m/\min c 1114111<=57343)
instance (a c m:Int):Decidable (nD a c m):=by unfold nD;infer_instance
def yI (b:List Int) (n:Nat) (x:Int):List Int:=b++List.replicate (n-b.length) x
def C1 (b:List Int) (n:Nat):Prop:=nD (lC (yI b n 128) n) (lC (yI b n 191) n) (kI n)
instance (b:List Int) (n:Nat):Decidable (C1 b n):=by unfold C1;infer_instance
def N7 (final:Bool):List Int->Int×Int×Bool
 | []=>(-1,0,true)
 | c::l=>if 0<B1 c/\B1 c<=(c::l).length then(if 0<=uD (c::l) (B1 c)then(uD (c::l) (B1 c),B1 c,false)else(-1,1,false))
  else if 0<B1 c/\final=false/\C1 (c::l) (B1 c)then(-1,0,true)else(-1,1,false)
theorem aBr {final:Bool} {c:Int} {l:List Int} (h:194<=c/\c<224):dec final (c::l)=jB final 2 1 (c % 32) 128 191 l:=by
 have:aB c=(2,c % 32,128,191):=by unfold aB;rw[if_neg (by omega),if_neg (by omega),if_pos (by omega)]
 simp only[dec,this];rfl
theorem H6 {final:Bool} {c:Int} {l:List Int} (h:(128<=c/\c<194)\/244<c):dec final (c::l)=(-1,1,false):=by
 have:aB c=(0,0,0,0):=by unfold aB;rw[if_neg (by omega),if_pos (by omega)]
 simp only[dec,this];rfl
theorem dec_one {final:Bool} {c:Int} {l:List Int} (h:c<128):dec final (c::l)=(c,1,false):=by
 have:aB c=(1,c,0,0):=by unfold aB;rw[if_pos h]
 simp only[dec,this];rfl
def lo3 (c:Int):Int:=if c=224 then 160 else 128
def hi3 (c:Int):Int:=if c=237 then 159 else 191
def lo4 (c:Int):Int:=if c=240 then 144 else 128
def hi4 (c:Int):Int:=if c=244 then 143 else 191
theorem aCJ {final:Bool} {c:Int} {l:List Int} (h:224<=c/\c<240):dec final (c::l)=jB final 3 2 (c-224) (lo3 c) (hi3 c) l:=by
 have:aB c=(3,c-224,lo3 c,hi3 c):=by
  unfold aB lo3 hi3;rw[if_neg (by omega),if_neg (by omega),if_neg (by omega)]
  by_cases h1:c=224
  ·subst h1;rfl
  by_cases h2:c=237
  ·subst h2;rfl
  rw[if_neg h1,if_neg h2,if_pos (by omega),if_neg h1,if_neg h2];simp only[Prod.mk.injEq,and_true,true_and];omega
 simp only[dec,this];rfl
theorem N6 {final:Bool} {c:Int} {l:List Int} (h:240<=c/\c<=244):dec final (c::l)=jB final 4 3 (c-240) (lo4 c) (hi4 c) l:=by
 have:aB c=(4,c-240,lo4 c,hi4 c):=by
  unfold aB lo4 hi4;rw[if_neg (by omega),if_neg (by omega),if_neg (by omega),if_neg (by omega),if_neg (by omega),if_neg (by omega)]
  by_cases h1:c=240
  ·subst h1;rfl
  by_cases h2:c=244
  ·subst h2;rfl
  rw[if_neg h1,if_neg h2,if_neg h1,if_neg h2];simp only[Prod.mk.injEq,and_true,true_and];omega
 simp only[dec,this];rfl
theorem tD {b:List Int} {n:Nat} (h:qK (lC b n)≠some (b.take n)):uD b n= -1:=by unfold uD;rw[if_neg h]
theorem pI {b:List Int} {n:Nat} (h:qK (lC b n)=some (b.take n)):uD b n=lC b n:=by unfold uD;rw[if_pos h]
theorem pC {p:Int} (h:p<0\/1114111<p\/(55296<=p/\p<=57343)):qK p=none:=by unfold qK;rw[if_pos h]
theorem iY {p:Int} (h:0<=p/\p<128):qK p=some [p]:=by unfold qK;rw[if_neg (by omega),if_pos h.2]
theorem aBp {p:Int} (h:128<=p/\p<2048):qK p=some [192+p / 64,128+p % 64]:=by unfold qK;rw[if_neg (by omega),if_neg (by omega),if_pos h.2]
theorem encU3 {p:Int} (h:2048<=p/\p<65536) (h2:¬(55296<=p/\p<=57343)):qK p=some [224+p / 4096,128+p / 64 % 64,128+p % 64]:=by unfold qK;rw[if_neg (by omega),if_neg (by omega),if_neg (by omega),if_pos h.2]
theorem encU4 {p:Int} (h:65536<=p/\p<=1114111):qK p=some [240+p / 262144,128+p / 4096 % 64,128+p / 64 % 64,128+p % 64]:=by unfold qK;rw[if_neg (by omega),if_neg (by omega),if_neg (by omega),if_neg (by omega)]
theorem aBH {c:Int} {l:List Int} (h:0<=c/\c<128):uD (c::l) 1=c:=pI (iY h)
theorem aBG {c x:Int} {l:List Int} (h:192<=c/\c<224) (hx:0<=x/\x<256):uD (c::x::l) 2=if x<128\/191<x then -1 else if c<194 then -1 else 64*(c-192)+x-128:=by
 have e:lC (c::x::l) 2=if x<128\/191<x then -1 else 64*(c-192)+x-128:=by
  unfold lC;simp[oB]
 by_cases h1:x<128\/191<x
 ·rw[if_pos h1]at e |-;exact tD (by rw[e,pC (.inl (by omega))];simp)
 ·rw[if_neg h1]at e |-
  by_cases h2:c<194
  ·rw[if_pos h2];exact tD (by rw[e,iY (by omega)];simp)
  ·rw[if_neg h2,pI (by rw[e,aBp (by omega)];simp only[List.take_succ_cons,List.take_zero,Option.some.injEq,List.cons.injEq,and_true];omega),e]
theorem lW {c x y:Int} {l:List Int} (h:224<=c/\c<240) (hx:0<=x/\x<256) (hy:0<=y/\y<256):uD (c::x::y::l) 3=if x<lo3 c\/hi3 c<x then -1 else if y<128\/191<y then -1 else 64*(64*(c-224)+x-128)+y-128:=by
 have e:lC (c::x::y::l) 3=if x<128\/191<x then -1 else if y<128\/191<y then -1 else 64*(64*(c-224)+x-128)+y-128:=by
  unfold lC;simp[oB]
 by_cases h1:x<128\/191<x
 ·rw[if_pos h1]at e;rw[if_pos (by unfold lo3 hi3;split<;>split<;>omega)];exact tD (by rw[e,pC (.inl (by omega))];simp)
 rw[if_neg h1]at e
 by_cases h3:y<128\/191<y
 ·rw[if_pos h3]at e |-;rw[tD (by rw[e,pC (.inl (by omega))];simp)];split<;>rfl
 rw[if_neg h3]at e |-
 by_cases h2:x<lo3 c\/hi3 c<x
 ·rw[if_pos h2];unfold lo3 hi3 at h2;refine tD ?_
  rw[e]
  by_cases h4:c=224
  ·rw[if_pos h4,if_neg (by omega)]at h2
   by_cases h7:64*(64*(c-224)+x-128)+y-128<128
   ·rw[iY (by omega)];simp
   ·rw[aBp (by omega)];simp
  ·rw[if_neg h4]at h2
   by_cases h5:c=237
   ·rw[if_pos h5]at h2;rw[pC (by omega)];simp
   ·rw[if_neg h5]at h2;omega
 ·rw[if_neg h2];unfold lo3 hi3 at h2;rw[pI (by
   rw[e,encU3 (by split at h2<;>omega) (by split at h2<;>split at h2<;>omega)];simp only[List.take_succ_cons,List.take_zero,Option.some.injEq,List.cons.injEq,and_true];omega),e]
theorem eZ {c x y z:Int} {l:List Int} (h:240<=c/\c<248) (hx:0<=x/\x<256) (hy:0<=y/\y<256) (hz:0<=z/\z<256):uD (c::x::y::z::l) 4=if 244<c\/x<lo4 c\/hi4 c<x then -1 else if y<128\/191<y then -1 else if z<128\/191<z then -1 else 64*(64*(64*(c-240)+x-128)+y-128)+z-128:=by
 have e:lC (c::x::y::z::l) 4=if x<128\/191<x then -1 else if y<128\/191<y then -1 else if z<128\/191<z then -1 else 64*(64*(64*(c-240)+x-128)+y-128)+z-128:=by
  unfold lC;simp[oB]
 by_cases h1:x<128\/191<x
 ·rw[if_pos h1]at e;rw[if_pos (by unfold lo4 hi4;split<;>split<;>omega)];exact tD (by rw[e,pC (.inl (by omega))];simp)
 rw[if_neg h1]at e
 by_cases h3:y<128\/191<y
 ·rw[if_pos h3]at e |-;rw[tD (by rw[e,pC (.inl (by omega))];simp)];split<;>rfl
 rw[if_neg h3]at e |-
 by_cases h6:z<128\/191<z
 ·rw[if_pos h6]at e |-;rw[tD (by rw[e,pC (.inl (by omega))];simp)];split<;>rfl
 rw[if_neg h6]at e |-
 by_cases h2:244<c\/x<lo4 c\/hi4 c<x
 ·rw[if_pos h2];unfold lo4 hi4 at h2;refine tD ?_
  rw[e]
  by_cases h4:c=240
  ·rw[if_pos h4,if_neg (by omega)]at h2
   by_cases h7:64*(64*(64*(c-240)+x-128)+y-128)+z-128<128
   ·rw[iY (by omega)];simp
   ·by_cases h8:64*(64*(64*(c-240)+x-128)+y-128)+z-128<2048
    ·rw[aBp (by omega)];simp
    ·by_cases h9:55296<=64*(64*(64*(c-240)+x-128)+y-128)+z-128/\64*(64*(64*(c-240)+x-128)+y-128)+z-128<=57343
     ·rw[pC (.inr (.inr h9))];simp
     ·rw[encU3 (by omega) h9];simp
  ·rw[if_neg h4]at h2;rw[pC (by split at h2<;>omega)];simp
 ·rw[if_neg h2];unfold lo4 hi4 at h2;rw[pI (by
   rw[e,encU4 (by split at h2<;>split at h2<;>omega)];simp only[List.take_succ_cons,List.take_zero,Option.some.injEq,List.cons.injEq,and_true];omega),e]
theorem aBs {final:Bool}:∀{b:List Int},(∀x∈b,0<=x/\x<256)->N7 final b=dec final b
 | [],_=>rfl
 | c::l,hb=>by
  have hc:=hb c (by simp);have hl:∀x∈l,0<=x/\x<256:=fun x hx=>hb x (by simp[hx])
  by_cases r1:c<128
  ·have hn:B1 c=1:=by unfold B1;rw[if_pos r1]
   simp only[N7,hn];rw[if_pos ⟨by omega,by simp⟩,aBH ⟨hc.1,r1⟩,if_pos hc.1,dec_one r1];rfl
  by_cases r2:c<192
  ·have hn:B1 c=0:=by unfold B1;rw[if_neg r1,if_neg (by omega),if_neg (by omega),if_neg (by omega)]
   simp only[N7,hn];rw[if_neg (by omega),if_neg (by omega),H6 (.inl ⟨by omega,by omega⟩)]
  by_cases r3:c<224
  ·have hn:B1 c=2:=by unfold B1;rw[if_neg r1,if_pos ⟨by omega,r3⟩]
   simp only[N7,hn]
   match l,hl with
   | [],hl=>
    rw[if_neg (by simp)];have hm:C1 [c] 2↔194<=c:=by
     unfold C1 nD kI yI lC;simp[oB];omega
    by_cases r4:c<194
    ·rw[if_neg (fun h=>by have:=hm.1 h.2.2;omega),H6 (.inl ⟨by omega,r4⟩)]
    ·rw[aBr ⟨by omega,r3⟩]
     cases final with
     | true=>rw[if_neg (by simp)];simp[jB]
     | false=>rw[if_pos ⟨by omega,rfl,hm.2 (by omega)⟩];simp[jB]
   | x::l,hl=>
    have hx:=hl x (by simp);rw[if_pos ⟨by omega,by simp⟩,aBG ⟨by omega,r3⟩ hx]
    by_cases r4:c<194
    ·rw[H6 (.inl ⟨by omega,r4⟩)]
     by_cases r5:x<128\/191<x
     ·rw[if_pos r5];rfl
     ·rw[if_neg r5,if_pos r4];rfl
    ·rw[aBr ⟨by omega,r3⟩];simp only[jB]
     by_cases r5:x<128\/191<x
     ·rw[if_pos r5,if_pos r5];rfl
     ·rw[if_neg r5,if_neg r5,if_neg r4,if_pos (by omega)];simp only[Prod.mk.injEq,and_true];exact⟨by omega,rfl⟩
  by_cases r4:c<240
  ·have hn:B1 c=3:=by unfold B1;rw[if_neg r1,if_neg (by omega),if_pos ⟨by omega,r4⟩]
   simp only[N7,hn];rw[aCJ ⟨by omega,r4⟩]
   match l,hl with
   | [],hl=>
    rw[if_neg (by simp)];have hm:C1 [c] 3:=by
     unfold C1 nD kI yI lC;simp[oB];omega
    cases final with
    | true=>rw[if_neg (by simp)];simp[jB]
    | false=>rw[if_pos ⟨by omega,rfl,hm⟩];simp[jB]
   | [x],hl=>
    have hx:=hl x (by simp);rw[if_neg (by simp)];have hm:C1 [c,x] 3↔¬(x<lo3 c\/hi3 c<x):=by
     unfold C1 nD kI yI lC lo3 hi3
     by_cases r5:x<128\/191<x
     ·simp[oB,r5];split<;>split<;>omega
     ·simp[oB,r5];split<;>split<;>omega
    simp only[jB]
    by_cases r5:x<lo3 c\/hi3 c<x
    ·rw[if_pos r5,if_neg (fun h=>hm.1 h.2.2 r5)]
    ·rw[if_neg r5]
     cases final with
     | true=>rw[if_neg (by simp)];rfl
     | false=>rw[if_pos ⟨by omega,rfl,hm.2 r5⟩];rfl
   | x::y::l,hl=>
    have hx:=hl x (by simp);have hy:=hl y (by simp);rw[if_pos ⟨by omega,by simp⟩,lW ⟨by omega,r4⟩ hx hy];simp only[jB]
    by_cases r5:x<lo3 c\/hi3 c<x
    ·rw[if_pos r5,if_pos r5];rfl
    ·rw[if_neg r5,if_neg r5];have hx2:128<=x/\x<=191:=by unfold lo3 hi3 at r5;split at r5<;>split at r5<;>omega
     by_cases r6:y<128\/191<y
     ·rw[if_pos r6,if_pos r6];rfl
     ·rw[if_neg r6,if_neg r6,if_pos (by omega)];simp only[Prod.mk.injEq,and_true];exact⟨by omega,rfl⟩
  by_cases r5:c<248
  ·have hn:B1 c=4:=by unfold B1;rw[if_neg r1,if_neg (by omega),if_neg (by omega),if_pos ⟨by omega,r5⟩]
   simp only[N7,hn]
   match l,hl with
   | [],hl=>
    rw[if_neg (by simp)];have hm:C1 [c] 4↔c<=244:=by
     unfold C1 nD kI yI lC;simp[oB];omega
    by_cases r6:c<=244
    ·rw[N6 ⟨by omega,r6⟩]
     cases final with
     | true=>rw[if_neg (by simp)];simp[jB]
     | false=>rw[if_pos ⟨by omega,rfl,hm.2 r6⟩];simp[jB]
    ·rw[if_neg (fun h=>r6 (hm.1 h.2.2)),H6 (.inr (by omega))]
   | [x],hl=>
    have hx:=hl x (by simp);rw[if_neg (by simp)];have hm:C1 [c,x] 4↔¬(244<c\/x<lo4 c\/hi4 c<x):=by
     unfold C1 nD kI yI lC lo4 hi4
     by_cases r5:x<128\/191<x
     ·simp[oB,r5];split<;>split<;>omega
     ·simp[oB,r5];split<;>split<;>omega
    by_cases r6:244<c
    ·rw[if_neg (fun h=>hm.1 h.2.2 (.inl r6)),H6 (.inr r6)]
    ·rw[N6 ⟨by omega,by omega⟩];simp only[jB]
     by_cases r7:x<lo4 c\/hi4 c<x
     ·rw[if_pos r7,if_neg (fun h=>hm.1 h.2.2 (.inr r7))]
     ·rw[if_neg r7]
      cases final with
      | true=>rw[if_neg (by simp)];rfl
      | false=>rw[if_pos ⟨by omega,rfl,hm.2 (by omega)⟩];rfl
   | [x,y],hl=>
    have hx:=hl x (by simp);have hy:=hl y (by simp);rw[if_neg (by simp)];have hm:C1 [c,x,y] 4↔¬(244<c\/x<lo4 c\/hi4 c<x)/\¬(y<128\/191<y):=by
     unfold C1 nD kI yI lC lo4 hi4
     by_cases r5:x<128\/191<x
     ·simp[oB,r5];split<;>split<;>omega
     ·by_cases r6:y<128\/191<y
      ·simp[oB,r5,r6];try omega
      ·simp[oB,r5,r6];split<;>split<;>omega
    by_cases r6:244<c
    ·rw[if_neg (fun h=>(hm.1 h.2.2).1 (.inl r6)),H6 (.inr r6)]
    ·rw[N6 ⟨by omega,by omega⟩];simp only[jB]
     by_cases r7:x<lo4 c\/hi4 c<x
     ·rw[if_pos r7,if_neg (fun h=>(hm.1 h.2.2).1 (.inr r7))]
     ·rw[if_neg r7]
      by_cases r8:y<128\/191<y
      ·rw[if_pos r8,if_neg (fun h=>(hm.1 h.2.2).2 r8)]
      ·rw[if_neg r8]
       cases final with
       | true=>rw[if_neg (by simp)];rfl
       | false=>rw[if_pos ⟨by omega,rfl,hm.2 ⟨by omega,r8⟩⟩];rfl
   | x::y::z::l,hl=>
    have hx:=hl x (by simp);have hy:=hl y (by simp);have hz:=hl z (by simp);rw[if_pos ⟨by omega,by simp⟩,eZ ⟨by omega,r5⟩ hx hy hz]
    by_cases r6:244<c
    ·have q:244<c\/x<lo4 c\/hi4 c<x:= .inl r6;rw[if_pos q,H6 (.inr r6)];rfl
    ·rw[N6 ⟨by omega,by omega⟩];simp only[jB]
     by_cases r7:x<lo4 c\/hi4 c<x
     ·have q:244<c\/x<lo4 c\/hi4 c<x:= .inr r7;rw[if_pos r7,if_pos q];rfl
     ·have q:¬(244<c\/x<lo4 c\/hi4 c<x):=by omega
      rw[if_neg r7,if_neg q];have hx2:128<=x/\x<=191:=by unfold lo4 hi4 at r7;split at r7<;>split at r7<;>omega
      by_cases r8:y<128\/191<y
      ·rw[if_pos r8,if_pos r8];rfl
      ·rw[if_neg r8,if_neg r8]
       by_cases r9:z<128\/191<z
       ·rw[if_pos r9,if_pos r9];rfl
       ·rw[if_neg r9,if_neg r9,if_pos (by omega)];simp only[Prod.mk.injEq,and_true];exact⟨by omega,rfl⟩
  ·have hn:B1 c=0:=by unfold B1;rw[if_neg r1,if_neg (by omega),if_neg (by omega),if_neg (by omega)]
   simp only[N7,hn];rw[if_neg (by omega),if_neg (by omega),H6 (.inr (by omega))]
theorem X2 {s:ByteArray} {i:Nat} (h:i<s.size):ix (cA s) i=(s[i].toNat:Int):=by
 have:=lU h;simp[ix,List.getD,this]
theorem E2 {s:ByteArray} {i:Nat} (h:i<s.size):(cA s).drop i=(s[i].toNat:Int)::(cA s).drop (i+1):=by
 have hl:i<(cA s).length:=by rw[A8];exact h
 rw[List.drop_eq_getElem_cons hl];congr 1;have:=lU h;rw[List.getElem?_eq_getElem hl]at this;exact Option.some.inj this
theorem bX (c:Int) (w:World) (h0:0<=c):Calls Tryz.prog 99 #[.int .u8 c] w fun e w'=>e= .returned (.int .i64 ((B1 c:Nat):Int))/\w'=w:=by
 by_cases r128:c<128
 ·have l128:decide (c<128)=true:=by simp;omega
  have l224:decide (c<224)=true:=by simp;omega
  have l240:decide (c<240)=true:=by simp;omega
  have l248:decide (c<248)=true:=by simp;omega
  have g192:decide (192<=c)=false:=by simp;omega
  have g224:decide (224<=c)=false:=by simp;omega
  have g240:decide (240<=c)=false:=by simp;omega
  have hF:B1 c=1:=by unfold B1;repeat' (first | rw[if_pos (by omega)] | rw[if_neg (by omega)])
  have HF:=hW_ hF;clear hF;have c1:c<128:=by omega
  go_enter Tryz.func99,Tryz.ntmps99;go_wp2_with (fail);go_ret;exact⟨by rw[HF.out];rfl,rfl⟩
 by_cases r192:c<192
 ·have l128:decide (c<128)=false:=by simp;omega
  have l224:decide (c<224)=true:=by simp;omega
  have l240:decide (c<240)=true:=by simp;omega
  have l248:decide (c<248)=true:=by simp;omega
  have g192:decide (192<=c)=false:=by simp;omega
  have g224:decide (224<=c)=false:=by simp;omega
  have g240:decide (240<=c)=false:=by simp;omega
  have hF:B1 c=0:=by unfold B1;repeat' (first | rw[if_pos (by omega)] | rw[if_neg (by omega)])
  have HF:=hW_ hF;clear hF;have c1:¬c<128:=by omega
  go_enter Tryz.func99,Tryz.ntmps99;go_wp2_with (fail);go_ret;exact⟨by rw[HF.out];rfl,rfl⟩
 by_cases r224:c<224
 ·have l128:decide (c<128)=false:=by simp;omega
  have l224:decide (c<224)=true:=by simp;omega
  have l240:decide (c<240)=true:=by simp;omega
  have l248:decide (c<248)=true:=by simp;omega
  have g192:decide (192<=c)=true:=by simp;omega
  have g224:decide (224<=c)=false:=by simp;omega
  have g240:decide (240<=c)=false:=by simp;omega
  have hF:B1 c=2:=by unfold B1;repeat' (first | rw[if_pos (by omega)] | rw[if_neg (by omega)])
  have HF:=hW_ hF;clear hF;have c1:¬c<128:=by omega
  go_enter Tryz.func99,Tryz.ntmps99;go_wp2_with (fail);go_ret;exact⟨by rw[HF.out];rfl,rfl⟩
 by_cases r240:c<240
 ·have l128:decide (c<128)=false:=by simp;omega
  have l224:decide (c<224)=false:=by simp;omega
  have l240:decide (c<240)=true:=by simp;omega
  have l248:decide (c<248)=true:=by simp;omega
  have g192:decide (192<=c)=true:=by simp;omega
  have g224:decide (224<=c)=true:=by simp;omega
  have g240:decide (240<=c)=false:=by simp;omega
  have hF:B1 c=3:=by unfold B1;repeat' (first | rw[if_pos (by omega)] | rw[if_neg (by omega)])
  have HF:=hW_ hF;clear hF;have c1:¬c<128:=by omega
  go_enter Tryz.func99,Tryz.ntmps99;go_wp2_with (fail);go_ret;exact⟨by rw[HF.out];rfl,rfl⟩
 by_cases r248:c<248
 ·have l128:decide (c<128)=false:=by simp;omega
  have l224:decide (c<224)=false:=by simp;omega
  have l240:decide (c<240)=false:=by simp;omega
  have l248:decide (c<248)=true:=by simp;omega
  have g192:decide (192<=c)=true:=by simp;omega
  have g224:decide (224<=c)=true:=by simp;omega
  have g240:decide (240<=c)=true:=by simp;omega
  have hF:B1 c=4:=by unfold B1;repeat' (first | rw[if_pos (by omega)] | rw[if_neg (by omega)])
  have HF:=hW_ hF;clear hF;have c1:¬c<128:=by omega
  go_enter Tryz.func99,Tryz.ntmps99;go_wp2_with (fail);go_ret;exact⟨by rw[HF.out];rfl,rfl⟩
 have l128:decide (c<128)=false:=by simp;omega
 have l224:decide (c<224)=false:=by simp;omega
 have l240:decide (c<240)=false:=by simp;omega
 have l248:decide (c<248)=false:=by simp;omega
 have g192:decide (192<=c)=true:=by simp;omega
 have g224:decide (224<=c)=true:=by simp;omega
 have g240:decide (240<=c)=true:=by simp;omega
 have hF:B1 c=0:=by unfold B1;repeat' (first | rw[if_pos (by omega)] | rw[if_neg (by omega)])
 have HF:=hW_ hF;clear hF;have c1:¬c<128:=by omega
 go_enter Tryz.func99,Tryz.ntmps99;go_wp2_with (fail);go_ret;exact⟨by rw[HF.out];rfl,rfl⟩
def bd (i:Nat):Int:=if i<=1 then 300 else if i=2 then 20000 else if i=3 then 1300000 else 90000000
theorem aBz (i:Nat):0<=bd i/\bd i<=90000000:=by unfold bd;split<;>(try split)<;>(try split)<;>omega
theorem qQ {i:Nat} (h:i<4) (h1:1<=i):64*bd i+64<=bd (i+1):=by
 have:i=1\/i=2\/i=3:=by omega
 rcases this with rfl | rfl | rfl<;>decide
def cO (n:Nat):Int:=if n=4 then 240 else if n=3 then 224 else 192
theorem Y4 {s:ByteArray} {n:Nat} (h0:0<s.size) (hn:n≠1):lC (cA s) n=oB (n-1) ((s[0].toNat:Int)-cO n) ((cA s).drop 1):=by
 have e:cA s=(s[0].toNat:Int)::(cA s).drop 1:=by
  have:=E2 h0
  rwa [List.drop_zero]at this
 rw[e];unfold lC cO;simp only;rw[if_neg hn];rfl
theorem mU {s:ByteArray} (h0:0<s.size):lC (cA s) 1=(s[0].toNat:Int):=by
 have e:cA s=(s[0].toNat:Int)::(cA s).drop 1:=by
  have:=E2 h0
  rwa [List.drop_zero]at this
 rw[e];rfl
theorem J6 (s:ByteArray) (n:Nat) (w:World) (h1:1<=n) (h4:n<=4) (hs:n<=s.size):Calls Tryz.prog 132 #[.string s, .int .i64 n] w fun e w'=>e= .returned (.int .i64 (lC (cA s) n))/\w'=w:=by
 have h0:0<s.size:=by omega
 obtain⟨c,hc⟩:∃c:Int,(s[0].toNat:Int)=c:=⟨_,rfl⟩;have hc8:=s[0].toNat_lt;have hcw:IntKind.i64.wrap c=c:=by rw[IntKind.wrap_i64];omega
 have hcw2:wrap64 c=c:=by unfold wrap64;omega
 by_cases n1:n=1
 ·subst n1;have HF:Hid (lC (cA s) 1=c):=hW_ (by rw[mU h0,hc]);go_enter Tryz.func132,Tryz.ntmps132;go_wp2_with (fail);go_ret;exact⟨by rw[HF.out];rfl,rfl⟩
 have hbe:=Y4 h0 n1;rw[hc]at hbe;obtain⟨R,hR⟩:∃R,lC (cA s) n=R:=⟨_,rfl⟩;rw[hR]at hbe |-;have hw1:IntKind.i64.wrap (c-192)=c-192:=by rw[IntKind.wrap_i64];omega
 have hw2:IntKind.i64.wrap (c-224)=c-224:=by rw[IntKind.wrap_i64];omega
 have hw3:IntKind.i64.wrap (c-240)=c-240:=by rw[IntKind.wrap_i64];omega
 have HBE:=hW_ hbe.symm;have HP:Hid (-bd 1<=c-cO n/\c-cO n<=bd 1):=hW_ (by have e:bd 1=300:=rfl;rw[e];unfold cO;split<;>(try split)<;>omega);clear hbe hR;rcases(show n=2\/n=3\/n=4 by omega)with rfl | rfl | rfl
 ·go_enter Tryz.func132,Tryz.ntmps132;go_wp2_with (fail);go_loopw [6,7] (fun p i wr=>∃(k:Nat) (q:Int),1<=k/\k<=2/\i= .int .i64 k/\p= .int .i64 q/\Hid (oB (2-k) q ((cA s).drop k)=R)/\Hid (-bd k<=q/\q<=bd k)/\wr=w) (fun _ i _=>2-(intOf i).toNat)
  case atStart=>exact⟨1,c-cO 2,Nat.le_refl _,by omega,rfl,rfl,HBE,HP,rfl⟩
  case round=>
   obtain⟨k,q,hk1,hk2,rfl,rfl,HQ,HD,rfl⟩:=hrel
   by_cases hlt:k<2
   ·have hks:k<s.size:=by omega
    have gk:(k:Int)<2:=by omega
    obtain⟨x,hx⟩:∃x:Int,(s[k].toNat:Int)=x:=⟨_,rfl⟩;have hx8:=s[k].toNat_lt;have hd:=E2 hks;rw[hx]at hd;obtain⟨j,hj⟩:∃j,2-k=j+1:=⟨2-k-1,by omega⟩;have hq:=HQ.out;rw[hj,hd]at hq;simp only[oB]at hq;have hbn:=qQ (show k<4 by omega) hk1;have hbl:=aBz k;have hdd:=HD.out;have m1:IntKind.i64.wrap (64*q)=64*q:=by rw[IntKind.wrap_i64];omega
    have m2:IntKind.i64.wrap (64*q+x)=64*q+x:=by rw[IntKind.wrap_i64];omega
    have m3:IntKind.i64.wrap (64*q+x-128)=64*q+x-128:=by rw[IntKind.wrap_i64];omega
    have hxw:IntKind.i64.wrap x=x:=by rw[IntKind.wrap_i64];omega
    have hxw2:wrap64 x=x:=by unfold wrap64;omega
    by_cases x1:x<128
    ·have g1:decide (x<128)=true:=by simpa using x1
     rw[if_pos (.inl x1)]at hq;have HE:=hW_ hq;clear hq hd hbn hbl hdd;go_wp2_with (fail);refine bodyPost_ret (results_tmp rfl _ _ _) rfl ⟨by rw[<-HE.out];rfl,rfl⟩
    have g1:decide (x<128)=false:=by simpa using x1
    by_cases x2:191<x
    ·have g2:decide (191<x)=true:=by simpa using x2
     rw[if_pos (.inr x2)]at hq;have HE:=hW_ hq;clear hq hd hbn hbl hdd;go_wp2_with (fail);refine bodyPost_ret (results_tmp rfl _ _ _) rfl ⟨by rw[<-HE.out];rfl,rfl⟩
    have g2:decide (191<x)=false:=by simpa using x2
    rw[if_neg (by omega)]at hq;have HE:Hid (oB (2-(k+1)) (64*q+x-128) ((cA s).drop (k+1))=R):=hW_ (by rw[show 2-(k+1)=j by omega];exact hq);have HD2:Hid (-bd (k+1)<=64*q+x-128/\64*q+x-128<=bd (k+1)):=hW_ (by omega);clear hq hd hbn hbl hdd x1 x2 hj;go_wp2_with (fail);go_roundw
    case rel=>exact⟨k+1,64*q+x-128,by omega,by omega,by go_num,rfl,HE,HD2,by first | rfl | trivial⟩
    case measure=>simp[intOf];omega
   ·obtain rfl:k=2:=by omega
    have HE:Hid (q=R):=hW_ HQ.out;go_wp2_with (fail);go_ret;exact⟨by first | (rw[HE.out];rfl) | rfl,rfl⟩
 ·go_enter Tryz.func132,Tryz.ntmps132;go_wp2_with (fail);go_loopw [6,7] (fun p i wr=>∃(k:Nat) (q:Int),1<=k/\k<=3/\i= .int .i64 k/\p= .int .i64 q/\Hid (oB (3-k) q ((cA s).drop k)=R)/\Hid (-bd k<=q/\q<=bd k)/\wr=w) (fun _ i _=>3-(intOf i).toNat)
  case atStart=>exact⟨1,c-cO 3,Nat.le_refl _,by omega,rfl,rfl,HBE,HP,rfl⟩
  case round=>
   obtain⟨k,q,hk1,hk2,rfl,rfl,HQ,HD,rfl⟩:=hrel
   by_cases hlt:k<3
   ·have hks:k<s.size:=by omega
    have gk:(k:Int)<3:=by omega
    obtain⟨x,hx⟩:∃x:Int,(s[k].toNat:Int)=x:=⟨_,rfl⟩;have hx8:=s[k].toNat_lt;have hd:=E2 hks;rw[hx]at hd;obtain⟨j,hj⟩:∃j,3-k=j+1:=⟨3-k-1,by omega⟩;have hq:=HQ.out;rw[hj,hd]at hq;simp only[oB]at hq;have hbn:=qQ (show k<4 by omega) hk1;have hbl:=aBz k;have hdd:=HD.out;have m1:IntKind.i64.wrap (64*q)=64*q:=by rw[IntKind.wrap_i64];omega
    have m2:IntKind.i64.wrap (64*q+x)=64*q+x:=by rw[IntKind.wrap_i64];omega
    have m3:IntKind.i64.wrap (64*q+x-128)=64*q+x-128:=by rw[IntKind.wrap_i64];omega
    have hxw:IntKind.i64.wrap x=x:=by rw[IntKind.wrap_i64];omega
    have hxw2:wrap64 x=x:=by unfold wrap64;omega
    by_cases x1:x<128
    ·have g1:decide (x<128)=true:=by simpa using x1
     rw[if_pos (.inl x1)]at hq;have HE:=hW_ hq;clear hq hd hbn hbl hdd;go_wp2_with (fail);refine bodyPost_ret (results_tmp rfl _ _ _) rfl ⟨by rw[<-HE.out];rfl,rfl⟩
    have g1:decide (x<128)=false:=by simpa using x1
    by_cases x2:191<x
    ·have g2:decide (191<x)=true:=by simpa using x2
     rw[if_pos (.inr x2)]at hq;have HE:=hW_ hq;clear hq hd hbn hbl hdd;go_wp2_with (fail);refine bodyPost_ret (results_tmp rfl _ _ _) rfl ⟨by rw[<-HE.out];rfl,rfl⟩
    have g2:decide (191<x)=false:=by simpa using x2
    rw[if_neg (by omega)]at hq;have HE:Hid (oB (3-(k+1)) (64*q+x-128) ((cA s).drop (k+1))=R):=hW_ (by rw[show 3-(k+1)=j by omega];exact hq);have HD2:Hid (-bd (k+1)<=64*q+x-128/\64*q+x-128<=bd (k+1)):=hW_ (by omega);clear hq hd hbn hbl hdd x1 x2 hj;go_wp2_with (fail);go_roundw
    case rel=>exact⟨k+1,64*q+x-128,by omega,by omega,by go_num,rfl,HE,HD2,by first | rfl | trivial⟩
    case measure=>simp[intOf];omega
   ·obtain rfl:k=3:=by omega
    have HE:Hid (q=R):=hW_ HQ.out;go_wp2_with (fail);go_ret;exact⟨by first | (rw[HE.out];rfl) | rfl,rfl⟩
 ·go_enter Tryz.func132,Tryz.ntmps132;go_wp2_with (fail);go_loopw [6,7] (fun p i wr=>∃(k:Nat) (q:Int),1<=k/\k<=4/\i= .int .i64 k/\p= .int .i64 q/\Hid (oB (4-k) q ((cA s).drop k)=R)/\Hid (-bd k<=q/\q<=bd k)/\wr=w) (fun _ i _=>4-(intOf i).toNat)
  case atStart=>exact⟨1,c-cO 4,Nat.le_refl _,by omega,rfl,rfl,HBE,HP,rfl⟩
  case round=>
   obtain⟨k,q,hk1,hk2,rfl,rfl,HQ,HD,rfl⟩:=hrel
   by_cases hlt:k<4
   ·have hks:k<s.size:=by omega
    have gk:(k:Int)<4:=by omega
    obtain⟨x,hx⟩:∃x:Int,(s[k].toNat:Int)=x:=⟨_,rfl⟩;have hx8:=s[k].toNat_lt;have hd:=E2 hks;rw[hx]at hd;obtain⟨j,hj⟩:∃j,4-k=j+1:=⟨4-k-1,by omega⟩;have hq:=HQ.out;rw[hj,hd]at hq;simp only[oB]at hq;have hbn:=qQ (show k<4 by omega) hk1;have hbl:=aBz k;have hdd:=HD.out;have m1:IntKind.i64.wrap (64*q)=64*q:=by rw[IntKind.wrap_i64];omega
    have m2:IntKind.i64.wrap (64*q+x)=64*q+x:=by rw[IntKind.wrap_i64];omega
    have m3:IntKind.i64.wrap (64*q+x-128)=64*q+x-128:=by rw[IntKind.wrap_i64];omega
    have hxw:IntKind.i64.wrap x=x:=by rw[IntKind.wrap_i64];omega
    have hxw2:wrap64 x=x:=by unfold wrap64;omega
    by_cases x1:x<128
    ·have g1:decide (x<128)=true:=by simpa using x1
     rw[if_pos (.inl x1)]at hq;have HE:=hW_ hq;clear hq hd hbn hbl hdd;go_wp2_with (fail);refine bodyPost_ret (results_tmp rfl _ _ _) rfl ⟨by rw[<-HE.out];rfl,rfl⟩
    have g1:decide (x<128)=false:=by simpa using x1
    by_cases x2:191<x
    ·have g2:decide (191<x)=true:=by simpa using x2
     rw[if_pos (.inr x2)]at hq;have HE:=hW_ hq;clear hq hd hbn hbl hdd;go_wp2_with (fail);refine bodyPost_ret (results_tmp rfl _ _ _) rfl ⟨by rw[<-HE.out];rfl,rfl⟩
    have g2:decide (191<x)=false:=by simpa using x2
    rw[if_neg (by omega)]at hq;have HE:Hid (oB (4-(k+1)) (64*q+x-128) ((cA s).drop (k+1))=R):=hW_ (by rw[show 4-(k+1)=j by omega];exact hq);have HD2:Hid (-bd (k+1)<=64*q+x-128/\64*q+x-128<=bd (k+1)):=hW_ (by omega);clear hq hd hbn hbl hdd x1 x2 hj;go_wp2_with (fail);go_roundw
    case rel=>exact⟨k+1,64*q+x-128,by omega,by omega,by go_num,rfl,HE,HD2,by first | rfl | trivial⟩
    case measure=>simp[intOf];omega
   ·obtain rfl:k=4:=by omega
    have HE:Hid (q=R):=hW_ HQ.out;go_wp2_with (fail);go_ret;exact⟨by first | (rw[HE.out];rfl) | rfl,rfl⟩
def encR:Option (List Int)->Value
 | none=> .tuple #[.string ByteArray.empty, .bool false]
 | some L=> .tuple #[.string (mK L), .bool true]
theorem Sl.lit8 (w:World) (vs:List Value) (cs:Array Value) (hcs:cs=vs.toArray) (n:Nat) (hn:n=vs.length) (hm:n<=100) (t:TypeId):Sl (w.alloc (.cells cs t)) (some ⟨w.heap.size,0, .none⟩) n n vs:=by
 subst hn hcs;refine⟨rfl,Nat.le_refl _,by unfold maxLen;omega,fun h=>(by cases h),fun i u hu=>⟨_,_,rfl,?_⟩⟩;simp[hu]
theorem gQ (w:World) (vs:List Int) (n:Nat) (hn:n=vs.length) (hm:n<=100) (cs:Array Value) (hcs:cs=(vs.map (.int .u8)).toArray) (t:TypeId):SlB (w.alloc (.cells cs t)) (some ⟨w.heap.size,0, .none⟩) n n vs:=
 Sl.lit8 w _ _ hcs _ (by simpa using hn) hm t
theorem xS (p:Int) (w:World) (hp: -100000000<=p/\p<=100000000):Calls Tryz.prog 133 #[.int .i64 p] w fun e w'=>e= .returned (encR (qK p))/\Below w.heap.size w w':=by
 by_cases r1:p<0
 ·have g1:decide (p<0)=true:=by simpa using r1
  have HE:=hW_ (pC (p:=p) (.inl r1));go_enter Tryz.func133,Tryz.ntmps133;go_wp2_with (fail);refine bodyPost_ret (v:= .tuple #[.string ByteArray.empty, .bool false]) ?_ rfl ⟨by rw[HE.out];rfl,Below.refl _ _⟩
  simp[results,Tryz.results133,go_sem]
  try rfl
 have g1:decide (p<0)=false:=by simpa using r1
 by_cases r2:1114111<p
 ·have g2:decide (1114111<p)=true:=by simpa using r2
  have HE:=hW_ (pC (p:=p) (.inr (.inl r2)));go_enter Tryz.func133,Tryz.ntmps133;go_wp2_with (fail);refine bodyPost_ret (v:= .tuple #[.string ByteArray.empty, .bool false]) ?_ rfl ⟨by rw[HE.out];rfl,Below.refl _ _⟩
  simp[results,Tryz.results133,go_sem]
  try rfl
 have g2:decide (1114111<p)=false:=by simpa using r2
 by_cases r3:55296<=p/\p<=57343
 ·have g3:decide (55296<=p)=true:=by simpa using r3.1
  have g4:decide (p<=57343)=true:=by simpa using r3.2
  have HE:=hW_ (pC (p:=p) (.inr (.inr r3)));go_enter Tryz.func133,Tryz.ntmps133;go_wp2_with (fail);refine bodyPost_ret (v:= .tuple #[.string ByteArray.empty, .bool false]) ?_ rfl ⟨by rw[HE.out];rfl,Below.refl _ _⟩
  simp[results,Tryz.results133,go_sem]
  try rfl
 by_cases s1:p<128
 ·have HE:=hW_ (iY (p:=p) ⟨by omega,by omega⟩);have hbb:∀x∈([p]:List Int),(0:Int)<=x/\x<256:=by
   intro x hx;simp only[List.mem_cons,List.not_mem_nil,or_false]at hx;omega
  have u0:IntKind.u8.wrap (p)=p:=by rw[IntKind.wrap_u8];omega
  have d1:p.tdiv 64=p / 64:=Int.tdiv_eq_ediv_of_nonneg (by omega);have d2:p.tdiv 4096=p / 4096:=Int.tdiv_eq_ediv_of_nonneg (by omega);have d3:p.tdiv 262144=p / 262144:=Int.tdiv_eq_ediv_of_nonneg (by omega);have e1:p.tmod 64=p % 64:=Int.tmod_eq_emod_of_nonneg (by omega);have e2:(p / 64).tmod 64=p / 64 % 64:=Int.tmod_eq_emod_of_nonneg (by omega);have e3:(p / 4096).tmod 64=p / 4096 % 64:=Int.tmod_eq_emod_of_nonneg (by omega);have hcv:=F2 (gQ w [p] 1 rfl (by omega) _ rfl 5) (by omega);simp only[List.map_cons,List.map_nil]at hcv;have g3:(decide (55296<=p) && decide (p<=57343))=false:=by simp;omega
  clear hbb;go_enter Tryz.func133,Tryz.ntmps133;go_wp2_with (fail)
  all_goals(
   refine bodyPost_ret (v:= .tuple #[.string (mK [p]), .bool true]) ?_ rfl ⟨by rw[HE.out];rfl,aA w _⟩
   simp[results,Tryz.results133,go_sem])
 by_cases s2:p<2048
 ·have HE:=hW_ (aBp (p:=p) ⟨by omega,by omega⟩);have hbb:∀x∈([192+p / 64,128+p % 64]:List Int),(0:Int)<=x/\x<256:=by
   intro x hx;simp only[List.mem_cons,List.not_mem_nil,or_false]at hx;omega
  have u0:IntKind.u8.wrap (192+p / 64)=192+p / 64:=by rw[IntKind.wrap_u8];omega
  have u1:IntKind.u8.wrap (128+p % 64)=128+p % 64:=by rw[IntKind.wrap_u8];omega
  have d1:p.tdiv 64=p / 64:=Int.tdiv_eq_ediv_of_nonneg (by omega);have d2:p.tdiv 4096=p / 4096:=Int.tdiv_eq_ediv_of_nonneg (by omega);have d3:p.tdiv 262144=p / 262144:=Int.tdiv_eq_ediv_of_nonneg (by omega);have e1:p.tmod 64=p % 64:=Int.tmod_eq_emod_of_nonneg (by omega);have e2:(p / 64).tmod 64=p / 64 % 64:=Int.tmod_eq_emod_of_nonneg (by omega);have e3:(p / 4096).tmod 64=p / 4096 % 64:=Int.tmod_eq_emod_of_nonneg (by omega);have hcv:=F2 (gQ w [192+p / 64,128+p % 64] 2 rfl (by omega) _ rfl 5) (by omega);simp only[List.map_cons,List.map_nil]at hcv;have g3:(decide (55296<=p) && decide (p<=57343))=false:=by simp;omega
  clear hbb;go_enter Tryz.func133,Tryz.ntmps133;go_wp2_with (fail)
  all_goals(
   refine bodyPost_ret (v:= .tuple #[.string (mK [192+p / 64,128+p % 64]), .bool true]) ?_ rfl ⟨by rw[HE.out];rfl,aA w _⟩
   simp[results,Tryz.results133,go_sem])
 by_cases s3:p<65536
 ·have HE:=hW_ (encU3 (p:=p) ⟨by omega,by omega⟩ r3);have hbb:∀x∈([224+p / 4096,128+p / 64 % 64,128+p % 64]:List Int),(0:Int)<=x/\x<256:=by
   intro x hx;simp only[List.mem_cons,List.not_mem_nil,or_false]at hx;omega
  have u0:IntKind.u8.wrap (224+p / 4096)=224+p / 4096:=by rw[IntKind.wrap_u8];omega
  have u1:IntKind.u8.wrap (128+p / 64 % 64)=128+p / 64 % 64:=by rw[IntKind.wrap_u8];omega
  have u2:IntKind.u8.wrap (128+p % 64)=128+p % 64:=by rw[IntKind.wrap_u8];omega
  have d1:p.tdiv 64=p / 64:=Int.tdiv_eq_ediv_of_nonneg (by omega);have d2:p.tdiv 4096=p / 4096:=Int.tdiv_eq_ediv_of_nonneg (by omega);have d3:p.tdiv 262144=p / 262144:=Int.tdiv_eq_ediv_of_nonneg (by omega);have e1:p.tmod 64=p % 64:=Int.tmod_eq_emod_of_nonneg (by omega);have e2:(p / 64).tmod 64=p / 64 % 64:=Int.tmod_eq_emod_of_nonneg (by omega);have e3:(p / 4096).tmod 64=p / 4096 % 64:=Int.tmod_eq_emod_of_nonneg (by omega);have hcv:=F2 (gQ w [224+p / 4096,128+p / 64 % 64,128+p % 64] 3 rfl (by omega) _ rfl 5) (by omega);simp only[List.map_cons,List.map_nil]at hcv;have g3:(decide (55296<=p) && decide (p<=57343))=false:=by simp;omega
  clear hbb;go_enter Tryz.func133,Tryz.ntmps133;go_wp2_with (fail)
  all_goals(
   refine bodyPost_ret (v:= .tuple #[.string (mK [224+p / 4096,128+p / 64 % 64,128+p % 64]), .bool true]) ?_ rfl ⟨by rw[HE.out];rfl,aA w _⟩
   simp[results,Tryz.results133,go_sem])
 have HE:=hW_ (encU4 (p:=p) ⟨by omega,by omega⟩);have hbb:∀x∈([240+p / 262144,128+p / 4096 % 64,128+p / 64 % 64,128+p % 64]:List Int),(0:Int)<=x/\x<256:=by
  intro x hx;simp only[List.mem_cons,List.not_mem_nil,or_false]at hx;omega
 have u0:IntKind.u8.wrap (240+p / 262144)=240+p / 262144:=by rw[IntKind.wrap_u8];omega
 have u1:IntKind.u8.wrap (128+p / 4096 % 64)=128+p / 4096 % 64:=by rw[IntKind.wrap_u8];omega
 have u2:IntKind.u8.wrap (128+p / 64 % 64)=128+p / 64 % 64:=by rw[IntKind.wrap_u8];omega
 have u3:IntKind.u8.wrap (128+p % 64)=128+p % 64:=by rw[IntKind.wrap_u8];omega
 have d1:p.tdiv 64=p / 64:=Int.tdiv_eq_ediv_of_nonneg (by omega);have d2:p.tdiv 4096=p / 4096:=Int.tdiv_eq_ediv_of_nonneg (by omega);have d3:p.tdiv 262144=p / 262144:=Int.tdiv_eq_ediv_of_nonneg (by omega);have e1:p.tmod 64=p % 64:=Int.tmod_eq_emod_of_nonneg (by omega);have e2:(p / 64).tmod 64=p / 64 % 64:=Int.tmod_eq_emod_of_nonneg (by omega);have e3:(p / 4096).tmod 64=p / 4096 % 64:=Int.tmod_eq_emod_of_nonneg (by omega);have hcv:=F2 (gQ w [240+p / 262144,128+p / 4096 % 64,128+p / 64 % 64,128+p % 64] 4 rfl (by omega) _ rfl 5) (by omega);simp only[List.map_cons,List.map_nil]at hcv;have g3:(decide (55296<=p) && decide (p<=57343))=false:=by simp;omega
 clear hbb;go_enter Tryz.func133,Tryz.ntmps133;go_wp2_with (fail)
 all_goals(
  refine bodyPost_ret (v:= .tuple #[.string (mK [240+p / 262144,128+p / 4096 % 64,128+p / 64 % 64,128+p % 64]), .bool true]) ?_ rfl ⟨by rw[HE.out];rfl,aA w _⟩
  simp[results,Tryz.results133,go_sem])
theorem uP (s:ByteArray) (n:Nat):cA (s.extract 0 n)=(cA s).take n:=by
 unfold cA;rw[<-List.map_take];congr 1;simp[ByteArray.data_extract]
theorem vP (s:ByteArray) (n:Nat):cA (s.extract n s.size)=(cA s).drop n:=by
 unfold cA;rw[<-List.map_drop];congr 1;simp only[ByteArray.data_extract,Array.toList_extract,List.extract_eq_take_drop];exact List.take_of_length_le (by simp)
theorem aS (s t:ByteArray):cA (s++t)=cA s++cA t:=by unfold cA;simp
theorem aAs {p:Int} {L:List Int} (h:qK p=some L):∀x∈L,0<=x/\x<256:=by
 unfold qK at h;intro x hx
 repeat' split at h
 all_goals(first | cases h | skip)
 all_goals(simp only[List.mem_cons,List.not_mem_nil,or_false]at hx;omega)
theorem zK {s:ByteArray} {n:Nat} (h1:1<=n) (h4:n<=4) (hs:n<=s.size): -100000000<=lC (cA s) n/\lC (cA s) n<=100000000:=by
 have h0:0<s.size:=by omega
 have hc8:=s[0].toNat_lt
 by_cases n1:n=1
 ·subst n1;rw[mU h0];omega
 ·rw[Y4 h0 n1];have key:∀(k i:Nat) (q:Int) (l:List Int),k+i<=4->1<=i->(∀x∈l,(0:Int)<=x/\x<256)-> -bd i<=q->q<=bd i-> -100000000<=oB k q l/\oB k q l<=100000000:=by
   intro k
   induction k with
   | zero=>intro i q l _ _ _ h1 h2;have:=aBz i;simp only[oB];omega
   | succ k ih=>
    intro i q l hk hi hl h1 h2
    cases l with
    | nil=>simp only[oB];omega
    | cons x l=>
     simp only[oB];split
     ·omega
     ·have:=qQ (show i<4 by omega) hi;have hx:=hl x (by simp);exact ih (i+1) _ l (by omega) (by omega) (fun y hy=>hl y (by simp[hy])) (by omega) (by omega)
  have e:bd 1=300:=rfl;refine key (n-1) 1 _ _ (by omega) (by omega) (fun x hx=>iL x (List.mem_of_mem_drop hx)) ?_ ?_<;>rw[e]<;>unfold cO<;>split<;>(try split)<;>omega
theorem aV (s:ByteArray) (n:Nat) (w:World) (h1:1<=n) (h4:n<=4) (hs:n<=s.size):Calls Tryz.prog 100 #[.string s, .int .i64 n] w fun e w'=>e= .returned (.int .i64 (uD (cA s) n))/\Below w.heap.size w w':=by
 obtain⟨p,hp⟩:∃p,lC (cA s) n=p:=⟨_,rfl⟩;have hb:=J6 s n w h1 h4 hs;have hsm:=zK h1 h4 hs;rw[hp]at hb hsm;have he:=xS p w hsm;have HB:=hW_ hb;have gn:(n:Int)<=(s.size:Int):=by omega
 cases hen:qK p with
 | none=>
  have HW:Hid (uD (cA s) n= -1):=hW_ (tD (by rw[hp,hen];simp));rw[hen]at he;have HE:=hW_ he;clear hb he hp hen;go_enter Tryz.func100,Tryz.ntmps100;go_wp2_with (first
   | (go_at_call 132;refine HB.out.mono ?_;rintro e w1 ⟨rfl,rfl⟩)
   | (go_at_call 133;refine HE.out.mono ?_;rintro e w1 ⟨rfl,hb1⟩;unfold encR;have HB1:=hW_ hb1;clear hb1))
  go_ret;exact⟨by rw[HW.out];rfl,HB1.out⟩
 | some L=>
  rw[hen]at he;have HE:=hW_ he;have hL:=aAs hen
  by_cases heq:mK L=s.extract 0 n
  ·have HW:Hid (uD (cA s) n=p):=hW_ (by
    rw[pI,hp];rw[hp,hen,<-uP,<-heq,zF hL])
   have gb:=cG heq;clear hb he hp hen;go_enter Tryz.func100,Tryz.ntmps100;go_wp2_with (first
    | (go_at_call 132;refine HB.out.mono ?_;rintro e w1 ⟨rfl,rfl⟩)
    | (go_at_call 133;refine HE.out.mono ?_;rintro e w1 ⟨rfl,hb1⟩;unfold encR;have HB1:=hW_ hb1;clear hb1))
   go_ret;exact⟨by rw[HW.out];rfl,HB1.out⟩
  ·have HW:Hid (uD (cA s) n= -1):=hW_ (tD (by
    rw[hp,hen,<-uP];intro e;apply heq;apply R9;rw[zF hL];exact Option.some.inj e))
   have gb:=aI heq;clear hb he hp hen;go_enter Tryz.func100,Tryz.ntmps100;go_wp2_with (first
    | (go_at_call 132;refine HB.out.mono ?_;rintro e w1 ⟨rfl,rfl⟩)
    | (go_at_call 133;refine HE.out.mono ?_;rintro e w1 ⟨rfl,hb1⟩;unfold encR;have HB1:=hW_ hb1;clear hb1))
   go_ret;exact⟨by rw[HW.out];rfl,HB1.out⟩
end Go.Proofs.YtimkkkdabmhedaaGreatDoor
