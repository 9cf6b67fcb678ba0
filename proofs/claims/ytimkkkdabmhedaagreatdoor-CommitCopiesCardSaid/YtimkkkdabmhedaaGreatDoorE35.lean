/- Walks: the coder of texts in use, and the blocks at which it looks: lookup, Piece. (Printed by gTq.py.) -/
import Derived.Test.YtimkkkdabmhedaaGreatDoorE34
import Derived.Test.YtimkkkdabmhedaaGreatDoorE32
import Derived.LoopN
import Derived.Test.YtimkkkdabmhedaaGreatDoorE33
import Derived.Deep.CutBlock
import Derived.Test.YtimkkkdabmhedaaGreatDoorE21
set_option linter.unusedVariables false
set_option maxHeartbeats 4000000
set_option maxRecDepth 100000
namespace Go.Proofs.YtimkkkdabmhedaaGreatDoor
open Go.RowKit
theorem E6.below {w w':World} {base top cb mb B:Nat} {no:Option Addr} {l:List Row} {room hits misses:Int} {P:Nat->Prop} (h:E6 w base top cb mb no l room hits misses P) (hp:∀q,P q->q<B) (hb:Below B w w'):E6 w' base top cb mb no l room hits misses P:=
 h.stay (fun q hq=>hb.block q (hp q hq))
theorem E6.cut {w:World} {base top cb mb:Nat} {no:Option Addr} {l:List Row} {room hits misses:Int} {P:Nat->Prop} (h:E6 w base top cb mb no l room hits misses P):E6 w base top cb mb no l room hits misses (fun q=>P q/\base<=q/\q<top):=by
 have hft:=h.rep.ft;obtain⟨m,cap,N,e,y,ord,sz,f,R,hc,hg,hl⟩:=h;exact⟨m,cap,N,e,y,ord,sz,f,R,⟨hc.1,fun k hk=>⟨hc.2.1 k hk,hft k hk⟩,fun i hi ad e=>⟨hc.2.2 i hi ad e,((hc.1.rows i hi).2 ad e).1,((hc.1.rows i hi).2 ad e).2.1⟩⟩,hg,hl⟩
structure fT (w:World) (base g:Nat) (V:Vc) (N:List ByteArray) (kind:Int) (T:List Rg) (room:Int) (cb mb:Nat) (no:Option Addr) (l:List Row) (hits misses:Int) (P:Nat->Prop):Prop where
 sta:∃S,Sta S (fun w=>yJ w base g V N kind T cb) w/\(∀q,S q->P q/\¬Ft cb mb no q)
 rep:E6 w base w.heap.size cb mb no l room hits misses P
 lt:∀q,P q->base<=q/\q<w.heap.size
def Cdr (w:World) (base g:Nat) (V:Vc) (N:List ByteArray) (kind:Int) (T:List Rg) (room cnt:Int) (P:Nat->Prop):Prop:=
 ∃cb mb no l hits misses,fT w base g V N kind T room cb mb no l hits misses P/\tE V l room hits misses/\hits+misses=cnt
section
variable {w:World} {base g:Nat} {V:Vc} {N:List ByteArray} {kind:Int} {T:List Rg} {room:Int} {cb mb:Nat} {no:Option Addr} {l:List Row} {hits misses cnt:Int} {P:Nat->Prop}
theorem fT.codR (h:fT w base g V N kind T room cb mb no l hits misses P):pG w base g V N kind T room cb mb no l hits misses:=by
 obtain⟨⟨S,h1,h2⟩,h3,h4⟩:=h;exact⟨⟨S,h1,fun q hq=>⟨h4 q (h2 q hq).1,(h2 q hq).2⟩⟩,h3.rep⟩
theorem pG.codQ (h:pG w base g V N kind T room cb mb no l hits misses):fT w base g V N kind T room cb mb no l hits misses (fun q=>base<=q/\q<w.heap.size):=by
 have hr:=h.rep;obtain⟨⟨S,h1,h2⟩,_⟩:=h;exact⟨⟨S,h1,fun q hq=>⟨(h2 q hq).1,(h2 q hq).2⟩⟩,hr.req,fun q hq=>hq⟩
theorem fT.stay {w':World} (h:fT w base g V N kind T room cb mb no l hits misses P) (hk:∀q,P q->w'.heap[q]?=w.heap[q]?) (hs:w.heap.size<=w'.heap.size):fT w' base g V N kind T room cb mb no l hits misses P:=by
 obtain⟨⟨S,h1,h2⟩,h3,h4⟩:=h;exact⟨⟨S,h1.next (fun q hq=>hk q (h2 q hq).1) hs,h2⟩,(h3.stay hk).up hs,fun q hq=>⟨(h4 q hq).1,Nat.lt_of_lt_of_le (h4 q hq).2 hs⟩⟩
theorem Cdr.new (h:pG w base g V N kind T room cb mb none [] 0 0) (h0:0<=room):Cdr w base g V N kind T room 0 (fun q=>base<=q/\q<w.heap.size):=
 ⟨cb,mb,none,[],0,0,h.codQ,⟨fun p hp=>(by cases hp),by simpa using h0,by simp,by omega,by omega,fun _=>⟨rfl,rfl⟩⟩,rfl⟩
theorem Cdr.stay {w':World} (h:Cdr w base g V N kind T room cnt P) (hk:∀q,P q->w'.heap[q]?=w.heap[q]?) (hs:w.heap.size<=w'.heap.size):Cdr w' base g V N kind T room cnt P:=by
 obtain⟨cb,mb,no,l,hits,misses,h1,h2⟩:=h;exact⟨cb,mb,no,l,hits,misses,h1.stay hk hs,h2⟩
theorem Cdr.lt (h:Cdr w base g V N kind T room cnt P):∀q,P q->base<=q/\q<w.heap.size:=by
 obtain⟨cb,mb,no,l,hits,misses,h1,h2⟩:=h;exact h1.lt
theorem Cdr.below {w':World} (h:Cdr w base g V N kind T room cnt P) (hb:Below w.heap.size w w'):Cdr w' base g V N kind T room cnt P:=
 h.stay (fun q hq=>hb.block q (h.lt q hq).2) hb.size
theorem Cdr.cod (h:Cdr w base g V N kind T room cnt P):∃cb,yJ w base g V N kind T cb:=by
 obtain⟨cb,mb,no,l,hits,misses,h1,h2⟩:=h;exact⟨cb,h1.codR.cod⟩
theorem fT.turn {w':World} {no':Option Addr} {l':List Row} {hits' misses':Int} (h:fT w base g V N kind T room cb mb no l hits misses P)
  (hc:Cch cb mb no no' w w') (hr:E6 w' base w'.heap.size cb mb no' l' room hits' misses' (fun q=>P q\/w.heap.size<=q)):fT w' base g V N kind T room cb mb no' l' hits' misses' (fun q=>(P q\/w.heap.size<=q)/\base<=q/\q<w'.heap.size):=by
 obtain⟨⟨S,h1,h2⟩,h3,h4⟩:=h;exact⟨⟨S,h1.next (fun q hq=>hc.block q (h4 q (h2 q hq).1).2 (h2 q hq).2) hc.size,fun q hq=>⟨⟨.inl (h2 q hq).1,(h4 q (h2 q hq).1).1,Nat.lt_of_lt_of_le (h4 q (h2 q hq).1).2 hc.size⟩,hc.new q (h4 q (h2 q hq).1).2 (h2 q hq).2⟩⟩,hr.cut,fun q hq=>hq.2⟩
end
def LkQ (V:Vc) (w:World) (base cb mb:Nat) (no:Option Addr) (room cnt:Int) (R:List Int) (P:Nat->Prop) (e:Ending) (w':World):Prop:=
 ∃v no' l' hits' misses',e= .returned v/\Own w' w.heap.size v R/\E6 w' base w'.heap.size cb mb no' l' room hits' misses' (fun q=>P q\/w.heap.size<=q)/\tE V l' room hits' misses'/\hits'+misses'=cnt+1/\Cch cb mb no no' w w'
theorem S1 {P:Nat->Prop} {V:Vc} {base cb mb b2 b5:Nat} {no:Option Addr} {l:List Row} {room hits misses:Int} (key:ByteArray) (w:World) (hr:E6 w base w.heap.size cb mb no l room hits misses P) (hP:∀q,P q->q<w.heap.size) (hok:tE V l room hits misses) (hroom:room<=1048576) (hcnt:hits+misses<1000000) (hks:key.size<=100000)
  (hF:∀W,iA (Ft cb mb no) w W->Calls Tryz.prog 90 #[.pointer (some ⟨b2,0,none⟩), .pointer (some ⟨b5,0,none⟩)] W fun e w'=>∃v,e= .returned v/\Own w' W.heap.size v (tH V (cA key))/\Below W.heap.size W w'):
  Calls Tryz.prog 89 #[.pointer (some ⟨cb,0,none⟩), .string key, .func (.func 90) #[] #[.pointer (some ⟨b2,0,none⟩), .pointer (some ⟨b5,0,none⟩)]] w (LkQ V w base cb mb no room (hits+misses) (tH V (cA key)) P):=by
 have h0:=hok.hz;have m0:=hok.mz;have hmx:key.size<=maxLen:=by unfold maxLen;omega
 have hRl:(tH V (cA key)).length<=1048576:=by have:=aBq V (cA key);rw[A8]at this;omega
 by_cases hin:∃R,(key,R)∈l
 ·obtain⟨R,hR⟩:=hin;have hRR:R=tH V (cA key):=hok.rows _ hR;have HG:=hW_ (creq_hit hr (Nat.le_refl _) key R hmx hR h0 (by omega));have HOK:=hW_ (hok.hit hR);have HRR:=hW_ hRR;clear hr hP hok hF hR hRR h0 m0;go_enter Tryz.func89,Tryz.ntmps89;go_wp2_with (go_at_call 118;refine HG.out.mono ?_;rintro e w1 ⟨vo,vn,vc,rfl,ho,hr1,hk1⟩;have HO:=hW_ ho;have HR1:=hW_ hr1;have HK1:=hW_ hk1;clear ho hr1 hk1);refine bodyPost_ret (results_tmp rfl _ _ _) rfl ⟨.slice vo vn vc,no,E8 l key R,hits+1,misses,rfl,by rw[<-HRR.out];exact HO.out,(HR1.out.up HK1.out.size).more (fun q h=> .inl h),HOK.out,by omega,Cch.keeps HK1.out⟩
 ·have hno:∀p∈l,p.1≠key:=fun p hp e=>hin ⟨p.2,by rw[<-e];exact hp⟩
  have HG:=hW_ (aCL hr (Nat.le_refl _) key hmx hno m0 (by omega));have HF:=hW_ hF;have HPL:=hW_ hP;have HFT:Hid (∀q,Ft cb mb no q->q<w.heap.size):=hW_ fun q hq=>hP q (hr.ft q hq)
  by_cases hz:room=0
  ·subst hz;have HOK:=hW_ hok.missed;clear hr hP hok hF hin hno h0 m0;go_enter Tryz.func89,Tryz.ntmps89;go_wp2_with (first
    | (go_at_call 118;refine HG.out.mono ?_;rintro e w1 ⟨rfl,hr1,hk1⟩;have HR1:=hW_ hr1;have HK1:=hW_ hk1;clear hr1 hk1)
    | (go_at_call 90;refine(HF.out _ HK1.out).mono ?_;rintro e w2 ⟨v,rfl,ho,hb2⟩;obtain⟨vo,vc,rfl,_⟩:=ho.sl;have HO:=hW_ ho;have HB2:=hW_ hb2;clear ho hb2)
    | (go_at_call 119;refine(aCM ((HR1.out.up HK1.out.size).below (fun q h=>Nat.lt_of_lt_of_le (HPL.out q h) HK1.out.size) HB2.out).rep key _ _ _).mono ?_;rintro e w3 ⟨rfl,hb3⟩;have HB3:=hW_ hb3;clear hb3))
   go_ret;exact⟨_,no,l,hits,misses+1,rfl,(HO.out.below HB3.out).mono HK1.out.size,((((HR1.out.up HK1.out.size).below (fun q h=>Nat.lt_of_lt_of_le (HPL.out q h) HK1.out.size) HB2.out).up HB2.out.size |>.below (fun q h=>Nat.lt_of_lt_of_le (HPL.out q h) (Nat.le_trans HK1.out.size HB2.out.size)) HB3.out).up HB3.out.size).more (fun q h=> .inl h),HOK.out,by omega,((Cch.keeps HK1.out).trans (Cch.below HB2.out)).trans (Cch.below HB3.out)⟩
  ·have hrp:0<room:=by have:=hok.rm;omega
   have HOK:=hW_ (hok.put (k:=key) hrp);have HLL:Hid ((l.length:Int)<=room/\l.length<1048576):=hW_ ⟨hok.rm,by have:=hok.ms;omega⟩;clear hr hP hok hF hin hno h0 m0;go_enter Tryz.func89,Tryz.ntmps89;go_wp2_with (first
    | (go_at_call 118;refine HG.out.mono ?_;rintro e w1 ⟨rfl,hr1,hk1⟩;have HR1:=hW_ hr1;have HK1:=hW_ hk1;clear hr1 hk1)
    | (go_at_call 90;refine(HF.out _ HK1.out).mono ?_;rintro e w2 ⟨v,rfl,ho,hb2⟩;obtain⟨vo,vc,rfl,hsl⟩:=ho.sl;have HO:=hW_ ho;have HB2:=hW_ hb2;have HSL:=hW_ hsl;clear ho hb2 hsl)
    | (go_at_call 119;refine(creq_put (((HR1.out.up HK1.out.size).below (fun q h=>Nat.lt_of_lt_of_le (HPL.out q h) HK1.out.size) HB2.out).up HB2.out.size) key hmx hrp hroom HLL.out.1 HLL.out.2 HSL.out (fun ad e h0=>by
      subst e;obtain⟨k1,k2⟩:=World.ownsRow.lt HO.out ad.block (by obtain⟨vb,e⟩:=aJ HO.out h0;obtain⟨c',e⟩:=e;rw[e];cases e;rfl);exact⟨k2,fun hf=>by have:=HFT.out _ hf;have:=HK1.out.size;omega⟩) hRl).mono ?_;rintro e w3 ⟨rfl,gg,hr3,hk3,hat3⟩;have HR3:=hW_ hr3;have HK3:=hW_ hk3;have HAT3:=hW_ hat3;clear hr3 hk3 hat3))
   go_ret;refine⟨_,some ⟨gg,0,none⟩,_,hits,misses+1,rfl,?_,HR3.out.more (fun q h=>h.imp id (fun h=>Nat.le_trans (Nat.le_trans HK1.out.size HB2.out.size) h)),HOK.out,by omega,((Cch.keeps HK1.out).trans (Cch.below HB2.out)).trans (Cch.put HK3.out HAT3.out)⟩;refine Own.mono (rA HO.out (fun q hq=> ?_)) HK1.out.size;obtain⟨k1,k2⟩:=World.ownsRow.lt HO.out q hq;exact HK3.out.block q k2 (fun hf=>by have:=HFT.out _ hf;have:=HK1.out.size;omega)
def PcQ (w:World) (base g:Nat) (V:Vc) (N:List ByteArray) (kind:Int) (T:List Rg) (room cnt:Int) (P:Nat->Prop) (R:List Int) (d:Int) (e:Ending) (w':World):Prop:=
 ∃v P',e= .returned v/\Own w' w.heap.size v R/\Cdr w' base g V N kind T room (cnt+d) P'/\(∀q,P' q->P q\/w.heap.size<=q)/\iA P w w'
theorem jX {P:Nat->Prop} {V:Vc} {N:List ByteArray} {kind:Int} {T:List Rg} {base g:Nat} {room:Int} {cnt x:Int} {ao:Option Addr} {c:Nat} (w:World) (h:Cdr w base g V N kind T room cnt P) (hN:N.length<=16) (hA:SlI w ao 1 c [x]) (hx:256<=x) (hc:qA V N [x]=0):
  Calls Tryz.prog 59 #[.pointer (some ⟨g,0,none⟩), .slice ao 1 c] w (PcQ w base g V N kind T room cnt P (dF V N [x]) (O0 [x])):=by
 obtain⟨w0,hw0⟩:∃w0,w.alloc (.cells #[.pointer (some ⟨g,0,none⟩)] 32)=w0:=⟨_,rfl⟩;have hb0:Below w.heap.size w w0:=hw0▸aA w _;have hx0:w0.heap[w.heap.size]?=some (.cells #[.pointer (some ⟨g,0,none⟩)] 32):=by rw[<-hw0];exact heap_alloc_new w _
 have z0:w0.cell? ⟨w.heap.size,0,none⟩=some (.pointer (some ⟨g,0,none⟩)):=by simp[World.cell?,hx0]
 have hV:=h.below hb0;obtain⟨cb,hcod⟩:=hV.cod;have hCk:=vK w0 hcod hN (hA.below hb0) (by omega);rw[hc]at hCk;obtain⟨lo,ta,tc,sa,sc,na,nc,ma,mc,oa,oc,eg,hbx,_,_,_,hom,_⟩:=hcod;obtain⟨c0,c1,c2,c3,c4,c5,c6,c7,c8,cf⟩:=bS hbx;obtain⟨mo,mcap,e0,hsm⟩:=hom.sl;have hml:=gK V.specials N;rw[hml]at e0 hsm;obtain⟨rfl,_,rfl⟩:=Value.slice.inj e0;have hfx:bB V N x=0:=by
  have:=D1.1 hc x (by simp);exact this
 have hxl:x<256+(N.length:Int):=by
  rcases Int.lt_or_le x (256+(N.length:Int))with h1 | h1
  ·exact h1
  ·unfold bB at hfx;rw[if_pos (.inr h1)]at hfx;cases hfx
 obtain⟨k,hk⟩:∃k:Nat,x-256=k:=⟨(x-256).toNat,by omega⟩;have q2:IntKind.i64.wrap (x-256)=(k:Int):=by rw[IntKind.wrap_i64];omega
 have gk:(k:Int)<(N.length:Int):=by omega
 have gk0:(0:Int)<=(k:Int):=by omega
 obtain⟨bm,om,hmo,hcm⟩:=hsm.at_ (i:=k) (by omega);subst hmo;obtain⟨v,hv⟩:∃v,ix (xC V.specials N) k=v:=⟨_,rfl⟩;rw[hv]at hcm;have hmk:xF V N x=v:=by unfold xF;rw[hk,Int.toNat_natCast,hv]
 have HP:Hid (dF V N [x]= [v]):=hW_ (by rw[oP hc hx,hmk]);obtain⟨b,o,hao,hca⟩:=(hA.below hb0).at_ (i:=0) (by omega);subst hao;have ha0:w0.cell? ⟨b,o,none⟩=some (.int .i64 x):=by simpa[ix]using hca
 have gx:decide ((256:Int)<=x)=true:=by simpa using hx
 have HCK:=hW_ hCk;have HB0:=hW_ hb0;have HW0:=hW_ hw0;have HV:=hW_ hV;have HX:=hW_ hx;clear h hA hc hbx hom hsm e0 hml hfx hv hmk hca hw0 hb0 hx0 hCk hV hx;go_enter Tryz.func59,Tryz.ntmps59;go_wp2_with (fail);rw[HW0.out];go_wp2_with (go_at_call 33;refine HCK.out.mono ?_;rintro e w1 ⟨rfl,rfl⟩);go_region
 all_goals(
  go_wp2_with (fail);refine bodyPost_ret (results_tmp rfl _ _ _) rfl ⟨_,P,rfl,by rw[HP.out];exact Own.mono (own_one _ v) HB0.out.size,by rw[aCw HX.out,Int.add_zero];exact HV.out.below (by exact C2 rfl rfl rfl rfl),fun q hq=> .inl hq,iA.of_below (HB0.out.trans (Below.mono (by exact C2 rfl rfl rfl rfl) HB0.out.size))⟩)
theorem lV {P:Nat->Prop} {V:Vc} {N:List ByteArray} {kind:Int} {T:List Rg} {base g:Nat} {room:Int} {cnt:Int} {A:List Int} {ao:Option Addr} {n c:Nat} (w:World) (hh:Cdr w base g V N kind T room cnt P) (hM:May V) (hN:N.length<=16) (hr:room<=1048576)
  (hA:SlI w ao n c A) (hn0:0<n) (hn:n<=100000) (hb:∀y∈A,0<=y/\y<256) (hc:qA V N A=0) (hcnt:cnt<1000000):
  Calls Tryz.prog 59 #[.pointer (some ⟨g,0,none⟩), .slice ao n c] w (PcQ w base g V N kind T room cnt P (dF V N A) (O0 A)):=by
 obtain⟨cb,mb,no,l,hits,misses,h,hok,hsum⟩:=hh;obtain⟨w0,hw0⟩:∃w0,w.alloc (.cells #[.pointer (some ⟨g,0,none⟩)] 32)=w0:=⟨_,rfl⟩;have hb0:Below w.heap.size w w0:=hw0▸aA w _;have hx0:w0.heap[w.heap.size]?=some (.cells #[.pointer (some ⟨g,0,none⟩)] 32):=by rw[<-hw0];exact heap_alloc_new w _
 have hz0:w.heap.size<w0.heap.size:=by rw[<-hw0];simp
 have z0:w0.cell? ⟨w.heap.size,0,none⟩=some (.pointer (some ⟨g,0,none⟩)):=by simp[World.cell?,hx0]
 have hV:=h.stay (fun q hq=>hb0.block q (h.lt q hq).2) hb0.size;have hA0:=hA.below hb0;have hAl:=hA.len;have hCk:=vK w0 hV.codR.cod hN hA0 (by omega);rw[hc]at hCk;have hne:A≠[]:=fun e=>by rw[e]at hAl;simp at hAl;omega
 have HP:Hid (dF V N A=tH V A):=hW_ (I9 hc hne hb);have HBY:Hid (O0 A=1):=hW_ (aAi hb);obtain⟨b,o,hao,hca⟩:=hA0.at_ (i:=0) hn0;subst hao;obtain⟨x,hx⟩:∃x,ix A 0=x:=⟨_,rfl⟩;rw[hx]at hca;have hxb:=hb x (by rw[<-hx];exact List.mem_of_getElem? (qF (by omega)));have ha0:w0.cell? ⟨b,o,none⟩=some (.int .i64 x):=by simpa using hca
 have gx:decide ((256:Int)<=x)=false:=by simp;omega
 have gn0:((n:Int)==0)=false:=by simp;omega
 have HBT:=hW_ (bT w0 hA0 (fun y hy=>yC.2 (hb y hy)) (by omega));have HCK:=hW_ hCk;have HB0:=hW_ hb0;have HW0:=hW_ hw0;have HX0:=hW_ hx0;have HV:=hW_ hV;have HY:=hW_ hb;have HFT:Hid (∀q,Ft cb mb no q->base<=q/\q<w.heap.size):=hW_ fun q hq=>h.lt q (h.rep.ft q hq)
 have HPL:=hW_ h.lt;have HOK:=hW_ hok;have HSUM:=hW_ hsum;have HPF:=hW_ h.rep.ft;have HAL:=hW_ hAl;have HM:=hW_ hM;clear h hok hsum hA hA0 hc hca hw0 hb0 hx0 hCk hV hx hAl hne hxb hb hM;go_enter Tryz.func59,Tryz.ntmps59;go_wp2_with (fail);rw[HW0.out];go_wp2_with (go_at_call 33;refine HCK.out.mono ?_;rintro e w1 ⟨rfl,rfl⟩)
 all_goals(
  go_at_call 88;refine HBT.out.mono ?_
  rintro e w2 ⟨⟨v,rfl,ho⟩,hb2⟩;obtain⟨gb,bc,rfl,hgb,hgl,hsl⟩:=lR ho (by have:=HAL.out;omega);obtain⟨W3,hW3⟩:∃W3,w2.alloc (.cells #[.slice (some ⟨gb,0,none⟩) A.length bc] 121)=W3:=⟨_,rfl⟩;have hb3:Below w2.heap.size w2 W3:=hW3▸aA w2 _;have hx3:W3.heap[w2.heap.size]?=some (.cells #[.slice (some ⟨gb,0,none⟩) A.length bc] 121):=by rw[<-hW3];exact heap_alloc_new w2 _
  have hx2:W3.heap[w.heap.size]?=some (.cells #[.pointer (some ⟨g,0,none⟩)] 32):=(hb3.block _ (Nat.lt_of_lt_of_le hz0 hb2.size)).trans ((hb2.block _ hz0).trans HX0.out)
  have HB3:Hid (Below w0.heap.size w0 W3):=hW_ (hb2.trans (hb3.mono hb2.size));have hft3:∀q,w.heap.size<=q->¬Ft cb mb no q:=fun q hq hf=>by have:=(HFT.out q hf).2;omega
  have hs02:w.heap.size<=w2.heap.size:=Nat.le_trans (Nat.le_of_lt hz0) hb2.size;have hcv:∀W,iA (Ft cb mb no) W3 W->(convert 121 9 (.slice (some ⟨gb,0,none⟩) A.length bc)).run Tryz.prog W= .ok (.string (mK A)) W:=fun W hW=>F2 (pO (Sl.below hsl hb3) (fun ad e=>by
   obtain rfl:ad=⟨gb,0,none⟩:=(Option.some.inj e).symm;exact hW.block gb (Nat.lt_of_lt_of_le hgl hb3.size) (hft3 gb (Nat.le_trans (Nat.le_of_lt hz0) hgb)))) (by have:=HAL.out;omega)
  have HLK:Hid (∀W,Ge W3 W->Calls Tryz.prog 89 #[.pointer (some ⟨cb,0,none⟩), .string (mK A), .func (.func 90) #[] #[.pointer (some ⟨w.heap.size,0,none⟩), .pointer (some ⟨w2.heap.size,0,none⟩)]] W (fun e w'=>PcQ w base g V N kind T room cnt P (tH V A) 1 e w'/\iA (Ft cb mb no) W3 w')):=hW_ (fun W hW=>by
   have hcr:=(HV.out.stay (fun q hq=>HB3.out.block q (HV.out.lt q hq).2) HB3.out.size).stay (fun q hq=>hW.block q (Nat.lt_of_lt_of_le (HV.out.lt q hq).2 HB3.out.size)) hW.size;have hsum:=HSUM.out;have hft:∀q,Ft cb mb no q->q<w.heap.size:=fun q hq=>(HFT.out q hq).2
   have hs2:=hb2.size;have hsW:=hW.size;have hs3:=hb3.size;have hsz3:w2.heap.size<W3.heap.size:=(Array.getElem?_eq_some_iff.1 hx3).1;refine(S1 (mK A) W hcr.rep (fun q hq=>(hcr.lt q hq).2) HOK.out hr (by omega) (by rw[T7 HY.out];have:=HAL.out;omega) (fun W' hk=> ?_)).mono ?_
   ·rw[zF HY.out];have k2:W'.heap[w.heap.size]?=some (.cells #[.pointer (some ⟨g,0,none⟩)] 32):=(hk.block _ (by omega) (fun hf=>by have:=hft _ hf;omega)).trans ((hW.block _ (by omega)).trans hx2)
    have k5:W'.heap[w2.heap.size]?=some (.cells #[.slice (some ⟨gb,0,none⟩) A.length bc] 121):=(hk.block _ (by omega) (fun hf=>by have:=hft _ hf;omega)).trans ((hW.block _ (by omega)).trans hx3)
    refine mV W' (hcr.codR.codK hk) HM.out (pO (Sl.below (Sl.below hsl hb3) hW) (fun ad e=> ?_)) HY.out (by have:=HAL.out;omega) (by have:=HAL.out;omega) (by simp[World.cell?,k2]) (by simp[World.cell?,k5]);obtain rfl:ad=⟨gb,0,none⟩:=(Option.some.inj e).symm;exact hk.block gb (by omega) (fun hf=>by have:=hft _ hf;omega)
   ·rintro e w' ⟨v,no',l',hits',misses',rfl,hown,hrep,hok',hsum',hcch⟩;rw[zF HY.out]at hown;have hsz:w.heap.size<=W.heap.size:=by omega
    have hkk:iA (Ft cb mb no) W3 w':=(iA.of_below hW).trans ⟨hcch.os,hcch.tape,hcch.output,hcch.size,hcch.block⟩;exact⟨⟨v,_,rfl,hown.mono hsz,⟨cb,mb,no',l',hits',misses',hcr.turn hcch hrep,hok',by omega⟩,fun q hq=>hq.1.imp id (fun h=>Nat.le_trans hsz h),(((iA.of_below HB0.out).trans (iA.of_below HB3.out)).trans hkk).mono (fun k _ hf=>HPF.out k hf)⟩,hkk⟩)
  have z2:W3.cell? ⟨w.heap.size,0,none⟩=some (.pointer (some ⟨g,0,none⟩)):=by simp[World.cell?,hx2]
  have z5:W3.cell? ⟨w2.heap.size,0,none⟩=some (.slice (some ⟨gb,0,none⟩) A.length bc):=by simp[World.cell?,hx3]
  have HW3:=hW_ hW3;have G2:=fun w' (hg:iA (Ft cb mb no) W3 w')=>hg.cell z2 (hft3 _ (Nat.le_refl _))
  have G5:=fun w' (hg:iA (Ft cb mb no) W3 w')=>hg.cell z5 (hft3 _ hs02)
  have G8:∀w',iA (Ft cb mb no) W3 w'->w'.cell? ⟨g,8,none⟩=some (.pointer (some ⟨cb,0,none⟩)):=fun w' hg=>by
   have hcr:=(HV.out.stay (fun q hq=>HB3.out.block q (HV.out.lt q hq).2) HB3.out.size).codR;obtain⟨_,_,_,_,_,_,_,_,_,_,_,_,hbx',_⟩:=hcr.codK hg;exact(bS hbx').2.2.2.2.2.2.2.2.1
  have gr:=iA.refl (Ft cb mb no) W3;clear hW3 hb3 hx3 hx2 ho hb2 hgb hgl hsl z0 ha0 z2 z5 hft3 hs02;go_wp2_with (fail);rw[HW3.out]
  go_region_held3 (iA (Ft cb mb no) W3) (first | (with_reducible assumption) | (with_reducible refine iA.drew ?_;with_reducible assumption) | (with_reducible refine iA.drewN ?_ _;with_reducible assumption)) ((go_at_call 89;refine(HLK.out _ (by exact bA (Below.refl _ _) _)).mono ?_;rintro e w9 ⟨⟨v9,p9,rfl,ho9,hV9,hp9,hc9⟩,hk9⟩;have HP9:=hW_ hp9;have HO9:=hW_ ho9;have HV9:=hW_ hV9;have HC9:=hW_ hc9;clear ho9 hV9 hp9 hc9))
  all_goals(
   go_wp2_with (fail);go_ret;exact⟨v9,p9,rfl,by rw[HP.out];exact HO9.out,by rw[HBY.out];exact HV9.out,HP9.out,HC9.out⟩))
theorem aBQ {M:List Mg} {row r:List Int} (h:G9 M row=some r):0<r.length:=by
 have hl:=oO h;unfold G9 at h;split at h
 ·next he=>
  obtain⟨a,b,h1,h2,h3⟩:=he.choose_spec.at_;have:=(List.getElem?_eq_some_iff.1 h2).1;omega
 ·cases h
theorem zW {M:List Mg}:∀(k:Nat) (r:List Int),0<r.length->0<(eN M k r).length
 | 0,r,h=>h
 | k+1,r,h=>by
  cases hs:G9 M r with
  | none=>rw[dN hs];exact h
  | some r'=>
   have:=zW k r' (aBQ hs) (M:=M);simp only[eN,hs];exact this
theorem encF_pos {V:Vc} {A:List Int} (h:0<A.length):0<(tH V A).length:=
 zW (M:=V.merges) A.length (dC V A) (by rw[xG];exact h)
theorem jR {V:Vc} {N:List ByteArray} {A:List Int} (hc:qA V N A=0) (hm:MayPc A):0<(dF V N A).length/\(dF V N A).length<=A.length:=by
 rcases hm with⟨x,rfl,hx⟩ | ⟨hne,hb⟩
 ·rw[oP hc hx];simp
 ·rw[I9 hc hne hb];exact⟨encF_pos (List.length_pos_iff.2 hne),aBq V A⟩
def byN:List (Int×Bool)->List Int->Int
 | [],_=>0
 | p::ps,A=>O0 (A.take p.1.toNat)+byN ps (A.drop p.1.toNat)
theorem aBm (A:List Int):0<=O0 A/\O0 A<=1:=by
 unfold O0;split<;>omega
theorem rF.len:∀{ps:List (Int×Bool)} {A:List Int},rF ps A->ps.length<=A.length
 | [],A,h=>Nat.zero_le _
 | p::ps,A,h=>by
  have:=rF.len h.2.2.2;have:=h.1;have:=h.2.1;simp only[List.length_drop,List.length_cons]at *;omega
theorem pN {P:Nat->Prop} {V:Vc} {N:List ByteArray} {kind:Int} {T:List Rg} {base g:Nat} {room:Int} {cnt:Int} {A:List Int} {ao:Option Addr} {n c:Nat} (w:World) (h:Cdr w base g V N kind T room cnt P) (hM:May V) (hN:N.length<=16) (hr:room<=1048576)
  (hA:SlI w ao n c A) (hn:n<=100000) (hm:MayPc A) (hc:qA V N A=0) (hcnt:cnt<1000000):
  Calls Tryz.prog 59 #[.pointer (some ⟨g,0,none⟩), .slice ao n c] w (PcQ w base g V N kind T room cnt P (dF V N A) (O0 A)):=by
 have hl:=hA.len;rcases hm with⟨x,rfl,hx⟩ | ⟨hne,hb⟩
 ·simp only[List.length_singleton]at hl;subst hl;exact jX w h hN hA hx hc
 ·exact lV w h hM hN hr hA (by have:=List.length_pos_iff.2 hne;omega) hn hb hc hcnt
open Go
theorem aG {p:Int×Bool} {ps:List (Int×Bool)} (h:p.2=true):B9 (p::ps)=p::B9 ps:=by unfold B9;rw[List.takeWhile_cons,h];rfl
theorem fL {p:Int×Bool} {ps:List (Int×Bool)} (h:p.2=false):B9 (p::ps)= []:=by unfold B9;rw[List.takeWhile_cons,h];rfl
theorem iD (p:Int×Bool) (ps:List (Int×Bool)):cE (p::ps)=p.1.toNat+cE ps:=rfl
theorem zQ:cE []=0:=rfl
theorem rF.decd_le:∀{ps:List (Int×Bool)} {A:List Int},rF ps A->cE (B9 ps)<=A.length
 | [],A,h=>by
  show 0<=_;omega
 | p::ps,A,h=>by
  have h1:=h.1;have h2:=h.2.1
  cases hp:p.2 with
  | false=>rw[fL hp,zQ];omega
  | true=>
   rw[aG hp,iD];have:=rF.decd_le h.2.2.2;rw[List.length_drop]at this;omega
theorem nP {V:Vc} {N:List ByteArray}:∀(ps qs:List (Int×Bool)) (A:List Int),B6 V N (ps++qs) A=B6 V N ps A++B6 V N qs (A.drop (cE ps))
 | [],qs,A=>rfl
 | p::ps,qs,A=>by
  simp only[List.cons_append,B6,iD];rw[nP ps qs,List.append_assoc,List.drop_drop]
theorem nN {V:Vc} {N:List ByteArray}:∀{ps:List (Int×Bool)} {A:List Int} (B:List Int),(∀p∈ps,0<=p.1)->cE ps<=A.length->B6 V N ps (A++B)=B6 V N ps A
 | [],A,B,_,h=>rfl
 | p::ps,A,B,hp,h=>by
  rw[iD]at h;simp only[B6];rw[List.take_append_of_le_length (by omega),List.drop_append_of_le_length (by omega),nN B (fun q hq=>hp q (by simp[hq])) (by rw[List.length_drop];omega)]
theorem rF.pos:∀{ps:List (Int×Bool)} {A:List Int},rF ps A->∀p∈ps,0<=p.1
 | [],A,h=>fun p hp=>by cases hp
 | q::ps,A,h=>fun p hp=>by
  rcases List.mem_cons.1 hp with rfl | h'
  ·have:=h.1;omega
  ·exact rF.pos h.2.2.2 p h'
theorem decd_mem {ps:List (Int×Bool)} {p:Int×Bool} (h:p∈B9 ps):p∈ps:=(List.takeWhile_prefix _).subset h
theorem aCI (ps:List (Int×Bool)):∀p∈B9 ps,p.2=true:=fun p hp=>by
 unfold B9 at hp;exact List.all_eq_true.1 (List.all_takeWhile (p:=fun p:Int×Bool=>p.2) (l:=ps)) p hp
theorem lY (ps qs:List (Int×Bool)):B9 (B9 ps++qs)=B9 ps++B9 qs:=by
 have h:=aCI ps;generalize B9 ps=l at h |-
 induction l with
 | nil=>rfl
 | cons p l ih=>rw[List.cons_append,aG (h p (by simp)),ih fun q hq=>h q (by simp[hq]),List.cons_append]
theorem sW (ps qs:List (Int×Bool)):cE (ps++qs)=cE ps+cE qs:=by unfold cE;rw[List.map_append,List.sum_append]
noncomputable def mI (V:Vc) (N:List ByteArray) (kind:Int) (T:List Rg) (A:List Int) (e:Bool):List Int:=B6 V N (B9 (dB kind T A e)) A
def pD (kind:Int) (T:List Rg) (A:List Int) (e:Bool):Nat:=cE (B9 (dB kind T A e))
def V4 (kind:Int) (T:List Rg) (A:List Int) (e:Bool):Int:=byN (B9 (dB kind T A e)) A
section
variable {V:Vc} {N:List ByteArray} {kind:Int} {T:List Rg}
theorem lQ (hT:kA T) {e:Bool} {A:List Int} (hc:qA V N A=0):pD kind T A e<=A.length:=rF.decd_le (aH hT hc)
theorem com_more (hT:kA T) (hk:0<=kind/\kind<=3) {A:List Int} (B:List Int) (hc:qA V N A=0):mI V N kind T (A++B) false=mI V N kind T A false++mI V N kind T (A.drop (pD kind T A false)++B) false/\
  pD kind T (A++B) false=pD kind T A false+pD kind T (A.drop (pD kind T A false)++B) false:=by
 have hle:=lQ (kind:=kind) (e:=false) hT hc;have hs:=stay hT hk false A B;have e1:B6 V N (B9 (dB kind T A false)) (A++B)=mI V N kind T A false:=nN B (fun p hp=>(aH hT hc).pos p (decd_mem hp)) hle;have e0:(A++B).drop (cE (B9 (dB kind T A false)))=A.drop (pD kind T A false)++B:=List.drop_append_of_le_length hle;constructor
 ·unfold mI;rw[hs,lY,nP,e0];unfold mI at e1;rw[e1]
 ·unfold pD at e0 |-;rw[hs,lY,sW,e0]
end
theorem Q0 {w:World} {ops:Array Oper} {o:Oper} {a:Act} {K:Act->World->Prop} {Q:Exit->Act->World->Prop} {E:Prop} (hgd:o.guard=none) (s x:Operand)
  (ho:o.op= .call {callee:= .builtin .append,args:=#[s,x],argTypes:=#[43,43]})
  {base b m c k:Nat} {v:Value} {A R:List Int} (hs:a.eval s=v) (hown:Own w base v A) (hk:A.length=k) (hx:a.eval x= .slice (some ⟨b,0,none⟩) m c)
  (hl:SlI w (some ⟨b,0,none⟩) m c R) (hm0:0<m) (hm:k+m<1048576) (hbase:base<=w.heap.size)
  (hK:∀g cap' w',Own w' base (.slice (some ⟨g,0,none⟩) (k+m) cap') (A++R)->w.grownBy w' v.ownBlock->(v.ownBlock=some g\/g=w.heap.size)->K (a.put o.dst (.slice (some ⟨g,0,none⟩) (k+m) cap')) w'):
  if Region.wanted o (yielded ops a.tmps)=true then Oper.wp Tryz.prog o a w K Q else E:=by
 obtain⟨i0,hi0,hz0,hz1,hz2⟩:=info_parts xI;subst hk;have hRl:=hl.len;refine step_append_lies (P:=Tryz.prog) (w:=w) hgd s x 43 ho base 3 i0 _ 1 8 Tryz.underlying43 hi0 hz0 hz1 hz2 rfl (by omega) _ A.length _ hs hown ⟨b,0,none⟩ m c (R.map (.int .i64)) hx (by rw[List.length_map];omega)
  (fun j u hu=> ?_) (uV R) hm0 (by unfold maxLen;omega) (by omega) hbase w.heap.size rfl ?_
 ·obtain⟨b',o',e,hc⟩:=Sl.at_ hl j u hu;simp only[Option.some.injEq,Addr.mk.injEq,and_true]at e;obtain⟨rfl,rfl⟩:=e;rw[Addr.add_lit];exact hc
 ·intro g cap' w' ho' hgr hat hlt;refine hK g cap' w' ?_ hgr hat
  unfold Own;rw[List.length_append,List.map_append,hRl];exact ho'
theorem vZ {ao:Option Addr} {n cap k m:Nat} {K M:Int} (hK:K=(k:Int)) (hM:M=(m:Int)) (hk:k<=m) (hm:m<=n) (hn:n<=cap) {i0:TypeInfo} (hi:Tryz.prog.info? 3=some i0) (h1:i0.size=1):
  ∃so,(∀W,(Instr.sliceAt 43 (.slice ao n cap) (some (.int .i64 K)) (some (.int .i64 M)) none).run Tryz.prog W= .ok (.slice so (m-k) (cap-k)) W)/\
   (∀W A,SlI W ao n cap A->SlI W so (m-k) (cap-k) ((A.drop k).take (m-k))):=by
 subst hK hM;refine⟨if cap=k then ao else ao.map (·.add k),fun W=> ?_,fun W A h=> ?_⟩
 ·have:=iC Tryz.underlying43 hi W ao n cap (some (.int .i64 k)) (some (.int .i64 m)) k m (fun w=>by simp[Instr.sliceBounds,run_sliceBound,Nat.le_trans hm hn,hk]);rw[h1,Nat.mul_one]at this;exact this
 ·rw[<-List.drop_take];exact(h.take hm).drop hk
def PtR (w:World) (pb g:Nat) (o:Option Addr) (R:List Int) (a t:Int) (e:Bool):Prop:=
 ∃c,w.heap[pb]?=some (.cells #[.pointer (some ⟨g,0,none⟩), .slice o R.length c, .int .i64 a, .int .i64 t, .bool e] 110)/\SlI w o R.length c R
theorem PtR.stay {w w':World} {pb g:Nat} {o:Option Addr} {R:List Int} {a t:Int} {e:Bool} (h:PtR w pb g o R a t e) (h1:w'.heap[pb]?=w.heap[pb]?) (h2:∀ad,o=some ad->0<R.length->w'.heap[ad.block]?=w.heap[ad.block]?):PtR w' pb g o R a t e:=by
 obtain⟨c,hx,hs⟩:=h;exact⟨c,h1.trans hx,hs.keep0 h2⟩
theorem PtR.lt {w:World} {pb g:Nat} {o:Option Addr} {R:List Int} {a t:Int} {e:Bool} (h:PtR w pb g o R a t e):pb<w.heap.size:=by
 obtain⟨c,hx,hs⟩:=h;exact(Array.getElem?_eq_some_iff.1 hx).1
theorem PtR.olt {w:World} {pb g:Nat} {o:Option Addr} {R:List Int} {a t:Int} {e:Bool} (h:PtR w pb g o R a t e):∀ad,o=some ad->0<R.length->ad.block<w.heap.size:=fun ad e h0=>by
 obtain⟨c,hx,hs⟩:=h;obtain⟨b,o',hao,hc⟩:=hs.at_ h0;obtain rfl:ad=⟨b,o',none⟩:=Option.some.inj (e.symm.trans hao);exact World.block_lt_of_cell? w _ hc
def TkQ (w:World) (base pb g:Nat) (V:Vc) (N:List ByteArray) (kind:Int) (T:List Rg) (room cnt:Int) (P:Nat->Prop) (R:List Int) (a t:Int) (e:Bool) (E:Ending) (w':World):Prop:=
 ∃v o' P',E= .returned v/\Own w' w.heap.size v (mI V N kind T R e)/\Cdr w' base g V N kind T room (cnt+V4 kind T R e) P'/\
  PtR w' pb g o' (R.drop (pD kind T R e)) (a+pD kind T R e) (t+(mI V N kind T R e).length) e/\(∀q,P' q->P q\/w.heap.size<=q)/\
  (∀ad,o'=some ad->0<(R.drop (pD kind T R e)).length->w.heap.size<=ad.block/\¬P' ad.block)/\(∀q,v.ownBlock=some q->¬P' q)/\iA (fun q=>P q\/q=pb) w w'
structure TkL (V:Vc) (N:List ByteArray) (ps:List (Int×Bool)) (w1 wr:World) (base g:Nat) (kind:Int) (T:List Rg) (room cnt:Int) (P:Nat->Prop) (R X:List Int) (D:Int) (M k:Nat) (O:List Int) (n:Nat) (P':Nat->Prop) (d:Int) (o:Value):Prop where
 own:Own wr w1.heap.size o O
 cdr:Cdr wr base g V N kind T room (cnt+d) P'
 sub:∀q,P' q->P q\/w1.heap.size<=q
 fresh:∀q,o.ownBlock=some q->¬P' q
 kp:iA (fun q=>P q\/w1.heap.size<=q) w1 wr
 nle:n<=R.length
 ok:rF (ps.drop k) (R.drop n)
 tot:O++B6 V N (B9 (ps.drop k)) (R.drop n)=X
 by_:d+byN (B9 (ps.drop k)) (R.drop n)=D
 sum:n+cE (B9 (ps.drop k))=M
 le:O.length<=n/\d<=n/\0<=d
theorem wM (w:World) (g i j k:Nat) (x y z:Value) {q:Nat} (h:q≠g):(((w.setCell ⟨g,i,none⟩ x).setCell ⟨g,j,none⟩ y).setCell ⟨g,k,none⟩ z).heap[q]?=w.heap[q]? :=by
 rw[pA h,pA h,pA h]
theorem pt_set {w:World} {g:Nat} {x0 x1 x2 x3 x4 y1 y2 y3:Value} {t:TypeId} (h:w.heap[g]?=some (.cells #[x0,x1,x2,x3,x4] t)):
  (((w.setCell ⟨g,1,none⟩ y1).setCell ⟨g,2,none⟩ y2).setCell ⟨g,3,none⟩ y3).heap[g]?=some (.cells #[x0,y1,y2,y3,x4] t):=
 wG (i:=3) (v:=y3) (wG (i:=2) (v:=y2) (wG (i:=1) (v:=y1) h))
def ZT (P:Nat->Prop) (o:Value) (q:Nat):Prop:=P q\/o.ownBlock=some q
structure TkE (V:Vc) (N:List ByteArray) (w1 wr:World) (base g:Nat) (kind:Int) (T:List Rg) (room cnt:Int) (P:Nat->Prop) (X:List Int) (D:Int) (P':Nat->Prop) (o:Value):Prop where
 own:Own wr w1.heap.size o X
 cdr:Cdr wr base g V N kind T room (cnt+D) P'
 sub:∀q,P' q->P q\/w1.heap.size<=q
 fresh:∀q,o.ownBlock=some q->¬P' q
 kp:iA (fun q=>P q\/w1.heap.size<=q) w1 wr
theorem uR {V:Vc} {N:List ByteArray}:∀{ps:List (Int×Bool)} {A:List Int},rF ps A->qA V N A=0->(B6 V N (B9 ps) A).length<=A.length
 | [],A,_,_=>Nat.zero_le _
 | p::ps,A,h,hc=>by
  cases hp:p.2 with
  | false=>rw[fL hp];exact Nat.zero_le _
  | true=>
   rw[aG hp];simp only[B6,List.length_append];have h1:=uR h.2.2.2 (D0 hc p.1.toNat).2;have h2:=(jR (D0 hc p.1.toNat).1 h.2.2.1).2;rw[List.length_drop]at h1;rw[List.length_take]at h2;have:=h.2.1;omega
theorem pW {P:Nat->Prop} {V:Vc} {N:List ByteArray} {kind:Int} {T:List Rg} {base pb g:Nat} {room:Int} {cnt a t:Int} {R:List Int} {o:Option Addr} {e:Bool} (w:World) (h:Cdr w base g V N kind T room cnt P) (hM:May V) (hN:N.length<=16) (hT:kA T) (hk0:0<=kind) (hk3:kind<=3) (hr:room<=1048576)
  (hp:PtR w pb g o R a t e) (hpb:¬P pb) (hO:∀ad,o=some ad->0<R.length->¬P ad.block/\ad.block≠pb) (hn:R.length<=100000) (hcnt:cnt+R.length<1000000) (hc:qA V N R=0) (ha:0<=a/\a<=1000000) (ht:0<=t/\t<=1000000):
  Calls Tryz.prog 67 #[.pointer (some ⟨pb,0,none⟩)] w (TkQ w base pb g V N kind T room cnt P R a t e):=by
 have hplt:=hp.lt;have holt:=hp.olt;obtain⟨c,hx,hA⟩:=hp;obtain⟨ps,hps⟩:∃ps,dB kind T R e=ps:=⟨_,rfl⟩;have hok:rF ps R:=hps▸aH hT hc;obtain⟨cb,hcod⟩:=h.cod;have hSp:∀W,Ge w W->Calls Tryz.prog 18 #[.pointer (some ⟨g,0,none⟩), .slice o R.length c, .bool e] W fun E w'=>(∃v,E= .returned v/\eA eF 2 51 w' w.heap.size v ps)/\Below w.heap.size w w':=fun W hW=>by
  have h9:=M7 e W (hcod.below hW) (hA.below hW) (by omega) hT hk0 hk3;rw[hps]at h9;refine h9.mono ?_
  rintro E w' ⟨⟨v,rfl,h1⟩,h2⟩;exact⟨⟨v,rfl,eA.mono h1 hW.size⟩,hW.below h2⟩
 unfold TkQ mI V4 pD;rw[hps];obtain⟨X,hX⟩:∃X,B6 V N (B9 ps) R=X:=⟨_,rfl⟩;obtain⟨D,hD⟩:∃D,byN (B9 ps) R=D:=⟨_,rfl⟩;obtain⟨M,hMM⟩:∃M,cE (B9 ps)=M:=⟨_,rfl⟩;have hMl:=hok.decd_le;rw[hMM]at hMl;rw[hX,hD,hMM];have hps1:ps.length<=100000:=by have:=hok.len;omega
 have HSP:=hW_ hSp;have HV:=hW_ h;have HA:=hW_ hA;have hA0:=hW_ (Sl.le hA);have HMY:=hW_ hM;have HI:=hW_ (And.intro hok (And.intro hc (And.intro hX (And.intro hD hMM))));have HCN:=hW_ hcnt;have HO:=hW_ (fun ad e1 h0=>And.intro (holt ad e1 h0) (hO ad e1 h0));have HX:=hW_ hx;have HPB:=hW_ (And.intro hplt hpb);obtain⟨c0,c1,c2,c3,c4,cf⟩:=oE hx;clear h hA hO hc hps hSp hM hok hX hD hMM hcod hcnt hx holt hplt hpb;obtain⟨i0,hi0,hz0,hz1,hz2⟩:=info_parts xI;go_enter Tryz.func67,Tryz.ntmps67;go_wp2_with (fail);have G0:=fun w' (hg:Ge w w')=>hg.at w w' c0
 have G1:=fun w' (hg:Ge w w')=>hg.at w w' c1
 have G4:=fun w' (hg:Ge w w')=>hg.at w w' c4
 have gr:=Ge.refl w;clear c0 c1 c2 c3 c4 cf
 go_region_held3 (Ge w) (first | (with_reducible assumption) | (with_reducible refine Ge.drew ?_;with_reducible assumption) | (with_reducible refine Ge.drewN ?_ _;with_reducible assumption)) ((go_at_call 18;refine(HSP.out _ (by exact bA (Below.refl _ _) _)).mono ?_;rintro E w1 ⟨⟨pv,rfl,ho⟩,hb1⟩;obtain⟨pa,pc',rfl,hps⟩:=ho.sl;have HO1:=hW_ ho;have HB1:=hW_ hb1;have HPS:=hW_ hps;have hg1:Ge w w1:=hb1;clear ho hps hb1))
 have HPL:Hid (0<ps.length->∀ad,pa=some ad->ad.block<w1.heap.size/\w.heap.size<=ad.block):=hW_ (fun hl ad e=>by
  obtain⟨pb,pc,hpv,hpb,hpl⟩:=eA.at0 HO1.out hl;obtain⟨rfl,-,rfl⟩:=Value.slice.inj hpv;obtain rfl:(⟨pb,0,none⟩:Addr)=ad:=Option.some.inj e;exact⟨hpl,hpb⟩)
 clear HO1 G0 G1 G4 gr;have HPW:=hW_ (fun q (hq:P q)=>(HV.out.lt q hq).2);have HX1:=hW_ ((HB1.out.block pb HPB.out.1).trans HX.out)
 go_upto_block 0 with(fail)
 go_cut [3,4] from 5 to 49 (fun s3 s4 wx=>∃P',s4= .int .i64 (M:Int)/\Hid (TkE V N w1 wx base g kind T room cnt P X D P' s3))
 case first=>
  go_wp2_with (fail);go_loopw [3,4,21] (fun o nv i wr=>∃(k n:Nat) (O:List Int) (P':Nat->Prop) (d:Int),k<=ps.length/\i= .int .i64 k/\nv= .int .i64 n/\Hid (TkL V N ps w1 wr base g kind T room cnt P R X D M k O n P' d o)) (fun _ _ i _=>ps.length-(intOf i).toNat)
  case atStart=>exact⟨0,0,[],P,0,Nat.zero_le _,rfl,rfl,hW_ ⟨Own.nil _ _,by rw[Int.add_zero];exact HV.out.below HB1.out,fun q hq=> .inl hq,fun q hq=>(by cases hq),iA.refl _ _,Nat.zero_le _,HI.out.1,by rw[List.nil_append];exact HI.out.2.2.1,by rw[Int.zero_add];exact HI.out.2.2.2.1,by rw[Nat.zero_add];exact HI.out.2.2.2.2,by simp⟩⟩
  case round=>
   obtain⟨k,n,O,P',d,hk,rfl,rfl,HL⟩:=hrel;obtain⟨ov,hov⟩:∃ov,ov=u3:=⟨_,rfl⟩;subst hov
   by_cases hlt:k<ps.length
   ·obtain⟨⟨pn,pd⟩,hp⟩:∃x,ps[k]=x:=⟨_,rfl⟩;have hdr:ps.drop k=(pn,pd)::ps.drop (k+1):=by rw[List.drop_eq_getElem_cons hlt,hp]
    have hok:=HL.out.ok;rw[hdr]at hok;obtain⟨h1,h2,h3,h4⟩:=hok;simp only at h1 h2 h3 h4;obtain⟨j,rfl⟩:∃j:Nat,pn=j:=⟨pn.toNat,by omega⟩;rw[Int.toNat_natCast]at h3 h4;rw[List.drop_drop]at h4;rw[List.length_drop]at h2;have htot:=HL.out.tot;have hby:=HL.out.by_;have hsum:=HL.out.sum;have hPq:∀q,w.heap.size<=q->q<w1.heap.size->¬(P q\/w1.heap.size<=q):=fun q h1 h2 h3=>by
     rcases h3 with h3 | h3
     ·have:=HPW.out q h3;omega
     ·omega
    have hpw:SlF 2 wr pa ps.length pc' (flat eF ps):=HPS.out.keep0 (fun ad e hl=>by
     obtain⟨a1,a2⟩:=HPL.out hl ad e;exact HL.out.kp.block _ a1 (hPq _ a2 a1))
    obtain⟨b,of,rfl,hce⟩:=hpw.elem uI (by omega) (k:=k) (x:=((j:Int),pd)) (by rw[<-hp];exact List.getElem?_eq_getElem hlt);have d0:=hce 0 _ rfl;have d1:=hce 1 _ rfl;rw[Nat.add_zero]at d0;simp only at d0 d1;have gk:(k:Int)<(ps.length:Int):=by omega
    have hb2:=aA wr (.cells #[.int .i64 j, .bool pd] 51);obtain⟨W2,hW2⟩:∃W2,wr.alloc (.cells #[.int .i64 j, .bool pd] 51)=W2:=⟨_,rfl⟩;have hx2:W2.heap[wr.heap.size]?=some (.cells #[.int .i64 j, .bool pd] 51):=by rw[<-hW2];exact heap_alloc_new wr _
    have hS2:wr.heap.size<W2.heap.size:=by rw[<-hW2];simp
    rw[hW2]at hb2
    cases pd with
    | false=>
     rw[hdr,fL rfl]at htot hby hsum;simp only[B6,byN,zQ,List.append_nil,Nat.add_zero,Int.add_zero]at htot hby hsum;have HE:Hid (O=X/\d=D):=hW_ ⟨htot,hby⟩;subst hsum;obtain⟨k0,k1⟩:=Y1 hx2;rw[<-hW2]at k0 k1;have HW2:=hW_ hW2;have HB2:=hW_ hb2;clear hce hpw hb2 hW2 hx2 hS2 h1 h2 h3 h4 htot hby hPq hp hdr;go_wp2_with (fail);go_meet;rw[HW2.out];exact⟨P',rfl,hW_ ⟨by rw[<-HE.out.1];exact HL.out.own.below HB2.out,by rw[<-HE.out.2];exact HL.out.cdr.below HB2.out,HL.out.sub,HL.out.fresh,HL.out.kp.trans (iA.of_below HB2.out)⟩⟩
    | true=>
     rw[hdr,aG rfl]at htot hby hsum;simp only[B6,byN,iD,Int.toNat_natCast,List.drop_drop]at htot hby hsum;have hPn:¬(P pb\/w1.heap.size<=pb):=fun hq=>by
      rcases hq with hq | hq
      ·exact HPB.out.2 hq
      ·have:=HB1.out.size;have:=HPB.out.1;omega
     have hxr:=(hb2.block pb (by have:=HL.out.kp.size;have:=HB1.out.size;have:=HPB.out.1;omega)).trans ((HL.out.kp.block pb (by have:=HB1.out.size;have:=HPB.out.1;omega) hPn).trans HX1.out);have hAw:SlI wr o R.length c R:=(SlI.below HA.out HB1.out).keep0 (fun ad e hl=>by
      obtain⟨a1,a2,a3⟩:=HO.out ad e hl;refine HL.out.kp.block _ (Nat.lt_of_lt_of_le a1 HB1.out.size) (fun hq=> ?_);rcases hq with hq | hq
      ·exact a2 hq
      ·have:=HB1.out.size;omega)
     have hAW2:SlI W2 o R.length c R:=SlI.below hAw hb2;obtain⟨so,hrs,hso⟩:=vZ (ao:=o) (n:=R.length) (cap:=c) (k:=n) (m:=n+j) (K:=n) (M:=(n:Int)+j) rfl (by omega) (by omega) (by omega) hA0.out hi0 hz1;have hsum1:IntKind.i64.wrap ((n:Int)+(j:Int))=(n:Int)+j:=by rw[IntKind.wrap_i64];omega
     have hBW2:=hso W2 R hAW2;rw[Nat.add_sub_cancel_left]at hBW2;rw[Nat.add_sub_cancel_left]at hrs;have hcw:=HL.out.cdr;have hckR:=(D0 HI.out.2.1 n).2;have hckB:qA V N ((R.drop n).take j)=0:=(D0 hckR j).1;have hpl:=jR hckB h3;rw[List.length_take,List.length_drop]at hpl;have hcn:=HCN.out;have hle:=HL.out.le;have hPC:=pN W2 (hcw.below hb2) HMY.out hN hr hBW2 (by omega) h3 hckB (by omega);obtain⟨pr,hpr⟩:∃pr,dF V N ((R.drop n).take j)=pr:=⟨_,rfl⟩;obtain⟨dd,hdd⟩:∃dd,O0 ((R.drop n).take j)=dd:=⟨_,rfl⟩;rw[hpr]at htot hPC hpl;rw[hdd]at hby hPC;have hd01:=aBm ((R.drop n).take j);rw[hdd]at hd01;have hlt7:∀q,ov.ownBlock=some q->w1.heap.size<=q/\q<wr.heap.size:=fun q hq=>World.ownsRow.lt HL.out.own q hq
     obtain⟨k0,k1⟩:=Y1 hx2;obtain⟨c0,c1,c2,c3,c4,cf⟩:=oE hxr;have hpz:¬ZT P' ov pb:=fun hq=>by
      rcases hq with hq | hq
      ·rcases HL.out.sub pb hq with h5 | h5
       ·exact hPn (.inl h5)
       ·exact hPn (.inr h5)
      ·have:=(hlt7 pb hq).1;have:=HB1.out.size;have:=HPB.out.1;omega
     have htz:¬ZT P' ov wr.heap.size:=fun hq=>by
      rcases hq with hq | hq
      ·have:=(hcw.lt _ hq).2;omega
      ·have:=(hlt7 _ hq).2;omega
     have k0':=k0;have k1':=k1;rw[<-hW2]at k0' k1';obtain⟨oa,oc,hov,-⟩:=HL.out.own.sl;subst hov;have HO2:Hid (∀w',iA P' W2 w'->Own w' w1.heap.size (.slice oa O.length oc) O):=hW_ (fun w' hk=>rA (HL.out.own.below hb2) (fun q hq=>hk.block q (Nat.lt_trans (hlt7 q hq).2 hS2) (HL.out.fresh q hq)));have HPC:Hid (∀W,Ge W2 W->Calls Tryz.prog 59 #[.pointer (some ⟨g,0,none⟩), .slice so j (c-n)] W (fun e w3=>∃rb rc P3,e= .returned (.slice (some ⟨rb,0,none⟩) pr.length rc)/\SlI w3 (some ⟨rb,0,none⟩) pr.length rc pr/\Cdr w3 base g V N kind T room (cnt+d+dd) P3/\(∀q,P3 q->P' q\/W2.heap.size<=q)/\iA P' W2 w3)):=hW_ (fun W hW=>by
      have hPC:=pN W ((hcw.below hb2).below hW) HMY.out hN hr (SlI.below hBW2 hW) (by omega) h3 hckB (by omega);rw[hpr,hdd]at hPC;refine hPC.mono ?_
      rintro e w3 ⟨v3,P3,rfl,ho3,hV3,hs3,hk3'⟩;obtain⟨rb,rc,hv3⟩:=aJ ho3 hpl.1;subst hv3;obtain⟨ra,rc',e3,hsl3⟩:=ho3.sl;obtain⟨rfl,-,rfl⟩:=Value.slice.inj e3;exact⟨rb,rc,P3,rfl,hsl3,hV3,fun q hq=>(hs3 q hq).imp id (fun h=>Nat.le_trans hW.size h),(iA.of_below hW).trans hk3'⟩)
     have HF:=hW_ (And.intro h4 (And.intro htot (And.intro hby (And.intro hsum (And.intro hpl hd01)))));have HW2:=hW_ hW2;have HB2:=hW_ hb2;have HNJ:Hid (n+j<=R.length/\1<=j):=hW_ ⟨by omega,by omega⟩;have hPL:0<pr.length/\O.length+pr.length<1048576:=⟨hpl.1,by omega⟩;have HBS:Hid (w1.heap.size<=W2.heap.size):=hW_ (by have:=HL.out.kp.size;omega);have H7:=hW_ hlt7;have HS2:=hW_ hS2;have G0:=fun w' (hg:iA (ZT P' (.slice oa O.length oc)) W2 w')=>hg.cell c0 hpz
     have G1:=fun w' (hg:iA (ZT P' (.slice oa O.length oc)) W2 w')=>hg.cell c1 hpz
     have GK:=fun w' (hg:iA (ZT P' (.slice oa O.length oc)) W2 w')=>hg.cell k0 htz
     have gr:=iA.refl (ZT P' (.slice oa O.length oc)) W2;clear hce hpw hAw hb2 hW2 hx2 hS2 hcw hckB hckR hpl h1 h2 h3 h4 htot hby hsum hPq hp hdr hpr hdd hd01 hPn hxr hAW2 hso hBW2 hPC hlt7 k0 k1 c0 c1 c2 c3 c4 cf hpz htz hcn hle;go_wp2_with (fail);rw[HW2.out]
     go_region_held3 (iA (ZT P' (.slice oa O.length oc)) W2) (first | (with_reducible assumption) | (with_reducible refine iA.drew ?_;with_reducible assumption) | (with_reducible refine iA.drewN ?_ _;with_reducible assumption)) (first
      | (go_at_call 59;refine(HPC.out _ (by exact bA (Below.refl _ _) _)).mono ?_;rintro e w3 ⟨rb,rc,P3,rfl,hsl3,hV3,hP3,hk3⟩;have hz3:iA (ZT P' (.slice oa O.length oc)) W2 w3:=hk3.mono (fun q _ h=>Or.inl h);have HO3:=hW_ (HO2.out _ hk3);have HSL3:=hW_ hsl3;have HV3:=hW_ hV3;have HP3:=hW_ hP3;have HK3:=hW_ hk3;have HBS3:Hid (w1.heap.size<=w3.heap.size):=hW_ (Nat.le_trans HBS.out hk3.size);clear hsl3 hV3 hP3 hk3)
      | (refine Q0 (by rfl) _ _ (by rfl) (base:=w1.heap.size) (v:= .slice oa O.length oc) (k:=O.length) (m:=pr.length) (by rfl) (by exact HO3.out) rfl (by rfl) (by exact HSL3.out) hPL.1 hPL.2 (by exact HBS3.out) ?_;intro gg cap w4 ho4 hg4 hat4;have hz4:iA (ZT P' (.slice oa O.length oc)) W2 w4:=iA.grown hz3 (by exact hg4) (fun q e _=>Or.inr e);have HO4:=hW_ ho4;have HG4:Hid (w3.grownBy w4 (Value.slice oa O.length oc).ownBlock):=hW_ (by exact hg4);have HAT4:Hid ((Value.slice oa O.length oc).ownBlock=some gg\/gg=w3.heap.size):=hW_ (by exact hat4);clear ho4 hg4 hat4))
     have k9:w4.cell? ⟨wr.heap.size,0,none⟩=some (.int .i64 j):=GK w4 hz4;have hnP:∀q,(Value.slice oa O.length oc).ownBlock=some q->¬P3 q:=fun q hq h3=>by
      rcases HP3.out q h3 with h3 | h3
      ·exact HL.out.fresh q hq h3
      ·have:=(H7.out q hq).2;have:=HS2.out;omega
     have HEN:Hid (TkL V N ps w1 w4 base g kind T room cnt P R X D M (k+1) (O++pr) (n+j) P3 (d+dd) (.slice (some ⟨gg,0,none⟩) (O.length+pr.length) cap)):=hW_ (by
      obtain⟨f1,f2,f3,f4,f5,f6⟩:=HF.out;have hnj:=HNJ.out;refine⟨HO4.out,?_,fun q hq=> ?_,fun q hq h3=> ?_,?_,hnj.1,f1,by rw[List.append_assoc];exact f2,by rw[Int.add_assoc];exact f3,by omega,?_⟩
      ·have h:=HV3.out;rw[Int.add_assoc]at h;exact h.stay (fun q hq=>HG4.out.block q (h.lt q hq).2 (fun e=>hnP q e.symm hq)) HG4.out.size
      ·rcases HP3.out q hq with h3 | h3
       ·exact HL.out.sub q h3
       ·exact .inr (by have:=HL.out.kp.size;have:=HS2.out;omega)
      ·obtain rfl:gg=q:=by simpa[Value.ownBlock]using hq
       rcases HAT4.out with h5 | h5
       ·exact hnP gg h5 h3
       ·have:=(HV3.out.lt gg h3).2;omega
      ·refine iA.grown ((HL.out.kp.trans (iA.of_below HB2.out)).trans (HK3.out.mono (fun q _ hq=>HL.out.sub q hq))) HG4.out (fun q e hq=> .inr (H7.out q e).1)
      ·have:=HL.out.le;rw[List.length_append];omega)
     clear hnP gr hz3 hz4 G0 G1 GK hrs hsum1;have hnj2:=HNJ.out;have hsum1:IntKind.i64.wrap ((n:Int)+(j:Int))=((n+j:Nat):Int):=by rw[IntKind.wrap_i64];omega
     clear hnj2;go_wp2_with (fail);go_roundw
     case rel=>exact⟨k+1,n+j,_,P3,d+dd,by omega,by go_num,by go_num,HEN⟩
     case measure=>simp[intOf];omega
   ·obtain rfl:k=ps.length:=by omega
    have HE:Hid (O=X/\d=D/\n=M):=hW_ (by
     have h1:=HL.out.tot;have h2:=HL.out.by_;have h3:=HL.out.sum;rw[List.drop_length]at h1 h2 h3;simp only[B9,List.takeWhile_nil,B6,byN,zQ,List.append_nil]at h1 h2 h3;exact⟨h1,by omega,by omega⟩)
    go_wp2_with (fail);go_meet;exact⟨P',by rw[HE.out.2.2],hW_ ⟨by rw[<-HE.out.1];exact HL.out.own,by rw[<-HE.out.2.1];exact HL.out.cdr,HL.out.sub,HL.out.fresh,HL.out.kp⟩⟩
 case rest=>
  obtain⟨P1,rfl,HT1⟩:=hcut;obtain⟨ov,hov⟩:∃ov,ov=u3:=⟨_,rfl⟩;subst hov;obtain⟨w5,hw5⟩:∃w5,w5=wc:=⟨_,rfl⟩;subst hw5;have hPn:¬(P pb\/w1.heap.size<=pb):=fun hq=>by
   rcases hq with hq | hq
   ·exact HPB.out.2 hq
   ·have:=HB1.out.size;have:=HPB.out.1;omega
  have hx5:=(HT1.out.kp.block pb (by have:=HB1.out.size;have:=HPB.out.1;omega) hPn).trans HX1.out;have hA5:SlI w5 o R.length c R:=(SlI.below HA.out HB1.out).keep0 (fun ad e hl=>by
   obtain⟨a1,a2,a3⟩:=HO.out ad e hl;refine HT1.out.kp.block _ (Nat.lt_of_lt_of_le a1 HB1.out.size) (fun hq=> ?_);rcases hq with hq | hq
   ·exact a2 hq
   ·have:=HB1.out.size;omega)
  obtain⟨oa,oc,hov,-⟩:=HT1.out.own.sl;subst hov;have hlX:X.length<=R.length:=by rw[<-HI.out.2.2.1];exact uR HI.out.1 HI.out.2.1
  have hMI:((R.length-M:Nat):Int)=(R.length:Int)-M:=by omega
  have e1:IntKind.i64.wrap (a+(M:Int))=a+(M:Int):=by rw[IntKind.wrap_i64];omega
  have e2:IntKind.i64.wrap (t+(X.length:Int))=t+(X.length:Int):=by rw[IntKind.wrap_i64];omega
  obtain⟨c0,c1,c2,c3,c4,cf⟩:=oE hx5;have HX5:=hW_ hx5;have HA5:=hW_ hA5;have HML:=hW_ hMl;have hcl:=hA0.out;have HP5:Hid (pb<w5.heap.size):=hW_ (Array.getElem?_eq_some_iff.1 hx5).1;clear hx5 hA5 hPn hMl;go_wp2_with (first
   | (with_reducible show wpList _ _ _ (⟨_, .slice _ _ (some _) none none,_,_,_,_⟩::_) _ _;refine C4 rfl 43 _ _ rfl 3 i0 Tryz.underlying43 hi0 hz1 o R.length c rfl hcl .i64 (M:Int) M rfl rfl HML.out ?_;intro bo' hbo;have HBO:=hW_ hbo;clear hbo)
   | (go_at_call 70;refine(aO (A:=R.drop M) w5 (by have:=HBO.out w5 _ HA5.out;unfold SlI;rw[List.map_drop];exact this) (by omega)).mono ?_;rintro E w6 ⟨v6,rfl,ho6,hb6⟩;obtain⟨ra,rc,rfl,hs6⟩:=ho6.sl;obtain⟨c0,c1,c2,c3,c4,cf⟩:=oE ((hb6.block pb HP5.out).trans HX5.out);have HO6:=hW_ ho6;have HB6:=hW_ hb6;have HS6:=hW_ hs6;clear ho6 hb6 hs6))
  go_ret;have hw1:=HB1.out.size;have hw5:=HT1.out.kp.size;have hpw:=HPB.out.1;have hp1:¬P1 pb:=fun hq=>by
   rcases HT1.out.sub pb hq with h5 | h5
   ·exact HPB.out.2 h5
   ·omega
  have hra:∀ad,ra=some ad->0<(R.drop M).length->w5.heap.size<=ad.block:=fun ad e h0=>by
   obtain⟨b,c',hv⟩:=aJ HO6.out h0;obtain⟨rfl,-,-⟩:=Value.slice.inj hv;obtain rfl:=Option.some.inj e;exact(World.ownsRow.lt HO6.out b rfl).1
  have K5:iA (fun q=>P q\/q=pb) w w5:=((iA.of_below HB1.out).trans HT1.out.kp).mono (fun q h1 h2=>by
   rcases h2 with h2 | h2
   ·exact .inl h2
   ·omega)
  have hx6:=(HB6.out.block pb HP5.out).trans HX5.out;refine⟨.slice oa X.length oc,ra,P1,rfl,?_,?_,?_,fun q hq=> ?_,fun ad e h0=> ?_,HT1.out.fresh,?_⟩
  ·refine Own.mono (rA HT1.out.own (fun q hq=> ?_)) hw1;obtain⟨a1,a2⟩:=World.ownsRow.lt HT1.out.own q hq;exact(wM w6 pb 1 2 3 _ _ _ (by omega)).trans (HB6.out.block q a2)
  ·exact HT1.out.cdr.stay (fun q hq=>(wM w6 pb 1 2 3 _ _ _ (fun e=>hp1 (e▸hq))).trans (HB6.out.block q (HT1.out.cdr.lt q hq).2)) (by simpa using HB6.out.size)
  ·refine⟨rc,?_,?_⟩
   ·rw[List.length_drop];exact pt_set hx6
   ·exact HS6.out.keep0 (fun ad e h0=>wM w6 pb 1 2 3 _ _ _ (fun e2=>by have:=hra ad e h0;omega))
  ·exact(HT1.out.sub q hq).imp id (fun h=>Nat.le_trans hw1 h)
  ·have h9:=hra ad e h0;exact⟨by omega,fun hq=>by have:=(HT1.out.cdr.lt _ hq).2;omega⟩
  ·exact(((K5.trans (iA.of_below HB6.out)).set (Or.inr rfl) _).set (Or.inr rfl) _).set (Or.inr rfl) _
theorem Own.take {w:World} {base:Nat} {vo:Option Addr} {n c:Nat} {A:List Int} (h:Own w base (.slice vo n c) A) {k:Nat} (hk:k<=n):Own w base (.slice vo k c) (A.take k):=by
 obtain⟨hA,hc | ⟨g,cur,rfl,hg,hh,hn,hm,hl,ht⟩⟩:=h.block
 ·obtain⟨rfl,rfl,rfl⟩:=hc;obtain rfl:k=0:=by omega
  simpa using Own.nil w base
 ·refine Own.mk hg hh (by omega) hm hl (by simp;omega) ?_
  rw[List.map_take,<-ht,List.take_take,Nat.min_eq_left hk]
theorem aBV {P:Program} (w:World) (t:TypeId) (i:TypeInfo) (ht:P.underlying t=some (.slice 3)) (hti:P.underlying 3=some (.int .i64)) (hi:P.info? 3=some i) (hz:i.zero=some (.int .i64 0)) (hs:i.size=1) (hb:i.bytes=8)
  (n:Nat) (h0:0<n) (hn:n*8<=140737488355328):
  ∃c,(∀ty,(Builtin.append_ #[t,3] ty #[.slice none 0 0, .int .i64 n]).run P w= .ok (.slice (some ⟨w.heap.size,0,none⟩) n c) (w.drew.alloc (.cells (Builtin.zeroCells (Value.int .i64 0).cells n++Builtin.zeroCells (Value.int .i64 0).cells (c-n)) 3)))/\n<=c/\c<=maxLen:=by
 refine⟨grownCap w n 0 3,fun ty=> ?_,grownCap_ge _ _ _ _,grownCap_le_maxLen _ _ _ _ (by unfold maxLen;omega)⟩;have hn0:n≠0:=by omega
 have wl:IntKind.i64.wrap (n:Int)=n:=by rw[IntKind.wrap_i64];omega
 have h63':¬(9223372036854775807<(n:Int)):=by omega
 have h48':¬(281474976710656<Builtin.nextslicecap n 0*i.bytes):=by rw[nextslicecap_zero h0,hb];omega
 have h48'':¬(281474976710656<(n:Int)*i.bytes):=by rw[hb];omega
 have hneg:¬((n:Int)<0):=by omega
 simp[Builtin.append_,run_underlying ht,run_underlying hti,sizeOf,typeInfo,zeroValue,hi,hz,hs,asInt,asIntOf,wl,hn0,h63',h48',h48'',hneg,Question.forced,run_firstCells_none,newRow,grownCap]
theorem aCd (w:World) (n c:Nat) (hn:n<=c) (hc:c<=maxLen):
  Own (w.drew.alloc (.cells (Builtin.zeroCells (Value.int .i64 0).cells n++Builtin.zeroCells (Value.int .i64 0).cells (c-n)) 3)) w.heap.size (.slice (some ⟨w.heap.size,0,none⟩) n c) (List.replicate n 0):=by
 have e:∀k,(Builtin.zeroCells (Value.int .i64 0).cells k).toList=List.replicate k (Value.int .i64 0):=by
  intro k;have:=toList_madeCells_one (Value.int .i64 0) k;simpa[madeCells,Builtin.zeroCells,Value.cells]using this
 refine Own.mk (cur:=List.replicate n (Value.int .i64 0)++List.replicate (c-n) (Value.int .i64 0)) (Nat.le_refl _) ?_ hn hc (by simp;omega) (by simp) (by simp)
 have e2:(Builtin.zeroCells (Value.int .i64 0).cells n++Builtin.zeroCells (Value.int .i64 0).cells (c-n))=(List.replicate n (Value.int .i64 0)++List.replicate (c-n) (Value.int .i64 0)).toArray:=by
  apply Array.ext';simp only[Array.toList_append,e]
 rw[e2];exact heap_alloc_new w.drew _
theorem grow_nil (n:Nat) (w:World) (hn:n*8<=140737488355328):
  Calls Tryz.prog 98 #[.slice none 0 0, .int .i64 n] w fun e w'=>∃vo vc,e= .returned (.slice vo 0 vc)/\Own w' w.heap.size (.slice vo 0 vc) []/\Below w.heap.size w w':=by
 obtain⟨i0,hi,hz0,hz1,hz2⟩:=info_parts kQ
 by_cases h0:n=0
 ·subst h0;go_enter Tryz.func98,Tryz.ntmps98;go_wp2;go_ret;exact⟨_,_,rfl,Own.nil _ _,Below.refl _ _⟩
 ·have hpos:(0:Int)<(n:Int):=by omega
  obtain⟨c,hr,hc1,hc2⟩:=aBV (P:=Tryz.prog) w 43 i0 Tryz.underlying43 Tryz.underlying3 hi hz0 hz1 hz2 n (by omega) hn;obtain⟨W,hW⟩:∃W,W=(w.drew.alloc (.cells (Builtin.zeroCells (Value.int .i64 0).cells n++Builtin.zeroCells (Value.int .i64 0).cells (c-n)) 3)):=⟨_,rfl⟩;have ho:=aCd w n c hc1 hc2;have hb:Below w.heap.size w W:=by rw[hW];exact((Below.refl _ _).drew).alloc (Nat.le_refl _) _
  rw[<-hW]at hr ho;have hS:SlI W (some ⟨w.heap.size,0,none⟩) n c (List.replicate n 0):=by
   obtain⟨ao,cap,e,h⟩:=ho.sl;simp at e;obtain⟨rfl,rfl⟩:=e;simpa using h
  have HR:=hW_ hr;clear hr;have HW:=hW_ hW;clear hW;go_enter Tryz.func98,Tryz.ntmps98;go_wp2_with (first
   | (with_reducible show wpList _ _ _ (⟨_, .call {callee:= .builtin .append,args:=_,argTypes:=_},_,_,_,_⟩::_) _ _;refine M3 rfl (.tmp 20) (.tmp 21) 43 3 rfl (v1:= .slice none 0 0) (v2:= .int .i64 n) rfl rfl HR.out ?_)
   | (with_reducible show wpList _ _ _ (⟨_, .slice _ (.tmp 22) none (some _) none,_,_,_,_⟩::_) _ _;refine zP rfl 43 (.tmp 22) (.tmp 24) rfl 3 i0 Tryz.underlying43 hi hz1 (k:=0) rfl hS rfl rfl (by omega) ?_;intro hb'))
  go_ret;exact⟨_,_,rfl,by simpa using ho.take (Nat.zero_le n),hb⟩
theorem V1 {R:List (List Int)} {ao:Option Addr} {n c:Nat} (w:World) (hR:D2 w ao n c R) (hreach:R.flatten.length*8<=140737488355328):
  Calls Tryz.prog 66 #[.slice ao n c] w fun e w'=>∃v,e= .returned v/\Own w' w.heap.size v R.flatten/\Below w.heap.size w w':=by
 have hm:=Nat.le_trans hR.le hR.max;unfold maxLen at hm;have hlR:=hW_ hR.len;obtain⟨i0,hi,hz0,hz1,hz2⟩:=info_parts kQ;go_enter Tryz.func66,Tryz.ntmps66;go_wp2;go_loop [3,11] (fun t i=>∃k:Nat,k<=n/\i= .int .i64 k/\t= .int .i64 (tot R k)) (fun _ i=>n-(intOf i).toNat)
 case atStart=>exact⟨0,Nat.zero_le _,rfl,by rw[tot_zero];rfl⟩
 case round=>
  obtain⟨k,hk,rfl,rfl⟩:=hrel;have ht:=gZ R k
  by_cases hlt:k<n
  ·have hts:=hW_ (tot_succ (R:=R) (k:=k) (by rw[hlR.out];exact hlt));have ht1:=gZ R (k+1);obtain⟨b,o,ra,rc,rfl,hcell,hrow⟩:=hR.at_ k hlt;have hrl:(rx R k).length<=9223372036854775807:=by have:=Nat.le_trans (Sl.le hrow) (Sl.max hrow);unfold maxLen at this;omega
   have hrl2:tot R k+(rx R k).length<=R.flatten.length:=by rw[<-hts.out];exact ht1
   go_wp2;go_round
   case rel=>exact⟨k+1,by omega,by go_num,by rw[hts.out];go_num⟩
   case measure=>simp[intOf];omega
  ·obtain rfl:k=n:=by omega
   have hall:tot R k=R.flatten.length:=by rw[<-hlR.out];exact tot_all R
   have Hall:=hW_ hall;clear hall;go_wp2_with (go_at_call 98;refine(grow_nil _ _ (by omega)).mono ?_;rintro e w1 ⟨vo,vc,rfl,ho1,hb1⟩);go_loopw [6,27] (fun v i wr=>∃j:Nat,j<=k/\i= .int .i64 j/\Own wr w.heap.size v (R.take j).flatten/\Below w.heap.size w wr) (fun _ i _=>k-(intOf i).toNat)
   case atStart=>exact⟨0,Nat.zero_le _,rfl,by simpa using ho1,hb1⟩
   case round=>
    obtain⟨j,hj,rfl,ho,hb⟩:=hrel
    by_cases hlt2:j<k
    ·have hfs:=hW_ (cU (R:=R) (k:=j) (by rw[hlR.out];exact hlt2));obtain⟨b,o,ra,rc,rfl,hcell,hrow⟩:=(hR.below hb).at_ j hlt2;have hb3:=gZ R (j+1);unfold tot at hb3;rw[hfs.out,List.length_append]at hb3;go_wp2_with (at_builtin;refine yG rfl _ _ 43 rfl i0 Tryz.underlying43 hi hz0 hz1 hz2 rfl ho rfl hrow (by omega) hb.size ?_;intro v' w' ho' hg' hb');go_roundw
     case rel=>exact⟨j+1,by omega,by go_num,by rw[hfs.out];exact ho',hb.trans hb'⟩
     case measure=>simp[intOf];omega
    ·obtain rfl:j=k:=by omega
     go_wp2;go_ret;exact⟨_,rfl,by have:=hlR.out;subst this;simpa using ho,hb⟩
theorem aAt {R:List (List Int)} {ao:Option Addr} {n c L:Nat} (w:World) (hR:D2 w ao n c R) (hL:R.flatten.length=L) (hreach:L*8<=140737488355328):
  Calls Tryz.prog 66 #[.slice ao n c] w fun e w'=>∃vo vc,e= .returned (.slice vo L vc)/\Own w' w.heap.size (.slice vo L vc) R.flatten/\Below w.heap.size w w':=by
 subst hL;refine(V1 w hR hreach).mono fun e w' ⟨v,he,ho,hb⟩=> ?_
 obtain⟨vo,vc,rfl,_⟩:=ho.sl;exact⟨vo,vc,he,ho,hb⟩
theorem gJ {V:Vc} {N:List ByteArray} {A B:List Int} (hA:qA V N A=0):qA V N (A++B)=qA V N B:=by
 induction A with
 | nil=>rfl
 | cons s l ih=>
  unfold qA at hA
  by_cases hs:bB V N s=0
  ·rw[if_pos hs]at hA;rw[List.cons_append];show(if bB V N s=0 then qA V N (l++B)else bB V N s)=_;rw[if_pos hs,ih hA]
  ·rw[if_neg hs]at hA;exact absurd hA hs
end Go.Proofs.YtimkkkdabmhedaaGreatDoor
