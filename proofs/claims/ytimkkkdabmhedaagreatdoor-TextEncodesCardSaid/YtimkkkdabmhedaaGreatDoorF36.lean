/- Walks: the coder of texts in use, and the blocks at which it looks: lookup, Piece. (Printed by gTq.py.) -/
import Derived.Test.YtimkkkdabmhedaaGreatDoorF35
import Derived.Test.YtimkkkdabmhedaaGreatDoorF34
import Derived.LoopN
import Derived.Test.YtimkkkdabmhedaaGreatDoorF20
import Derived.Test.YtimkkkdabmhedaaGreatDoorF19
import Derived.Test.YtimkkkdabmhedaaGreatDoorF31
import Derived.Test.YtimkkkdabmhedaaGreatDoorF8
import Derived.Test.YtimkkkdabmhedaaGreatDoorF1
set_option linter.unusedVariables false
set_option maxHeartbeats 4000000
set_option maxRecDepth 100000
namespace Go.Proofs.YtimkkkdabmhedaaGreatDoor
open Go.RowKit
theorem E4.below {w w':World} {base top cb mb B:Nat} {no:Option Addr} {l:List Row} {room hits misses:Int} {P:Nat->Prop} (h:E4 w base top cb mb no l room hits misses P) (hp:∀q,P q->q<B) (hb:Below B w w'):E4 w' base top cb mb no l room hits misses P:=
 h.stay (fun q hq=>hb.block q (hp q hq))
theorem E4.cut {w:World} {base top cb mb:Nat} {no:Option Addr} {l:List Row} {room hits misses:Int} {P:Nat->Prop} (h:E4 w base top cb mb no l room hits misses P):E4 w base top cb mb no l room hits misses (fun q=>P q/\base<=q/\q<top):=by
 have hft:=h.rep.ft;obtain⟨m,cap,N,e,y,ord,sz,f,R,hc,hg,hl⟩:=h;exact⟨m,cap,N,e,y,ord,sz,f,R,⟨hc.1,fun k hk=>⟨hc.2.1 k hk,hft k hk⟩,fun i hi ad e=>⟨hc.2.2 i hi ad e,((hc.1.rows i hi).2 ad e).1,((hc.1.rows i hi).2 ad e).2.1⟩⟩,hg,hl⟩
structure eT (w:World) (base g:Nat) (V:Vc) (N:List ByteArray) (kind:Int) (T:List Rg) (room:Int) (cb mb:Nat) (no:Option Addr) (l:List Row) (hits misses:Int) (P:Nat->Prop):Prop where
 sta:∃S,Sta S (fun w=>qJ w base g V N kind T cb) w/\(∀q,S q->P q/\¬Ft cb mb no q)
 rep:E4 w base w.heap.size cb mb no l room hits misses P
 lt:∀q,P q->base<=q/\q<w.heap.size
def Cdr (w:World) (base g:Nat) (V:Vc) (N:List ByteArray) (kind:Int) (T:List Rg) (room cnt:Int) (P:Nat->Prop):Prop:=
 ∃cb mb no l hits misses,eT w base g V N kind T room cb mb no l hits misses P/\oE V l room hits misses/\hits+misses=cnt
section
variable {w:World} {base g:Nat} {V:Vc} {N:List ByteArray} {kind:Int} {T:List Rg} {room:Int} {cb mb:Nat} {no:Option Addr} {l:List Row} {hits misses cnt:Int} {P:Nat->Prop}
theorem eT.codR (h:eT w base g V N kind T room cb mb no l hits misses P):vK w base g V N kind T room cb mb no l hits misses:=by
 obtain⟨⟨S,h1,h2⟩,h3,h4⟩:=h;exact⟨⟨S,h1,fun q hq=>⟨h4 q (h2 q hq).1,(h2 q hq).2⟩⟩,h3.rep⟩
theorem vK.codQ (h:vK w base g V N kind T room cb mb no l hits misses):eT w base g V N kind T room cb mb no l hits misses (fun q=>base<=q/\q<w.heap.size):=by
 have hr:=h.rep;obtain⟨⟨S,h1,h2⟩,_⟩:=h;exact⟨⟨S,h1,fun q hq=>⟨(h2 q hq).1,(h2 q hq).2⟩⟩,hr.req,fun q hq=>hq⟩
theorem eT.stay {w':World} (h:eT w base g V N kind T room cb mb no l hits misses P) (hk:∀q,P q->w'.heap[q]?=w.heap[q]?) (hs:w.heap.size<=w'.heap.size):eT w' base g V N kind T room cb mb no l hits misses P:=by
 obtain⟨⟨S,h1,h2⟩,h3,h4⟩:=h;exact⟨⟨S,h1.next (fun q hq=>hk q (h2 q hq).1) hs,h2⟩,(h3.stay hk).up hs,fun q hq=>⟨(h4 q hq).1,Nat.lt_of_lt_of_le (h4 q hq).2 hs⟩⟩
theorem Cdr.new (h:vK w base g V N kind T room cb mb none [] 0 0) (h0:0<=room):Cdr w base g V N kind T room 0 (fun q=>base<=q/\q<w.heap.size):=
 ⟨cb,mb,none,[],0,0,h.codQ,⟨fun p hp=>(by cases hp),by simpa using h0,by simp,by omega,by omega,fun _=>⟨rfl,rfl⟩⟩,rfl⟩
theorem Cdr.stay {w':World} (h:Cdr w base g V N kind T room cnt P) (hk:∀q,P q->w'.heap[q]?=w.heap[q]?) (hs:w.heap.size<=w'.heap.size):Cdr w' base g V N kind T room cnt P:=by
 obtain⟨cb,mb,no,l,hits,misses,h1,h2⟩:=h;exact⟨cb,mb,no,l,hits,misses,h1.stay hk hs,h2⟩
theorem Cdr.lt (h:Cdr w base g V N kind T room cnt P):∀q,P q->base<=q/\q<w.heap.size:=by
 obtain⟨cb,mb,no,l,hits,misses,h1,h2⟩:=h;exact h1.lt
theorem Cdr.below {w':World} (h:Cdr w base g V N kind T room cnt P) (hb:Below w.heap.size w w'):Cdr w' base g V N kind T room cnt P:=
 h.stay (fun q hq=>hb.block q (h.lt q hq).2) hb.size
theorem Cdr.cod (h:Cdr w base g V N kind T room cnt P):∃cb,qJ w base g V N kind T cb:=by
 obtain⟨cb,mb,no,l,hits,misses,h1,h2⟩:=h;exact⟨cb,h1.codR.cod⟩
theorem eT.turn {w':World} {no':Option Addr} {l':List Row} {hits' misses':Int} (h:eT w base g V N kind T room cb mb no l hits misses P)
  (hc:Cch cb mb no no' w w') (hr:E4 w' base w'.heap.size cb mb no' l' room hits' misses' (fun q=>P q\/w.heap.size<=q)):eT w' base g V N kind T room cb mb no' l' hits' misses' (fun q=>(P q\/w.heap.size<=q)/\base<=q/\q<w'.heap.size):=by
 obtain⟨⟨S,h1,h2⟩,h3,h4⟩:=h;exact⟨⟨S,h1.next (fun q hq=>hc.block q (h4 q (h2 q hq).1).2 (h2 q hq).2) hc.size,fun q hq=>⟨⟨.inl (h2 q hq).1,(h4 q (h2 q hq).1).1,Nat.lt_of_lt_of_le (h4 q (h2 q hq).1).2 hc.size⟩,hc.new q (h4 q (h2 q hq).1).2 (h2 q hq).2⟩⟩,hr.cut,fun q hq=>hq.2⟩
end
def LkQ (V:Vc) (w:World) (base cb mb:Nat) (no:Option Addr) (room cnt:Int) (R:List Int) (P:Nat->Prop) (e:Ending) (w':World):Prop:=
 ∃v no' l' hits' misses',e= .returned v/\Own w' w.heap.size v R/\E4 w' base w'.heap.size cb mb no' l' room hits' misses' (fun q=>P q\/w.heap.size<=q)/\oE V l' room hits' misses'/\hits'+misses'=cnt+1/\Cch cb mb no no' w w'
theorem S0 {P:Nat->Prop} {V:Vc} {base cb mb b2 b5:Nat} {no:Option Addr} {l:List Row} {room hits misses:Int} (key:ByteArray) (w:World) (hr:E4 w base w.heap.size cb mb no l room hits misses P) (hP:∀q,P q->q<w.heap.size) (hok:oE V l room hits misses) (hroom:room<=1048576) (hcnt:hits+misses<1000000) (hks:key.size<=100000)
  (hF:∀W,iA (Ft cb mb no) w W->Calls Tryz.prog 90 #[.pointer (some ⟨b2,0,none⟩), .pointer (some ⟨b5,0,none⟩)] W fun e w'=>∃v,e= .returned v/\Own w' W.heap.size v (fG V (cA key))/\Below W.heap.size W w'):
  Calls Tryz.prog 89 #[.pointer (some ⟨cb,0,none⟩), .string key, .func (.func 90) #[] #[.pointer (some ⟨b2,0,none⟩), .pointer (some ⟨b5,0,none⟩)]] w (LkQ V w base cb mb no room (hits+misses) (fG V (cA key)) P):=by
 have h0:=hok.hz;have m0:=hok.mz;have hmx:key.size<=maxLen:=by unfold maxLen;omega
 have hRl:(fG V (cA key)).length<=1048576:=by have:=aBz V (cA key);rw[nA]at this;omega
 by_cases hin:∃R,(key,R)∈l
 ·obtain⟨R,hR⟩:=hin;have hRR:R=fG V (cA key):=hok.rows _ hR;have HG:=hW_ (creq_hit hr (Nat.le_refl _) key R hmx hR h0 (by omega));have HOK:=hW_ (hok.hit hR);have HRR:=hW_ hRR;clear hr hP hok hF hR hRR h0 m0;go_enter Tryz.func89,Tryz.ntmps89;go_wp2_with (go_at_call 118;refine HG.out.mono ?_;rintro e w1 ⟨vo,vn,vc,rfl,ho,hr1,hk1⟩;have HO:=hW_ ho;have HR1:=hW_ hr1;have HK1:=hW_ hk1;clear ho hr1 hk1);refine bodyPost_ret (results_tmp rfl _ _ _) rfl ⟨.slice vo vn vc,no,E6 l key R,hits+1,misses,rfl,by rw[<-HRR.out];exact HO.out,(HR1.out.up HK1.out.size).more (fun q h=> .inl h),HOK.out,by omega,Cch.keeps HK1.out⟩
 ·have hno:∀p∈l,p.1≠key:=fun p hp e=>hin ⟨p.2,by rw[<-e];exact hp⟩
  have HG:=hW_ (aCW hr (Nat.le_refl _) key hmx hno m0 (by omega));have HF:=hW_ hF;have HPL:=hW_ hP;have HFT:Hid (∀q,Ft cb mb no q->q<w.heap.size):=hW_ fun q hq=>hP q (hr.ft q hq)
  by_cases hz:room=0
  ·subst hz;have HOK:=hW_ hok.missed;clear hr hP hok hF hin hno h0 m0;go_enter Tryz.func89,Tryz.ntmps89;go_wp2_with (first
    | (go_at_call 118;refine HG.out.mono ?_;rintro e w1 ⟨rfl,hr1,hk1⟩;have HR1:=hW_ hr1;have HK1:=hW_ hk1;clear hr1 hk1)
    | (go_at_call 90;refine(HF.out _ HK1.out).mono ?_;rintro e w2 ⟨v,rfl,ho,hb2⟩;obtain⟨vo,vc,rfl,_⟩:=ho.sl;have HO:=hW_ ho;have HB2:=hW_ hb2;clear ho hb2)
    | (go_at_call 119;refine(aCX ((HR1.out.up HK1.out.size).below (fun q h=>Nat.lt_of_lt_of_le (HPL.out q h) HK1.out.size) HB2.out).rep key _ _ _).mono ?_;rintro e w3 ⟨rfl,hb3⟩;have HB3:=hW_ hb3;clear hb3))
   go_ret;exact⟨_,no,l,hits,misses+1,rfl,(HO.out.below HB3.out).mono HK1.out.size,((((HR1.out.up HK1.out.size).below (fun q h=>Nat.lt_of_lt_of_le (HPL.out q h) HK1.out.size) HB2.out).up HB2.out.size |>.below (fun q h=>Nat.lt_of_lt_of_le (HPL.out q h) (Nat.le_trans HK1.out.size HB2.out.size)) HB3.out).up HB3.out.size).more (fun q h=> .inl h),HOK.out,by omega,((Cch.keeps HK1.out).trans (Cch.below HB2.out)).trans (Cch.below HB3.out)⟩
  ·have hrp:0<room:=by have:=hok.rm;omega
   have HOK:=hW_ (hok.put (k:=key) hrp);have HLL:Hid ((l.length:Int)<=room/\l.length<1048576):=hW_ ⟨hok.rm,by have:=hok.ms;omega⟩;clear hr hP hok hF hin hno h0 m0;go_enter Tryz.func89,Tryz.ntmps89;go_wp2_with (first
    | (go_at_call 118;refine HG.out.mono ?_;rintro e w1 ⟨rfl,hr1,hk1⟩;have HR1:=hW_ hr1;have HK1:=hW_ hk1;clear hr1 hk1)
    | (go_at_call 90;refine(HF.out _ HK1.out).mono ?_;rintro e w2 ⟨v,rfl,ho,hb2⟩;obtain⟨vo,vc,rfl,hsl⟩:=ho.sl;have HO:=hW_ ho;have HB2:=hW_ hb2;have HSL:=hW_ hsl;clear ho hb2 hsl)
    | (go_at_call 119;refine(creq_put (((HR1.out.up HK1.out.size).below (fun q h=>Nat.lt_of_lt_of_le (HPL.out q h) HK1.out.size) HB2.out).up HB2.out.size) key hmx hrp hroom HLL.out.1 HLL.out.2 HSL.out (fun ad e h0=>by
      subst e;obtain⟨k1,k2⟩:=World.ownsRow.lt HO.out ad.block (by obtain⟨vb,e⟩:=K6 HO.out h0;obtain⟨c',e⟩:=e;rw[e];cases e;rfl);exact⟨k2,fun hf=>by have:=HFT.out _ hf;have:=HK1.out.size;omega⟩) hRl).mono ?_;rintro e w3 ⟨rfl,gg,hr3,hk3,hat3⟩;have HR3:=hW_ hr3;have HK3:=hW_ hk3;have HAT3:=hW_ hat3;clear hr3 hk3 hat3))
   go_ret;refine⟨_,some ⟨gg,0,none⟩,_,hits,misses+1,rfl,?_,HR3.out.more (fun q h=>h.imp id (fun h=>Nat.le_trans (Nat.le_trans HK1.out.size HB2.out.size) h)),HOK.out,by omega,((Cch.keeps HK1.out).trans (Cch.below HB2.out)).trans (Cch.put HK3.out HAT3.out)⟩;refine Own.mono (mA HO.out (fun q hq=> ?_)) HK1.out.size;obtain⟨k1,k2⟩:=World.ownsRow.lt HO.out q hq;exact HK3.out.block q k2 (fun hf=>by have:=HFT.out _ hf;have:=HK1.out.size;omega)
def PcQ (w:World) (base g:Nat) (V:Vc) (N:List ByteArray) (kind:Int) (T:List Rg) (room cnt:Int) (P:Nat->Prop) (R:List Int) (d:Int) (e:Ending) (w':World):Prop:=
 ∃v P',e= .returned v/\Own w' w.heap.size v R/\Cdr w' base g V N kind T room (cnt+d) P'/\(∀q,P' q->P q\/w.heap.size<=q)/\iA P w w'
theorem qX {P:Nat->Prop} {V:Vc} {N:List ByteArray} {kind:Int} {T:List Rg} {base g:Nat} {room:Int} {cnt x:Int} {ao:Option Addr} {c:Nat} (w:World) (h:Cdr w base g V N kind T room cnt P) (hN:N.length<=16) (hA:SlI w ao 1 c [x]) (hx:256<=x) (hc:lA V N [x]=0):
  Calls Tryz.prog 59 #[.pointer (some ⟨g,0,none⟩), .slice ao 1 c] w (PcQ w base g V N kind T room cnt P (tB V N [x]) (O1 [x])):=by
 obtain⟨w0,hw0⟩:∃w0,w.alloc (.cells #[.pointer (some ⟨g,0,none⟩)] 32)=w0:=⟨_,rfl⟩;have hb0:Below w.heap.size w w0:=hw0▸aA w _;have hx0:w0.heap[w.heap.size]?=some (.cells #[.pointer (some ⟨g,0,none⟩)] 32):=by rw[<-hw0];exact heap_alloc_new w _
 have z0:w0.cell? ⟨w.heap.size,0,none⟩=some (.pointer (some ⟨g,0,none⟩)):=by simp[World.cell?,hx0]
 have hV:=h.below hb0;obtain⟨cb,hcod⟩:=hV.cod;have hCk:=zE w0 hcod hN (hA.below hb0) (by omega);rw[hc]at hCk;obtain⟨lo,ta,tc,sa,sc,na,nc,ma,mc,oa,oc,eg,hbx,_,_,_,hom,_⟩:=hcod;obtain⟨c0,c1,c2,c3,c4,c5,c6,c7,c8,cf⟩:=dO hbx;obtain⟨mo,mcap,e0,hsm⟩:=hom.sl;have hml:=J7 V.specials N;rw[hml]at e0 hsm;obtain⟨rfl,_,rfl⟩:=Value.slice.inj e0;have hfx:A4 V N x=0:=by
  have:=uB.1 hc x (by simp);exact this
 have hxl:x<256+(N.length:Int):=by
  rcases Int.lt_or_le x (256+(N.length:Int))with h1 | h1
  ·exact h1
  ·unfold A4 at hfx;rw[if_pos (.inr h1)]at hfx;cases hfx
 obtain⟨k,hk⟩:∃k:Nat,x-256=k:=⟨(x-256).toNat,by omega⟩;have q2:IntKind.i64.wrap (x-256)=(k:Int):=by rw[IntKind.wrap_i64];omega
 have gk:(k:Int)<(N.length:Int):=by omega
 have gk0:(0:Int)<=(k:Int):=by omega
 obtain⟨bm,om,hmo,hcm⟩:=hsm.at_ (i:=k) (by omega);subst hmo;obtain⟨v,hv⟩:∃v,ix (iC V.specials N) k=v:=⟨_,rfl⟩;rw[hv]at hcm;have hmk:C9 V N x=v:=by unfold C9;rw[hk,Int.toNat_natCast,hv]
 have HP:Hid (tB V N [x]= [v]):=hW_ (by rw[wH hc hx,hmk]);obtain⟨b,o,hao,hca⟩:=(hA.below hb0).at_ (i:=0) (by omega);subst hao;have ha0:w0.cell? ⟨b,o,none⟩=some (.int .i64 x):=by simpa[ix]using hca
 have gx:decide ((256:Int)<=x)=true:=by simpa using hx
 have HCK:=hW_ hCk;have HB0:=hW_ hb0;have HW0:=hW_ hw0;have HV:=hW_ hV;have HX:=hW_ hx;clear h hA hc hbx hom hsm e0 hml hfx hv hmk hca hw0 hb0 hx0 hCk hV hx;go_enter Tryz.func59,Tryz.ntmps59;go_wp2_with (fail);rw[HW0.out];go_wp2_with (go_at_call 33;refine HCK.out.mono ?_;rintro e w1 ⟨rfl,rfl⟩);go_region
 all_goals(
  go_wp2_with (fail);refine bodyPost_ret (results_tmp rfl _ _ _) rfl ⟨_,P,rfl,by rw[HP.out];exact Own.mono (oV _ v) HB0.out.size,by rw[aCG HX.out,Int.add_zero];exact HV.out.below (by exact lC rfl rfl rfl rfl),fun q hq=> .inl hq,iA.of_below (HB0.out.trans (Below.mono (by exact lC rfl rfl rfl rfl) HB0.out.size))⟩)
theorem mV {P:Nat->Prop} {V:Vc} {N:List ByteArray} {kind:Int} {T:List Rg} {base g:Nat} {room:Int} {cnt:Int} {A:List Int} {ao:Option Addr} {n c:Nat} (w:World) (hh:Cdr w base g V N kind T room cnt P) (hM:May V) (hN:N.length<=16) (hr:room<=1048576)
  (hA:SlI w ao n c A) (hn0:0<n) (hn:n<=100000) (hb:∀y∈A,0<=y/\y<256) (hc:lA V N A=0) (hcnt:cnt<1000000):
  Calls Tryz.prog 59 #[.pointer (some ⟨g,0,none⟩), .slice ao n c] w (PcQ w base g V N kind T room cnt P (tB V N A) (O1 A)):=by
 obtain⟨cb,mb,no,l,hits,misses,h,hok,hsum⟩:=hh;obtain⟨w0,hw0⟩:∃w0,w.alloc (.cells #[.pointer (some ⟨g,0,none⟩)] 32)=w0:=⟨_,rfl⟩;have hb0:Below w.heap.size w w0:=hw0▸aA w _;have hx0:w0.heap[w.heap.size]?=some (.cells #[.pointer (some ⟨g,0,none⟩)] 32):=by rw[<-hw0];exact heap_alloc_new w _
 have hz0:w.heap.size<w0.heap.size:=by rw[<-hw0];simp
 have z0:w0.cell? ⟨w.heap.size,0,none⟩=some (.pointer (some ⟨g,0,none⟩)):=by simp[World.cell?,hx0]
 have hV:=h.stay (fun q hq=>hb0.block q (h.lt q hq).2) hb0.size;have hA0:=hA.below hb0;have hAl:=hA.len;have hCk:=zE w0 hV.codR.cod hN hA0 (by omega);rw[hc]at hCk;have hne:A≠[]:=fun e=>by rw[e]at hAl;simp at hAl;omega
 have HP:Hid (tB V N A=fG V A):=hW_ (sG hc hne hb);have HBY:Hid (O1 A=1):=hW_ (aAt hb);obtain⟨b,o,hao,hca⟩:=hA0.at_ (i:=0) hn0;subst hao;obtain⟨x,hx⟩:∃x,ix A 0=x:=⟨_,rfl⟩;rw[hx]at hca;have hxb:=hb x (by rw[<-hx];exact List.mem_of_getElem? (uD (by omega)));have ha0:w0.cell? ⟨b,o,none⟩=some (.int .i64 x):=by simpa using hca
 have gx:decide ((256:Int)<=x)=false:=by simp;omega
 have gn0:((n:Int)==0)=false:=by simp;omega
 have HBT:=hW_ (aT w0 hA0 (fun y hy=>C0.2 (hb y hy)) (by omega));have HCK:=hW_ hCk;have HB0:=hW_ hb0;have HW0:=hW_ hw0;have HX0:=hW_ hx0;have HV:=hW_ hV;have HY:=hW_ hb;have HFT:Hid (∀q,Ft cb mb no q->base<=q/\q<w.heap.size):=hW_ fun q hq=>h.lt q (h.rep.ft q hq)
 have HPL:=hW_ h.lt;have HOK:=hW_ hok;have HSUM:=hW_ hsum;have HPF:=hW_ h.rep.ft;have HAL:=hW_ hAl;have HM:=hW_ hM;clear h hok hsum hA hA0 hc hca hw0 hb0 hx0 hCk hV hx hAl hne hxb hb hM;go_enter Tryz.func59,Tryz.ntmps59;go_wp2_with (fail);rw[HW0.out];go_wp2_with (go_at_call 33;refine HCK.out.mono ?_;rintro e w1 ⟨rfl,rfl⟩)
 all_goals(
  go_at_call 88;refine HBT.out.mono ?_
  rintro e w2 ⟨⟨v,rfl,ho⟩,hb2⟩;obtain⟨gb,bc,rfl,hgb,hgl,hsl⟩:=rN ho (by have:=HAL.out;omega);obtain⟨W3,hW3⟩:∃W3,w2.alloc (.cells #[.slice (some ⟨gb,0,none⟩) A.length bc] 121)=W3:=⟨_,rfl⟩;have hb3:Below w2.heap.size w2 W3:=hW3▸aA w2 _;have hx3:W3.heap[w2.heap.size]?=some (.cells #[.slice (some ⟨gb,0,none⟩) A.length bc] 121):=by rw[<-hW3];exact heap_alloc_new w2 _
  have hx2:W3.heap[w.heap.size]?=some (.cells #[.pointer (some ⟨g,0,none⟩)] 32):=(hb3.block _ (Nat.lt_of_lt_of_le hz0 hb2.size)).trans ((hb2.block _ hz0).trans HX0.out)
  have HB3:Hid (Below w0.heap.size w0 W3):=hW_ (hb2.trans (hb3.mono hb2.size));have hft3:∀q,w.heap.size<=q->¬Ft cb mb no q:=fun q hq hf=>by have:=(HFT.out q hf).2;omega
  have hs02:w.heap.size<=w2.heap.size:=Nat.le_trans (Nat.le_of_lt hz0) hb2.size;have hcv:∀W,iA (Ft cb mb no) W3 W->(convert 121 9 (.slice (some ⟨gb,0,none⟩) A.length bc)).run Tryz.prog W= .ok (.string (rI A)) W:=fun W hW=>yF (sO (Sl.below hsl hb3) (fun ad e=>by
   obtain rfl:ad=⟨gb,0,none⟩:=(Option.some.inj e).symm;exact hW.block gb (Nat.lt_of_lt_of_le hgl hb3.size) (hft3 gb (Nat.le_trans (Nat.le_of_lt hz0) hgb)))) (by have:=HAL.out;omega)
  have HLK:Hid (∀W,Ge W3 W->Calls Tryz.prog 89 #[.pointer (some ⟨cb,0,none⟩), .string (rI A), .func (.func 90) #[] #[.pointer (some ⟨w.heap.size,0,none⟩), .pointer (some ⟨w2.heap.size,0,none⟩)]] W (fun e w'=>PcQ w base g V N kind T room cnt P (fG V A) 1 e w'/\iA (Ft cb mb no) W3 w')):=hW_ (fun W hW=>by
   have hcr:=(HV.out.stay (fun q hq=>HB3.out.block q (HV.out.lt q hq).2) HB3.out.size).stay (fun q hq=>hW.block q (Nat.lt_of_lt_of_le (HV.out.lt q hq).2 HB3.out.size)) hW.size;have hsum:=HSUM.out;have hft:∀q,Ft cb mb no q->q<w.heap.size:=fun q hq=>(HFT.out q hq).2
   have hs2:=hb2.size;have hsW:=hW.size;have hs3:=hb3.size;have hsz3:w2.heap.size<W3.heap.size:=(Array.getElem?_eq_some_iff.1 hx3).1;refine(S0 (rI A) W hcr.rep (fun q hq=>(hcr.lt q hq).2) HOK.out hr (by omega) (by rw[O0 HY.out];have:=HAL.out;omega) (fun W' hk=> ?_)).mono ?_
   ·rw[qE HY.out];have k2:W'.heap[w.heap.size]?=some (.cells #[.pointer (some ⟨g,0,none⟩)] 32):=(hk.block _ (by omega) (fun hf=>by have:=hft _ hf;omega)).trans ((hW.block _ (by omega)).trans hx2)
    have k5:W'.heap[w2.heap.size]?=some (.cells #[.slice (some ⟨gb,0,none⟩) A.length bc] 121):=(hk.block _ (by omega) (fun hf=>by have:=hft _ hf;omega)).trans ((hW.block _ (by omega)).trans hx3)
    refine nV W' (hcr.codR.codK hk) HM.out (sO (Sl.below (Sl.below hsl hb3) hW) (fun ad e=> ?_)) HY.out (by have:=HAL.out;omega) (by have:=HAL.out;omega) (by simp[World.cell?,k2]) (by simp[World.cell?,k5]);obtain rfl:ad=⟨gb,0,none⟩:=(Option.some.inj e).symm;exact hk.block gb (by omega) (fun hf=>by have:=hft _ hf;omega)
   ·rintro e w' ⟨v,no',l',hits',misses',rfl,hown,hrep,hok',hsum',hcch⟩;rw[qE HY.out]at hown;have hsz:w.heap.size<=W.heap.size:=by omega
    have hkk:iA (Ft cb mb no) W3 w':=(iA.of_below hW).trans ⟨hcch.os,hcch.tape,hcch.output,hcch.size,hcch.block⟩;exact⟨⟨v,_,rfl,hown.mono hsz,⟨cb,mb,no',l',hits',misses',hcr.turn hcch hrep,hok',by omega⟩,fun q hq=>hq.1.imp id (fun h=>Nat.le_trans hsz h),(((iA.of_below HB0.out).trans (iA.of_below HB3.out)).trans hkk).mono (fun k _ hf=>HPF.out k hf)⟩,hkk⟩)
  have z2:W3.cell? ⟨w.heap.size,0,none⟩=some (.pointer (some ⟨g,0,none⟩)):=by simp[World.cell?,hx2]
  have z5:W3.cell? ⟨w2.heap.size,0,none⟩=some (.slice (some ⟨gb,0,none⟩) A.length bc):=by simp[World.cell?,hx3]
  have HW3:=hW_ hW3;have G2:=fun w' (hg:iA (Ft cb mb no) W3 w')=>hg.cell z2 (hft3 _ (Nat.le_refl _))
  have G5:=fun w' (hg:iA (Ft cb mb no) W3 w')=>hg.cell z5 (hft3 _ hs02)
  have G8:∀w',iA (Ft cb mb no) W3 w'->w'.cell? ⟨g,8,none⟩=some (.pointer (some ⟨cb,0,none⟩)):=fun w' hg=>by
   have hcr:=(HV.out.stay (fun q hq=>HB3.out.block q (HV.out.lt q hq).2) HB3.out.size).codR;obtain⟨_,_,_,_,_,_,_,_,_,_,_,_,hbx',_⟩:=hcr.codK hg;exact(dO hbx').2.2.2.2.2.2.2.2.1
  have gr:=iA.refl (Ft cb mb no) W3;clear hW3 hb3 hx3 hx2 ho hb2 hgb hgl hsl z0 ha0 z2 z5 hft3 hs02;go_wp2_with (fail);rw[HW3.out]
  go_region_held3 (iA (Ft cb mb no) W3) (first | (with_reducible assumption) | (with_reducible refine iA.drew ?_;with_reducible assumption) | (with_reducible refine iA.drewN ?_ _;with_reducible assumption)) ((go_at_call 89;refine(HLK.out _ (by exact bA (Below.refl _ _) _)).mono ?_;rintro e w9 ⟨⟨v9,p9,rfl,ho9,hV9,hp9,hc9⟩,hk9⟩;have HP9:=hW_ hp9;have HO9:=hW_ ho9;have HV9:=hW_ hV9;have HC9:=hW_ hc9;clear ho9 hV9 hp9 hc9))
  all_goals(
   go_wp2_with (fail);go_ret;exact⟨v9,p9,rfl,by rw[HP.out];exact HO9.out,by rw[HBY.out];exact HV9.out,HP9.out,HC9.out⟩))
theorem pO {w:World} {ops:Array Oper} {rest:List Oper} {o:Oper} {a:Act} {Q:Exit->Act->World->Prop} (hgd:o.guard=none) (s x:Operand)
  (ho:o.op= .call {callee:= .builtin .append,args:=#[s,x],argTypes:=#[43,43]})
  {base b m c k:Nat} {v:Value} {A R:List Int} (hs:a.eval s=v) (hown:Own w base v A) (hk:A.length=k) (hx:a.eval x= .slice (some ⟨b,0,none⟩) m c)
  (hl:SlI w (some ⟨b,0,none⟩) m c R) (hm0:0<m) (hm:k+m<1048576) (hbase:base<=w.heap.size)
  (hK:∀g cap' w',Own w' base (.slice (some ⟨g,0,none⟩) (k+m) cap') (A++R)->w.grownBy w' v.ownBlock->(v.ownBlock=some g\/g=w.heap.size)->wpList Tryz.prog ops Q rest (a.put o.dst (.slice (some ⟨g,0,none⟩) (k+m) cap')) w'):
  wpList Tryz.prog ops Q (o::rest) a w:=by
 obtain⟨i0,hi0,hz0,hz1,hz2⟩:=info_parts cF;subst hk;have hRl:=hl.len;refine wpList_append_lies (P:=Tryz.prog) (w:=w) hgd s x 43 ho base 3 i0 _ 1 8 Tryz.underlying43 hi0 hz0 hz1 hz2 rfl (by omega) _ A.length _ hs hown ⟨b,0,none⟩ m c (R.map (.int .i64)) hx (by rw[List.length_map];omega)
  (fun j u hu=> ?_) (oQ R) hm0 (by unfold maxLen;omega) (by omega) hbase w.heap.size rfl ?_
 ·obtain⟨b',o',e,hc⟩:=Sl.at_ hl j u hu;simp only[Option.some.injEq,Addr.mk.injEq,and_true]at e;obtain⟨rfl,rfl⟩:=e;rw[Addr.add_lit];exact hc
 ·intro g cap' w' ho' hgr hat hlt;refine hK g cap' w' ?_ hgr hat
  unfold Own;rw[List.length_append,List.map_append,hRl];exact ho'
theorem two_sl {w:World} {tb:Nat} {x m:Int} {t:TypeId} (h:w.heap[tb]?=some (.cells #[.int .i64 x, .int .i64 m] t)):SlI w (some ⟨tb,0,none⟩) 2 2 [x,m]:=by
 refine⟨rfl,Nat.le_refl _,by unfold maxLen;omega,fun h=>(by cases h),fun i u hu=>⟨tb,0,rfl,?_⟩⟩
 match i,hu with
 | 0,hu=>simp at hu;subst hu;simp[World.cell?,h]
 | 1,hu=>simp at hu;subst hu;simp[World.cell?,h]
 | i+2,hu=>simp at hu
theorem aCd {M:List Mg} {row r:List Int} (h:pF M row=some r):0<r.length:=by
 have hl:=xK h;unfold pF at h;split at h
 ·next he=>
  obtain⟨a,b,h1,h2,h3⟩:=he.choose_spec.at_;have:=(List.getElem?_eq_some_iff.1 h2).1;omega
 ·cases h
theorem dX {M:List Mg}:∀(k:Nat) (r:List Int),0<r.length->0<(yG M k r).length
 | 0,r,h=>h
 | k+1,r,h=>by
  cases hs:pF M r with
  | none=>rw[uJ hs];exact h
  | some r'=>
   have:=dX k r' (aCd hs) (M:=M);simp only[yG,hs];exact this
theorem encF_pos {V:Vc} {A:List Int} (h:0<A.length):0<(fG V A).length:=
 dX (M:=V.merges) A.length (cB V A) (by rw[wE];exact h)
theorem cH {V:Vc} {N:List ByteArray} {A:List Int} (hc:lA V N A=0) (hm:sU A):0<(tB V N A).length/\(tB V N A).length<=A.length:=by
 rcases hm with⟨x,rfl,hx⟩ | ⟨hne,hb⟩
 ·rw[wH hc hx];simp
 ·rw[sG hc hne hb];exact⟨encF_pos (List.length_pos_iff.2 hne),aBz V A⟩
def byN:List (Int×Bool)->List Int->Int
 | [],_=>0
 | p::ps,A=>O1 (A.take p.1.toNat)+byN ps (A.drop p.1.toNat)
theorem isBy_01 (A:List Int):0<=O1 A/\O1 A<=1:=by
 unfold O1;split<;>omega
theorem H8.len:∀{ps:List (Int×Bool)} {A:List Int},H8 ps A->ps.length<=A.length
 | [],A,h=>Nat.zero_le _
 | p::ps,A,h=>by
  have:=H8.len h.2.2.2;have:=h.1;have:=h.2.1;simp only[List.length_drop,List.length_cons]at *;omega
theorem lV {P:Nat->Prop} {V:Vc} {N:List ByteArray} {kind:Int} {T:List Rg} {base g:Nat} {room:Int} {cnt:Int} {A:List Int} {ao:Option Addr} {n c:Nat} (w:World) (h:Cdr w base g V N kind T room cnt P) (hM:May V) (hN:N.length<=16) (hr:room<=1048576)
  (hA:SlI w ao n c A) (hn:n<=100000) (hm:sU A) (hc:lA V N A=0) (hcnt:cnt<1000000):
  Calls Tryz.prog 59 #[.pointer (some ⟨g,0,none⟩), .slice ao n c] w (PcQ w base g V N kind T room cnt P (tB V N A) (O1 A)):=by
 have hl:=hA.len;rcases hm with⟨x,rfl,hx⟩ | ⟨hne,hb⟩
 ·simp only[List.length_singleton]at hl;subst hl;exact qX w h hN hA hx hc
 ·exact mV w h hM hN hr hA (by have:=List.length_pos_iff.2 hne;omega) hn hb hc hcnt
def EncQ (w:World) (base g:Nat) (V:Vc) (N:List ByteArray) (kind:Int) (T:List Rg) (room cnt:Int) (P:Nat->Prop) (R:List Int) (d:Int) (e:Ending) (w':World):Prop:=
 ∃v P',e= .returned (.tuple #[v, .int .i64 0])/\Own w' w.heap.size v R/\Cdr w' base g V N kind T room (cnt+d) P'/\(∀q,P' q->P q\/w.heap.size<=q)/\(∀q,v.ownBlock=some q->¬P' q)/\iA P w w'
structure EnL (V:Vc) (N:List ByteArray) (ps:List (Int×Bool)) (w1 wr:World) (base g:Nat) (kind:Int) (T:List Rg) (room cnt:Int) (P:Nat->Prop) (ao:Option Addr) (n c:Nat) (A R:List Int) (D:Int) (k:Nat) (O B:List Int) (bo:Option Addr) (m c':Nat) (P':Nat->Prop) (d:Int) (o:Value):Prop where
 own:Own wr w1.heap.size o O
 cdr:Cdr wr base g V N kind T room (cnt+d) P'
 sub:∀q,P' q->P q\/w1.heap.size<=q
 fresh:∀q,o.ownBlock=some q->¬P' q
 kp:iA (fun q=>P q\/w1.heap.size<=q) w1 wr
 sl:∀W,SlI W ao n c A->SlI W bo m c' B
 ok:H8 (ps.drop k) B
 ck:lA V N B=0
 tot:O++qB V N (ps.drop k) B=R
 by_:d+byN (ps.drop k) B=D
 le:O.length+B.length<=n/\d+B.length<=n/\0<=d
theorem rL {P:Nat->Prop} {V:Vc} {N:List ByteArray} {kind:Int} {T:List Rg} {base g:Nat} {room:Int} {cnt:Int} {A:List Int} {ao:Option Addr} {n c:Nat} (w:World) (h:Cdr w base g V N kind T room cnt P) (hM:May V) (hN:N.length<=16) (hT:kA T) (hk0:0<=kind) (hk3:kind<=3) (hr:room<=1048576)
  (hA:SlI w ao n c A) (hAo:∀ad,ao=some ad->0<n->ad.block<w.heap.size/\¬P ad.block) (hn:n<=100000) (hcnt:cnt+n<1000000) (hc:lA V N A=0):
  Calls Tryz.prog 17 #[.pointer (some ⟨g,0,none⟩), .slice ao n c] w (EncQ w base g V N kind T room cnt P (qL V N kind T A) (byN (B6 kind T A true) A)):=by
 obtain⟨ps,hps⟩:∃ps,B6 kind T A true=ps:=⟨_,rfl⟩;have hok:H8 ps A:=hps▸aN hT hc;obtain⟨cb,hcod⟩:=h.cod;have hCk:=zE w hcod hN hA (by omega);rw[hc]at hCk;have hSp:=M9 true w hcod hA (by omega) hT hk0 hk3;rw[hps]at hSp;obtain⟨R,hR⟩:∃R,qL V N kind T A=R:=⟨_,rfl⟩;have htot:qB V N ps A=R:=by rw[<-hR,qL,hps]
 rw[hR,hps];obtain⟨D,hD⟩:∃D,byN ps A=D:=⟨_,rfl⟩;rw[hD];have hAl:=hA.len;have hps1:ps.length<=100000:=by have:=hok.len;omega
 have HCK:=hW_ hCk;have HSP:=hW_ hSp;have HV:=hW_ h;have HA:=hW_ hA;have HAL:=hW_ hAl;have HAO:=hW_ hAo;have HMY:=hW_ hM;have HI:=hW_ (And.intro hok (And.intro hc (And.intro htot hD)));have HCN:=hW_ hcnt;clear h hA hAl hAo hc hps hCk hSp hM hok hR htot hD hcod hcnt;obtain⟨i0,hi0,hz0,hz1,hz2⟩:=info_parts cF;go_enter Tryz.func17,Tryz.ntmps17;go_wp2_with (go_at_call 33;refine HCK.out.mono ?_;rintro e w1 ⟨rfl,rfl⟩);go_at_call 18;refine HSP.out.mono ?_
 rintro e w1 ⟨⟨pv,rfl,ho⟩,hb1⟩;obtain⟨pa,pc',rfl,hps⟩:=ho.sl;have hplt:0<ps.length->∀ad,pa=some ad->ad.block<w1.heap.size/\w.heap.size<=ad.block:=fun hl ad e=>by
  obtain⟨pb,pc,hpv,hpb,hpl⟩:=eA.at0 ho hl;obtain⟨rfl,-,rfl⟩:=Value.slice.inj hpv;obtain rfl:(⟨pb,0,none⟩:Addr)=ad:=Option.some.inj e;exact⟨hpl,hpb⟩
 have HPS:=hW_ hps;have HPL:=hW_ hplt;have HB1:=hW_ hb1;have HPW:=hW_ (fun q (hq:P q)=>(HV.out.lt q hq).2);clear ho hps hplt hb1;go_wp2_with (fail);go_loopw [1,7,20] (fun tx o i wr=>∃(k:Nat) (O B:List Int) (bo:Option Addr) (m c':Nat) (P':Nat->Prop) (d:Int),k<=ps.length/\i= .int .i64 k/\tx= .slice bo m c'/\Hid (EnL V N ps w1 wr base g kind T room cnt P ao n c A R D k O B bo m c' P' d o)) (fun _ _ i _=>ps.length-(intOf i).toNat)
 case atStart=>exact⟨0,[],A,ao,n,c,P,0,Nat.zero_le _,rfl,rfl,hW_ ⟨Own.nil _ _,by rw[Int.add_zero];exact HV.out.below HB1.out,fun q hq=> .inl hq,fun q hq=>(by cases hq),iA.refl _ _,fun W hW=>hW,HI.out.1,HI.out.2.1,HI.out.2.2.1,by rw[Int.zero_add];exact HI.out.2.2.2,by have:=HAL.out;simp;omega⟩⟩
 case round=>
  obtain⟨k,O,B,bo,m,c',P',d,hk,rfl,rfl,HL⟩:=hrel;obtain⟨ov,hov⟩:∃ov,ov=u7:=⟨_,rfl⟩;subst hov
  by_cases hlt:k<ps.length
  ·obtain⟨⟨pn,pd⟩,hp⟩:∃x,ps[k]=x:=⟨_,rfl⟩;have hdr:ps.drop k=(pn,pd)::ps.drop (k+1):=by rw[List.drop_eq_getElem_cons hlt,hp]
   have hok:=HL.out.ok;rw[hdr]at hok;obtain⟨h1,h2,h3,h4⟩:=hok;simp only at h1 h2 h3 h4;obtain⟨j,rfl⟩:∃j:Nat,pn=j:=⟨pn.toNat,by omega⟩;rw[Int.toNat_natCast]at h3 h4;have hBm:B.length=m:=by
    have hs:=HL.out.sl w HA.out;exact hs.len
   have hjm:j<=m:=by omega
   have htot:=HL.out.tot;have hby:=HL.out.by_;rw[hdr]at htot hby;simp only[qB,byN,Int.toNat_natCast]at htot hby;have hPq:∀q,w.heap.size<=q->q<w1.heap.size->¬(P q\/w1.heap.size<=q):=fun q h1 h2 h3=>by
    rcases h3 with h3 | h3
    ·have:=HPW.out q h3;omega
    ·omega
   have hpw:SlF 2 wr pa ps.length pc' (flat dD ps):=HPS.out.keep0 (fun ad e hl=>by
    obtain⟨a1,a2⟩:=HPL.out hl ad e;exact HL.out.kp.block _ a1 (hPq _ a2 a1))
   obtain⟨b,of,rfl,hce⟩:=hpw.elem D1 (by omega) (k:=k) (x:=((j:Int),pd)) (by rw[<-hp];exact List.getElem?_eq_getElem hlt);have d0:=hce 0 _ rfl;have d1:=hce 1 _ rfl;rw[Nat.add_zero]at d0;simp only at d0 d1;have gk:(k:Int)<(ps.length:Int):=by omega
   have hAw:SlI wr ao n c A:=(SlI.below HA.out HB1.out).keep0 (fun ad e hl=>by
    obtain⟨a1,a2⟩:=HAO.out ad e hl;refine HL.out.kp.block _ (Nat.lt_of_lt_of_le a1 HB1.out.size) (fun hq=> ?_);rcases hq with hq | hq
    ·exact a2 hq
    ·have:=HB1.out.size;omega)
   have hBw:=HL.out.sl wr hAw;have hb2:=aA wr (.cells #[.int .i64 j, .bool pd] 51);have HSA:Hid (SlI (wr.alloc (.cells #[.int .i64 j, .bool pd] 51)) bo m c' B):=hW_ (SlI.below hBw hb2);obtain⟨W2,hW2⟩:∃W2,wr.alloc (.cells #[.int .i64 j, .bool pd] 51)=W2:=⟨_,rfl⟩;have hx2:W2.heap[wr.heap.size]?=some (.cells #[.int .i64 j, .bool pd] 51):=by rw[<-hW2];exact heap_alloc_new wr _
   have hS2:wr.heap.size<W2.heap.size:=by rw[<-hW2];simp
   rw[hW2]at hb2;have hcw:=HL.out.cdr;have hckB:lA V N (B.take j)=0:=(vC HL.out.ck j).1;have hckD:lA V N (B.drop j)=0:=(vC HL.out.ck j).2;have hpl:=cH hckB h3;rw[List.length_take]at hpl;have hBW2:SlI W2 bo m c' B:=SlI.below hBw hb2;have HPC:=hW_ (lV W2 (hcw.below hb2) HMY.out hN hr (hBW2.take hjm) (by have:=HL.out.le;omega) h3 hckB (by have:=HL.out.le;have:=HCN.out;omega));obtain⟨pr,hpr⟩:∃pr,tB V N (B.take j)=pr:=⟨_,rfl⟩;rw[hpr]at HPC hpl htot;obtain⟨dd,hdd⟩:∃dd,O1 (B.take j)=dd:=⟨_,rfl⟩;have hd01:=isBy_01 (B.take j);rw[hdd]at HPC hby hd01;have HF:=hW_ (And.intro h4 (And.intro hckD (And.intro htot (And.intro hby (And.intro hpl hd01)))));have HW2:=hW_ hW2;have HX2:=hW_ hx2;have HS2:=hW_ hS2;have HB2:=hW_ hb2;have HBM:=hW_ hBm;have HLE:=hW_ (Sl.le hBw);have HCL:=hW_ hcw.lt;clear hce hpw hAw hBw hb2 hW2 hx2 hS2 hcw hckB hckD hpl hBW2 h1 h2 h3 h4 htot hby hPq hp hdr hpr hdd hd01 hBm;go_wp2_with (with_reducible show wpList _ _ _ (⟨_, .slice _ _ none (some _) none,_,_,_,_⟩::_) _ _;refine gJ rfl 43 _ _ rfl 3 i0 Tryz.underlying43 hi0 hz1 (k:=j) rfl HSA.out rfl rfl hjm ?_;intro hb';clear hb');rw[HW2.out];go_at_call 59;refine HPC.out.mono ?_
   rintro e w3 ⟨v3,P3,rfl,ho3,hV3,hs3,hk3'⟩;obtain⟨rb,rc,hv3⟩:=K6 ho3 HF.out.2.2.2.2.1.1;subst hv3;obtain⟨ra,rc',e3,hsl3⟩:=ho3.sl;obtain⟨rfl,-,rfl⟩:=Value.slice.inj e3;have h9:w3.cell? ⟨wr.heap.size,0,none⟩=some (.int .i64 j):=by
    have hh:=hk3'.block wr.heap.size HS2.out (fun hq=>by have:=(HCL.out _ hq).2;omega);rw[World.cell?_of_block (w:=W2) hh];simp[World.cell?,HX2.out]
   have hlt7:∀q,ov.ownBlock=some q->w1.heap.size<=q/\q<wr.heap.size:=fun q hq=>World.ownsRow.lt HL.out.own q hq
   have HO3:Hid (Own w3 w1.heap.size ov O):=hW_ (mA (HL.out.own.below HB2.out) (fun q hq=>hk3'.block q (Nat.lt_trans (hlt7 q hq).2 HS2.out) (HL.out.fresh q hq)));have HS3:Hid (W2.heap.size<=w3.heap.size):=hW_ hk3'.size;have HSL3:=hW_ hsl3;have HV3:=hW_ hV3;have HK3:=hW_ hk3';have HP3:=hW_ hs3;have H7:=hW_ hlt7;have HBS:Hid (w1.heap.size<=w3.heap.size):=hW_ (by have:=HL.out.kp.size;have:=HS2.out;have:=HS3.out;omega);have hPL:0<pr.length/\O.length+pr.length<1048576:=⟨HF.out.2.2.2.2.1.1,by have:=HF.out.2.2.2.2.1.2;have:=HL.out.le;have:=HBM.out;omega⟩;clear ho3 e3 hsl3 hV3 hk3' hs3 hlt7 d0 d1;obtain⟨oa,oc,hov,-⟩:=HO3.out.sl;subst hov;go_wp2_with (first
    | (at_builtin;refine pO rfl _ _ rfl (base:=w1.heap.size) (v:= .slice oa O.length oc) (k:=O.length) (m:=pr.length) rfl HO3.out rfl rfl HSL3.out hPL.1 hPL.2 HBS.out ?_;intro gg cap w4 ho4 hg4 hat4;have k9:w4.cell? ⟨wr.heap.size,0,none⟩=some (.int .i64 j):=(World.cell?_of_block (w:=w3) (hg4.block wr.heap.size (Nat.lt_of_lt_of_le HS2.out HS3.out) (fun e=>by have:=(H7.out _ e.symm).2;omega))).trans h9;have HO4:=hW_ ho4;have HG4:=hW_ hg4;have HAT4:=hW_ hat4;clear ho4 hg4 hat4)
    | (with_reducible show wpList _ _ _ (⟨_, .slice _ _ (some _) none none,_,_,_,_⟩::_) _ _;refine xC rfl 43 _ _ rfl 3 i0 Tryz.underlying43 hi0 hz1 bo m c' rfl HLE.out .i64 (j:Int) j rfl rfl hjm ?_;intro bo' hbo;have HBO:=hW_ hbo;clear hbo))
   have hnP:∀q,(Value.slice oa O.length oc).ownBlock=some q->¬P3 q:=fun q hq h3=>by
    rcases HP3.out q h3 with h3 | h3
    ·exact HL.out.fresh q hq h3
    ·have:=(H7.out q hq).2;have:=HS2.out;omega
   have HEN:Hid (EnL V N ps w1 w4 base g kind T room cnt P ao n c A R D (k+1) (O++pr) (B.drop j) bo' (m-j) (c'-j) P3 (d+dd) (.slice (some ⟨gg,0,none⟩) (O.length+pr.length) cap)):=hW_ (by
    obtain⟨f1,f2,f3,f4,f5,f6⟩:=HF.out;refine⟨HO4.out,?_,fun q hq=> ?_,fun q hq h3=> ?_,?_,fun W hW=> ?_,f1,f2,by rw[List.append_assoc];exact f3,by rw[Int.add_assoc];exact f4,?_⟩
    ·have h:=HV3.out;rw[Int.add_assoc]at h;exact h.stay (fun q hq=>HG4.out.block q (h.lt q hq).2 (fun e=>hnP q e.symm hq)) HG4.out.size
    ·rcases HP3.out q hq with h3 | h3
     ·exact HL.out.sub q h3
     ·exact .inr (by have:=HL.out.kp.size;have:=HS2.out;omega)
    ·obtain rfl:gg=q:=by simpa[Value.ownBlock]using hq
     rcases HAT4.out with h5 | h5
     ·exact hnP gg h5 h3
     ·have:=(HV3.out.lt gg h3).2;omega
    ·refine iA.grown (((HL.out.kp.trans (iA.of_below HB2.out)).trans (HK3.out.mono (fun q _ hq=>HL.out.sub q hq)))) HG4.out (fun q e hq=> .inr (H7.out q e).1)
    ·have:=HBO.out W _ (HL.out.sl W hW);unfold SlI;rw[List.map_drop];exact this
    ·have:=HL.out.le;have:=HBM.out;rw[List.length_append,List.length_drop];omega)
   clear hnP k9 h9;go_wp2_with (fail);go_roundw
   case rel=>exact⟨k+1,_,_,bo',m-j,c'-j,P3,d+dd,by omega,by go_num,rfl,HEN⟩
   case measure=>simp[intOf];omega
  ·obtain rfl:k=ps.length:=by omega
   have HE:Hid (O=R/\d=D):=hW_ (by
    have h1:=HL.out.tot;have h2:=HL.out.by_;rw[List.drop_length]at h1 h2;simp only[qB,byN,List.append_nil]at h1 h2;exact⟨h1,by omega⟩)
   go_wp2_with (fail);refine bodyPost_ret (v:= .tuple #[ov, .int .i64 0]) ?_ rfl ⟨ov,P',rfl,?_,?_,fun q hq=> ?_,HL.out.fresh,?_⟩
   ·simp[results,Tryz.results17,go_sem]
   ·rw[<-HE.out.1];exact HL.out.own.mono HB1.out.size
   ·rw[<-HE.out.2];exact HL.out.cdr
   ·exact(HL.out.sub q hq).imp id (fun h=>Nat.le_trans HB1.out.size h)
   ·exact((iA.of_below HB1.out).trans HL.out.kp).mono (fun q h1 h2=>h2.resolve_right (fun h3=>by have:=HB1.out.size;omega))
theorem qS {V:Vc} {N:List ByteArray} {kind:Int} {T:List Rg} {base g cb:Nat} {A:List Int} {ao:Option Addr} {n c:Nat} (w:World) (hcod:qJ w base g V N kind T cb) (hN:N.length<=16)
  (hA:SlI w ao n c A) (hn:n<=100000) (hc:lA V N A≠0):
  Calls Tryz.prog 17 #[.pointer (some ⟨g,0,none⟩), .slice ao n c] w (fun e w'=>e= .returned (.tuple #[.slice none 0 0, .int .i64 (lA V N A)])/\w'=w):=by
 have hCk:=zE w hcod hN hA (by omega);obtain⟨x,hx⟩:∃x,lA V N A=x:=⟨_,rfl⟩;rw[hx]at hCk hc |-;have gx:(x==0)=false:=by simpa using hc
 have HCK:=hW_ hCk;clear hCk hx hc;go_enter Tryz.func17,Tryz.ntmps17;go_wp2_with (go_at_call 33;refine HCK.out.mono ?_;rintro e w1 ⟨rfl,rfl⟩);refine bodyPost_ret (v:= .tuple #[.slice none 0 0, .int .i64 x]) ?_ rfl ⟨rfl,rfl⟩
 simp[results,Tryz.results17,go_sem]
open Go
theorem aCc (p:Int×Bool) (ps:List (Int×Bool)):I0 (p::ps)=p.1.toNat+I0 ps:=rfl
theorem sumP_app (ps qs:List (Int×Bool)):I0 (ps++qs)=I0 ps+I0 qs:=by unfold I0;rw[List.map_append,List.sum_append]
section
variable {V:Vc} {N:List ByteArray} {kind:Int} {T:List Rg}
end
variable {kind:Int} {T:List Rg} {final:Bool} {A:List Int}
def SpS (kind:Int) (T:List Rg) (final:Bool) (A:List Int) (i:Nat) (op:Bool) (ps:List (Int×Bool)):Prop:=
 B6 kind T A final=ps++vB kind T final (A.length-i) (A.drop i) op/\i<=A.length/\ps.length<=i
theorem SpS.zero:SpS kind T final A 0 false []:=⟨rfl,Nat.zero_le _,Nat.le_refl _⟩
theorem SpS.mark {i:Nat} {op:Bool} {ps:List (Int×Bool)} (h:SpS kind T final A i op ps) (hi:i<A.length) (hr:A5 (A.drop i)= []):SpS kind T final A (i+1) op (ps++ [(1,true)]):=by
 refine⟨?_,hi,by have:=h.2.2;simp;omega⟩;have e:=List.drop_eq_getElem_cons hi;have hm:isB A[i]=false:=by
  rw[e]at hr
  cases hb:isB A[i]with
  | false=>rfl
  | true=>unfold A5 at hr;rw[List.takeWhile_cons,hb,if_pos rfl]at hr;cases hr
 rw[h.1,show A.length-i=(A.length-(i+1))+1 by omega,e,pG hm];simp
theorem SpS.run (hT:kA T) {i:Nat} {op d:Bool} {n:Int} {ps:List (Int×Bool)} (h:SpS kind T final A i op ps) (hr:A5 (A.drop i)≠[])
  (hn:A6 kind T (A5 (A.drop i)) (final || decide (i+(A5 (A.drop i)).length<A.length))=(n,d)):SpS kind T final A (i+n.toNat) (op || !d) (ps++ [(n,!(op || !d))])/\1<=n/\i+n.toNat<=A.length:=by
 have hl:=Q5 (A.drop i);rw[List.length_drop]at hl;have h0:=List.length_pos_iff.2 hr;have hle:=eH (kind:=kind) hT fN hr (final || decide (i+(A5 (A.drop i)).length<A.length));rw[hn]at hle;simp only at hle;have hd:decide (i+(A5 (A.drop i)).length<A.length)=decide ((A5 (A.drop i)).length<(A.drop i).length):=by rw[List.length_drop];exact decide_eq_decide.2 (by omega)
 rw[hd]at hn;refine⟨⟨?_,by omega,by have:=h.2.2;simp;omega⟩,hle.1,by omega⟩;rw[h.1,show A.length-i=(A.length-(i+1))+1 by omega,tH hr hn,List.drop_drop,List.append_assoc];rw[E8 hT (k:=A.length-(i+1)) (j:=A.length-(i+n.toNat)) (by simp only[List.length_drop];omega) (by simp only[List.length_drop];omega)];rfl
theorem SpS.done {i:Nat} {op:Bool} {ps:List (Int×Bool)} (h:SpS kind T final A i op ps) (hi:A.length<=i):B6 kind T A final=ps:=by
 rw[h.1,List.drop_eq_nil_of_le hi,vE,List.append_nil]
theorem bytes_80:cA ⟨#[128]⟩= [128]:=by decide +kernel
theorem bytes_bf:cA ⟨#[191]⟩= [191]:=by decide +kernel
theorem eV (s:ByteArray) (n:Nat) (w:World) (h1:2<=n) (h4:n<=4) (h0:0<s.size) (hs:s.size<n):Calls Tryz.prog 101 #[.string s, .int .i64 n] w fun e w'=>e= .returned (.bool (decide (wC (cA s) n)))/\w'=w:=by
 go_enter Tryz.func101,Tryz.ntmps101;go_wp2_with (fail);go_loopw [5,6] (fun a b wr=>∃(k:Nat) (lo hi:ByteArray),s.size+k<=n/\a= .string lo/\b= .string hi/\lo.size=s.size+k/\hi.size=s.size+k/\Hid (cA lo=cA s++List.replicate k 128/\cA hi=cA s++List.replicate k 191)/\wr=w) (fun a _ _=>n-(match a with | .string x=>x.size | _=>0))
 case atStart=>exact⟨0,s,s,by omega,rfl,rfl,rfl,rfl,hW_ (by simp),rfl⟩
 case round=>
  obtain⟨k,lo,hi,hk,rfl,rfl,hl,hh,HB,rfl⟩:=hrel
  by_cases hlt:s.size+k<n
  ·have g1:((lo.size:Nat):Int)<(n:Int):=by omega
   have HB2:Hid (cA (lo++⟨#[128]⟩)=cA s++List.replicate (k+1) 128/\cA (hi++⟨#[191]⟩)=cA s++List.replicate (k+1) 191):=hW_ (by
    obtain⟨e1,e2⟩:=HB.out;rw[M2,M2,e1,e2,bytes_80,bytes_bf];simp[List.replicate_succ'])
   have z1:(lo++⟨#[128]⟩:ByteArray).size=s.size+(k+1):=by rw[ByteArray.size_append,hl];rfl
   have z2:(hi++⟨#[191]⟩:ByteArray).size=s.size+(k+1):=by rw[ByteArray.size_append,hh];rfl
   have HZ:=hW_ (And.intro z1 z2);clear z1 z2;go_wp2_with (fail);go_roundw
   case rel=>exact⟨k+1,_,_,by omega,rfl,rfl,HZ.out.1,HZ.out.2,HB2,by first | rfl | trivial⟩
   case measure=>
    have:=HZ.out.1;simp only;omega
  ·have hkn:s.size+k=n:=by omega
   obtain⟨a,ha⟩:∃a,jC (sI (cA s) n 128) n=a:=⟨_,rfl⟩;obtain⟨c,hc⟩:∃c,jC (sI (cA s) n 191) n=c:=⟨_,rfl⟩;have hfl:cA lo=sI (cA s) n 128/\cA hi=sI (cA s) n 191:=by
    obtain⟨e1,e2⟩:=HB.out;unfold sI;rw[nA,show n-s.size=k by omega];exact⟨e1,e2⟩
   have b1:=wJ lo n wr (by omega) h4 (by omega);have b2:=wJ hi n wr (by omega) h4 (by omega);have sa:=nK (s:=lo) (n:=n) (by omega) h4 (by omega);have sc:=nK (s:=hi) (n:=n) (by omega) h4 (by omega);rw[hfl.1,ha]at b1 sa;rw[hfl.2,hc]at b2 sc;have hmt:wC (cA s) n=jD a c (iI n):=by unfold wC;rw[ha,hc]
   have HB1:=hW_ b1;have HB2:=hW_ b2;have HMT:Hid (decide (wC (cA s) n)=decide (jD a c (iI n))):=hW_ (by simp only[hmt]);obtain⟨mm,hmm⟩:∃m,iI n=m:=⟨_,rfl⟩;rw[hmm]at HMT;have HMM:=hW_ hmm;clear b1 b2 hfl ha hc hmt hmm;go_wp2_with (fail);go_at_call 132;refine HB1.out.mono ?_
   rintro e w1 ⟨rfl,rfl⟩;go_wp2_with (fail);go_at_call 132;refine HB2.out.mono ?_
   rintro e w1 ⟨rfl,rfl⟩
   by_cases ra:a<0
   ·have g1:decide (a<0)=true:=by simpa using ra
    have HN:Hid (decide (jD a c mm)=false):=hW_ (by unfold jD;simp;omega);go_wp2_with (fail);go_ret;exact⟨by rw[HMT.out,HN.out];rfl,rfl⟩
   have g1:decide (a<0)=false:=by simpa using ra
   by_cases rc:c<0
   ·have g2:decide (c<0)=true:=by simpa using rc
    have HN:Hid (decide (jD a c mm)=false):=hW_ (by unfold jD;simp;omega);go_wp2_with (fail);go_ret;exact⟨by rw[HMT.out,HN.out];rfl,rfl⟩
   have g2:decide (c<0)=false:=by simpa using rc
   have hmm:=HMM.out;rcases(show n=2\/n=3\/n=4 by omega)with rfl | rfl | rfl
   ·obtain rfl:mm=128:=hmm.symm;clear hmm;go_wp2_with (fail)
    all_goals(
     refine bodyPost_ret (results_tmp rfl _ _ _) rfl ⟨?_,rfl⟩;rw[HMT.out];refine congrArg (fun b=>Ending.returned (.bool b)) ?_
     rw[Bool.eq_iff_iff];simp[jD];omega)
   ·obtain rfl:mm=2048:=hmm.symm;clear hmm;go_wp2_with (fail)
    all_goals(
     refine bodyPost_ret (results_tmp rfl _ _ _) rfl ⟨?_,rfl⟩;rw[HMT.out];refine congrArg (fun b=>Ending.returned (.bool b)) ?_
     rw[Bool.eq_iff_iff];simp[jD];omega)
   ·obtain rfl:mm=65536:=hmm.symm;clear hmm;go_wp2_with (fail)
    all_goals(
     refine bodyPost_ret (results_tmp rfl _ _ _) rfl ⟨?_,rfl⟩;rw[HMT.out];refine congrArg (fun b=>Ending.returned (.bool b)) ?_
     rw[Bool.eq_iff_iff];simp[jD];omega)
theorem F0 {B:Nat} {a w:World} {g:Nat} (h:Below B a w) (hg:B<=g) (x y z:Value):Below B a (((w.setCell ⟨g,0,none⟩ x).setCell ⟨g,1,none⟩ y).setCell ⟨g,2,none⟩ z):=
 ((h.setCell (p:=⟨g,0,none⟩) hg x).setCell (p:=⟨g,1,none⟩) hg y).setCell (p:=⟨g,2,none⟩) hg z
def iK (r:Int×Int×Bool):Value:= .agg #[.int .i64 r.1, .int .i64 r.2.1, .bool r.2.2]
theorem bR (s:ByteArray) (final:Bool) (w:World) (hsz:s.size<=1000000):Calls Tryz.prog 68 #[.string s, .bool final] w fun e w'=>e= .returned (iK (aO final (cA s)))/\Below w.heap.size w w':=by
 by_cases h0:s.size=0
 ·have hs:s=ByteArray.empty:=by
   apply M1;apply List.eq_nil_of_length_eq_zero;rw[nA];exact h0
  subst hs;go_enter Tryz.func68,Tryz.ntmps68;go_wp2_with (fail);refine bodyPost_ret (v:=iK (-1,0,true)) ?_ rfl ⟨rfl,aA w _⟩
  simp[results,Tryz.results68,go_sem,iK]
 have h0':0<s.size:=by omega
 obtain⟨hem1,hem2,hem3⟩:=yC h0;obtain⟨x,hx⟩:∃x:Int,(s[0].toNat:Int)=x:=⟨_,rfl⟩;have hx8:=s[0].toNat_lt;have hxw:IntKind.u8.wrap x=x:=by rw[IntKind.wrap_u8];omega
 have hl:=iX x;obtain⟨n,hn⟩:∃n,B2 x=n:=⟨_,rfl⟩;rw[hn]at hl;have hn4:n<=4:=by
  rw[<-hn];unfold B2
  repeat' split
  all_goals omega
 have hbl:cA s=x::(cA s).drop 1:=by
  have:=E0 h0'
  rwa [List.drop_zero,hx]at this
 have hdr:aO final (cA s)=if 0<n/\n<=s.size then(if 0<=rD (cA s) n then(rD (cA s) n,(n:Int),false)else(-1,1,false))
   else if 0<n/\final=false/\wC (cA s) n then(-1,0,true)else(-1,1,false):=by
  rw[hbl];unfold aO;simp only[hn,<-hbl,nA]
 obtain⟨w0,hw0⟩:∃w0,w.alloc (.cells #[.int .i64 0, .int .i64 0, .bool false] 113)=w0:=⟨_,rfl⟩;have hb0:Below w.heap.size w w0:=hw0▸aA w _;have hx0:w0.heap[w.heap.size]?=some (.cells #[.int .i64 0, .int .i64 0, .bool false] 113):=by rw[<-hw0];exact heap_alloc_new w _
 have hz0:w.heap.size<w0.heap.size:=by rw[<-hw0];simp
 have hcl:=hl w0 (by omega);have HL:=hW_ hcl;have HB0:=hW_ hb0;have HX0:=hW_ hx0;have HZ0:=hW_ hz0;have HW0:=hW_ hw0
 by_cases n0:n=0
 ·subst n0;have HR:Hid (aO final (cA s)=(-1,1,false)):=hW_ (by rw[hdr,if_neg (by omega),if_neg (by omega)]);obtain⟨z0,z1,z2⟩:=qA hx0;have zf:=mL hx0;clear hdr hbl hb0 hx0 hz0 hw0 hcl hl;go_enter Tryz.func68,Tryz.ntmps68;go_wp2_with (fail);rw[HW0.out];go_at_call 99;refine HL.out.mono ?_
  rintro e w1 ⟨rfl,rfl⟩;go_wp2_with (fail);refine bodyPost_ret (v:=iK (-1,1,false)) ?_ rfl ⟨by rw[HR.out],F0 HB0.out (Nat.le_refl _) _ _ _⟩
  simp[results,Tryz.results68,go_sem,iK,z0,z1,z2]
 have gn0:decide ((0:Int)<(n:Int))=true:=by simp;omega
 by_cases hns:n<=s.size
 ·have gns:decide ((n:Int)<=((s.size:Nat):Int))=true:=by simp;omega
  have hwh:=U9 s n w0 (by omega) hn4 hns;obtain⟨p,hp⟩:∃p,rD (cA s) n=p:=⟨_,rfl⟩;rw[hp]at hwh hdr;rw[if_pos ⟨by omega,hns⟩]at hdr;have HWH:=hW_ hwh
  by_cases hp0:0<=p
  ·rw[if_pos hp0]at hdr;have HR:=hW_ hdr;have gp:decide ((0:Int)<=p)=true:=by simpa using hp0
   clear hdr hbl hb0 hx0 hz0 hw0 hcl hl hwh hp;go_enter Tryz.func68,Tryz.ntmps68;go_wp2_with (fail);rw[HW0.out];go_at_call 99;refine HL.out.mono ?_
   rintro e w1 ⟨rfl,rfl⟩;go_wp2_with (fail);go_at_call 100;refine HWH.out.mono ?_
   rintro e w2 ⟨rfl,hb2⟩;have hx2:=(hb2.block _ HZ0.out).trans HX0.out;obtain⟨z0,z1,z2⟩:=qA hx2;have zf:=mL hx2;have HB2:=hW_ (HB0.out.trans (hb2.mono HB0.out.size));clear hb2 hx2;go_wp2_with (fail);refine bodyPost_ret (v:=iK (p,n,false)) ?_ rfl ⟨by rw[HR.out],F0 HB2.out (Nat.le_refl _) _ _ _⟩
   simp[results,Tryz.results68,go_sem,iK,z0,z1,z2]
  ·rw[if_neg hp0]at hdr;have HR:=hW_ hdr;have gp:decide ((0:Int)<=p)=false:=by simpa using hp0
   clear hdr hbl hb0 hx0 hz0 hw0 hcl hl hwh hp;go_enter Tryz.func68,Tryz.ntmps68;go_wp2_with (fail);rw[HW0.out];go_at_call 99;refine HL.out.mono ?_
   rintro e w1 ⟨rfl,rfl⟩;go_wp2_with (fail);go_at_call 100;refine HWH.out.mono ?_
   rintro e w2 ⟨rfl,hb2⟩;have hx2:=(hb2.block _ HZ0.out).trans HX0.out;obtain⟨z0,z1,z2⟩:=qA hx2;have zf:=mL hx2;have HB2:=hW_ (HB0.out.trans (hb2.mono HB0.out.size));clear hb2 hx2;go_wp2_with (fail);refine bodyPost_ret (v:=iK (-1,1,false)) ?_ rfl ⟨by rw[HR.out],F0 HB2.out (Nat.le_refl _) _ _ _⟩
   simp[results,Tryz.results68,go_sem,iK,z0,z1,z2]
 have gns:decide ((n:Int)<=((s.size:Nat):Int))=false:=by simp;omega
 rw[if_neg (by omega)]at hdr
 cases final with
 | true=>
  have HR:Hid (aO true (cA s)=(-1,1,false)):=hW_ (by rw[hdr,if_neg (by simp)]);obtain⟨z0,z1,z2⟩:=qA hx0;have zf:=mL hx0;clear hdr hbl hb0 hx0 hz0 hw0 hcl hl;go_enter Tryz.func68,Tryz.ntmps68;go_wp2_with (fail);rw[HW0.out];go_at_call 99;refine HL.out.mono ?_
  rintro e w1 ⟨rfl,rfl⟩;go_wp2_with (fail);refine bodyPost_ret (v:=iK (-1,1,false)) ?_ rfl ⟨by rw[HR.out],F0 HB0.out (Nat.le_refl _) _ _ _⟩
  simp[results,Tryz.results68,go_sem,iK,z0,z1,z2]
 | false=>
  have hmt:=eV s n w0 (by omega) hn4 h0' (by omega)
  by_cases hm:wC (cA s) n
  ·rw[decide_eq_true hm]at hmt;have HMT:=hW_ hmt;have HR:Hid (aO false (cA s)=(-1,0,true)):=hW_ (by rw[hdr,if_pos ⟨by omega,rfl,hm⟩]);obtain⟨z0,z1,z2⟩:=qA hx0;have zf:=mL hx0;clear hdr hbl hb0 hx0 hz0 hw0 hcl hl hmt hm;go_enter Tryz.func68,Tryz.ntmps68;go_wp2_with (fail);rw[HW0.out];go_at_call 99;refine HL.out.mono ?_
   rintro e w1 ⟨rfl,rfl⟩;go_wp2_with (fail);go_at_call 101;refine HMT.out.mono ?_
   rintro e w1 ⟨rfl,rfl⟩;go_wp2_with (fail);refine bodyPost_ret (v:=iK (-1,0,true)) ?_ rfl ⟨by rw[HR.out],F0 HB0.out (Nat.le_refl _) _ _ _⟩
   simp[results,Tryz.results68,go_sem,iK,z0,z1,z2]
  ·rw[decide_eq_false hm]at hmt;have HMT:=hW_ hmt;have HR:Hid (aO false (cA s)=(-1,1,false)):=hW_ (by rw[hdr,if_neg (fun h=>hm h.2.2)]);obtain⟨z0,z1,z2⟩:=qA hx0;have zf:=mL hx0;clear hdr hbl hb0 hx0 hz0 hw0 hcl hl hmt hm;go_enter Tryz.func68,Tryz.ntmps68;go_wp2_with (fail);rw[HW0.out];go_at_call 99;refine HL.out.mono ?_
   rintro e w1 ⟨rfl,rfl⟩;go_wp2_with (fail);go_at_call 101;refine HMT.out.mono ?_
   rintro e w1 ⟨rfl,rfl⟩;go_wp2_with (fail);refine bodyPost_ret (v:=iK (-1,1,false)) ?_ rfl ⟨by rw[HR.out],F0 HB0.out (Nat.le_refl _) _ _ _⟩
   simp[results,Tryz.results68,go_sem,iK,z0,z1,z2]
def aF (b:List Int):Nat:=(pts [] b).length-zA (pts [] b)
theorem aCl:aF []=0:=rfl
theorem nM {b:List Int} (h:b≠[]) (hm:(dec false b).2.2=true):aF b=b.length:=by
 unfold aF;rw[xJ [] h hm];have:zA (b.map (fun _=>yA))=0:=by
  unfold zA
  cases b<;>simp[yA]
 rw[this,List.length_map];rfl
theorem oM {b:List Int} (h:b≠[]) (hm:(dec false b).2.2=false):aF b=aF (b.drop (dec false b).2.1.toNat):=by
 unfold aF;rw[F8 [] h hm];have:∀(q:Pt) (L:List Pt),q.sure=true->zA (q::L)=zA L+1:=fun q L h=>by unfold zA;simp[h]
 rw[this _ _ rfl,List.length_cons];omega
theorem fX (s:ByteArray) (w:World) (hsz:s.size<=1000000):Calls Tryz.prog 29 #[.string s] w fun e w'=>e= .returned (.int .i64 ((aF (cA s):Nat):Int))/\Below w.heap.size w w':=by
 go_enter Tryz.func29,Tryz.ntmps29;go_wp2_with (fail);go_loopw [0] (fun a wr=>∃s':ByteArray,a= .string s'/\s'.size<=s.size/\Hid (aF (cA s')=aF (cA s))/\Hid (Below w.heap.size w wr)) (fun a _=>(match a with | .string x=>x.size | _=>0))
 case atStart=>exact⟨s,rfl,Nat.le_refl _,hW_ rfl,hW_ (Below.refl _ _)⟩
 case round=>
  obtain⟨s',rfl,hs',HR,HB⟩:=hrel
  by_cases h0:s'.size=0
  ·obtain⟨he1,he2,he3⟩:=qC h0;have HE:Hid (aF (cA s)=0):=hW_ (by
    rw[<-HR.out];have:cA s'= []:=List.eq_nil_of_length_eq_zero (by rw[nA];exact h0);rw[this];rfl)
   go_wp2_with (fail);go_ret;exact⟨by rw[HE.out];rfl,HB.out⟩
  ·obtain⟨he1,he2,he3⟩:=yC h0;have hne:cA s'≠[]:=fun e=>h0 (by rw[<-nA,e];rfl)
   have hd:=bR s' false wr (by omega);rw[aBB (fun x hx=>cL x hx)]at hd;have hn:=N8 (final:=false) hne;have hro:=nM hne;have hrn:=oM hne;obtain⟨⟨p,n,more⟩,hr⟩:∃r,dec false (cA s')=r:=⟨_,rfl⟩;rw[hr]at hd hn hro hrn;unfold iK at hd;simp only at hd hn hro hrn;have HD:=hW_ hd
   cases more with
   | true=>
    have HE:Hid (aF (cA s)=s'.size):=hW_ (by rw[<-HR.out,hro rfl,nA]);clear hd hn hro hrn hr hne;go_wp2_with (fail);go_at_call 68;refine HD.out.mono ?_
    rintro e w1 ⟨rfl,hb1⟩;have HB1:=hW_ ((HB.out.trans (hb1.mono HB.out.size)).alloc (Nat.le_trans HB.out.size hb1.size) (.cells #[.int .i64 p, .int .i64 n, .bool true] 113));clear hb1;go_wp2_with (fail);refine bodyPost_ret (results_tmp rfl _ _ _) rfl ⟨by rw[HE.out];rfl,HB1.out⟩
   | false=>
    obtain⟨hn1,hn2,hn3⟩:=hn.2 rfl;obtain⟨j,rfl⟩:∃j:Nat,n=j:=⟨n.toNat,by omega⟩;rw[nA]at hn2;have HE:Hid (aF (cA (s'.extract j s'.size))=aF (cA s)):=hW_ (by
     rw[yP,<-HR.out,hrn rfl];rfl)
    have hj:j<=s'.size:=by omega
    have HSZ:Hid ((s'.extract j s'.size).size=s'.size-j):=hW_ (by rw[ByteArray.size_extract];omega);have HJ1:1<=j:=by omega
    clear hd hn hro hrn hr hne;go_wp2_with (fail);go_at_call 68;refine HD.out.mono ?_
    rintro e w1 ⟨rfl,hb1⟩;have HB1:=hW_ ((HB.out.trans (hb1.mono HB.out.size)).alloc (Nat.le_trans HB.out.size hb1.size) (.cells #[.int .i64 p, .int .i64 j, .bool false] 113));clear hb1;go_wp2_with (fail);go_roundw
    case rel=>exact⟨_,rfl,by rw[HSZ.out];omega,HE,HB1⟩
    case measure=>
     have:=HSZ.out;simp only;omega
theorem vR {n:Int}:∀{k:Nat} {p lo hi:Int} {l:List Int},(jB false n k p lo hi l).2.2=false->jB true n k p lo hi l=jB false n k p lo hi l
 | 0,p,lo,hi,l,_=>rfl
 | k+1,p,lo,hi,[],h=>by simp[jB]at h
 | k+1,p,lo,hi,x::l,h=>by
  simp only[jB]at h |-;split
  ·rfl
  ·next hx=>rw[if_neg hx]at h;exact vR h
theorem wR {n:Int}:∀{k:Nat} {p lo hi:Int} {l:List Int},128<=lo->hi<=191->(jB false n k p lo hi l).2.2=true->jB true n k p lo hi l=(-1,1,false)/\∀x∈l,128<=x/\x<194
 | 0,p,lo,hi,l,_,_,h=>by simp[jB]at h
 | k+1,p,lo,hi,[],_,_,h=>⟨by simp[jB],by simp⟩
 | k+1,p,lo,hi,x::l,hl,hh,h=>by
  simp only[jB]at h |-;split
  ·next hx=>rw[if_pos hx]at h;simp at h
  ·next hx=>
   rw[if_neg hx]at h;obtain⟨h1,h2⟩:=wR (by omega) (by omega) h;refine⟨h1,fun y hy=> ?_⟩;rcases List.mem_cons.1 hy with rfl | hy
   ·omega
   ·exact h2 y hy
theorem kindF_lo {c:Int} (h:1<(A0 c).1):128<=(A0 c).2.2.1/\(A0 c).2.2.2<=191:=by
 obtain⟨r,hr⟩:∃r,A0 c=r:=⟨_,rfl⟩;rw[hr]at h |-;unfold A0 at hr;split at hr
 ·subst hr;simp at h
 split at hr
 ·subst hr;simp at h
 split at hr
 ·subst hr;simp
 split at hr
 ·subst hr;simp
 split at hr
 ·subst hr;simp
 split at hr
 ·subst hr;simp
 split at hr
 ·subst hr;simp
 split at hr
 ·subst hr;simp
 ·subst hr;simp
theorem dec_true {b:List Int} (h:(dec false b).2.2=false):dec true b=dec false b:=by
 cases b with
 | nil=>rfl
 | cons c l=>
  simp only[dec]at h |-;split
  ·rfl
  ·next h0=>rw[if_neg h0]at h;exact vR h
theorem dec_open {b:List Int} (hb:b≠[]) (h:(dec false b).2.2=true):dec true b=(-1,1,false)/\∀x∈b.drop 1,128<=x/\x<194:=by
 cases b with
 | nil=>exact absurd rfl hb
 | cons c l=>
  simp only[dec]at h |-;split
  ·next h0=>rw[if_pos h0]at h;simp at h
  ·next h0=>
   rw[if_neg h0]at h
   by_cases h1:(A0 c).1=1
   ·rw[h1]at h;simp[jB]at h
   ·have h2:=kindF_lo (c:=c) (by omega);exact wR h2.1 h2.2 h
theorem dec_tail {x:Int} {l:List Int} (h:128<=x/\x<194):dec true (x::l)=(-1,1,false):=by
 simp only[dec];rw[if_pos];unfold A0;rw[if_neg (by omega),if_pos (by omega)]
theorem mX (b:List Int):aF b<=b.length:=by
 induction hn:b.length using Nat.strongRecOn generalizing b with
 | _ n ih=>
  by_cases hb:b= []
  ·subst hb;simp[aCl]
  ·cases hm:(dec false b).2.2 with
   | true=>rw[nM hb hm];omega
   | false=>
    have h3:=(N8 (final:=false) hb).2 hm;rw[oM hb hm];have:=ih _ (by simp only[List.length_drop];omega) (b.drop (dec false b).2.1.toNat) rfl;simp only[List.length_drop]at this;omega
theorem aCb (b:List Int):zA (b.map (fun _=>yA))=0:=by
 unfold zA;cases b<;>simp[yA]
def kO (T:List Rg) (b b':List Int) (A:List Pt) (n:Nat):Prop:=
 (pts T b=A++pts T b'/\aF b'=aF b/\n=A.length/\zA (pts T b)=A.length+zA (pts T b'))\/
 (pts T b=A++b'.map (fun _=>yA)/\b'.length<=aF b/\n=zA (pts T b)/\∀x∈b',128<=x/\x<194)
theorem kO.zero (T:List Rg) (b:List Int):kO T b b [] 0:= .inl ⟨rfl,rfl,rfl,by simp⟩
theorem kO.done {T:List Rg} {b:List Int} {A:List Pt} {n:Nat} (h:kO T b [] A n):pts T b=A/\n=zA A:=by
 rcases h with⟨h1,h2,h3,h4⟩ | ⟨h1,h2,h3,h4⟩
 ·rw[aBe,List.append_nil]at h1;refine⟨h1,?_⟩;rw[h1]at h4;rw[h4,h3];simp[aBe,zA]
 ·simp at h1;exact⟨h1,by rw[<-h1];exact h3⟩
theorem kO.step {T:List Rg} (hT:kA T) {b b':List Int} {A:List Pt} {n:Nat} (h:kO T b b' A n) (hb:b'≠[]):
  ∃q:Pt,q.code=(dec true b').1/\q.cls=uC T (dec true b').1/\q.n=(dec true b').2.1/\(1<=q.n/\q.n<=b'.length)/\kO T b (b'.drop q.n.toNat) (A++ [q]) (if aF b<b'.length then n+1 else n):=by
 have hpos:0<b'.length:=List.length_pos_iff.2 hb;have hneg:=aCZ hT (p:= -1) (by omega);rcases h with⟨h1,h2,h3,h4⟩ | ⟨h1,h2,h3,h4⟩
 ·cases hm:(dec false b').2.2 with
  | false=>
   have h5:=(N8 (final:=false) hb).2 hm;have h6:=oM hb hm;have h7:=mX (b'.drop (dec false b').2.1.toNat);rw[List.length_drop]at h7;have e:dec true b'=dec false b':=dec_true hm;have hc:=F8 T hb hm;refine⟨⟨(dec false b').1,uC T (dec false b').1,(dec false b').2.1,true⟩,by rw[e],by rw[e],by rw[e],⟨h5.1,h5.2.1⟩,?_⟩;rw[if_pos (by omega)];refine .inl ⟨by rw[h1,hc];simp,by rw[<-h6];exact h2,by simp[h3],?_⟩;have hs:∀(p:Pt) (M:List Pt),p.sure=true->zA (p::M)=zA M+1:=fun p M hp=>by unfold zA;simp[hp]
   rw[h4,hc,hs _ _ rfl];simp;omega
  | true=>
   have h6:=nM hb hm;obtain⟨e,ht⟩:=dec_open hb hm;have ho:=xJ T hb hm;refine⟨yA,by rw[e];rfl,by rw[e];exact hneg.symm,by rw[e];rfl,⟨by decide,by show(1:Int)<=_;omega⟩,?_⟩;rw[if_neg (by omega)];refine .inr ⟨?_,?_,?_,ht⟩
   ·rw[h1,ho]
    cases b' with
    | nil=>exact absurd rfl hb
    | cons c l=>simp[yA]
   ·show(b'.drop 1).length<=_;rw[List.length_drop];omega
   ·rw[h4,ho,aCb,h3];rfl
 ·cases b' with
  | nil=>exact absurd rfl hb
  | cons x l=>
   have e:=dec_tail (l:=l) (h4 x (by simp));refine⟨yA,by rw[e];rfl,by rw[e];exact hneg.symm,by rw[e];rfl,⟨by decide,by show(1:Int)<=_;omega⟩,?_⟩;rw[if_neg (by omega)];refine .inr ⟨by rw[h1];simp[yA],?_,h3,fun y hy=>h4 y (List.mem_cons_of_mem _ (by simpa[yA]using hy))⟩;show((x::l).drop 1).length<=_;simp at h2 |-;omega
open Go.RowKit Go.ChangeMaps
structure PB (w:World) (base kb:Nat) (v:Nat->Value) (A:Nat->List Int) (s:Int):Prop where
 box:w.heap[kb]?=some (.cells #[v 0,v 1,v 2, .int .i64 s] 156)
 row:∀j,j<3->Own w base (v j) (A j)
 lo:base<=kb/\base<=w.heap.size
 far:∀j,j<3->∀q,(v j).ownBlock=some q->q≠kb/\∀i,i<3->i≠j->(v i).ownBlock≠some q
theorem PB.cells {w:World} {base kb:Nat} {v1 v2 v3:Value} {A:Nat->List Int} {s:Int} (h:PB w base kb (V3 v1 v2 v3) A s):w.cell? ⟨kb,0,none⟩=some v1/\w.cell? ⟨kb,1,none⟩=some v2/\w.cell? ⟨kb,2,none⟩=some v3/\w.cell? ⟨kb,3,none⟩=some (.int .i64 s)/\∀o,w.frozen? ⟨kb,o,none⟩=false:=by
 have:=h.box;simp[World.cell?,World.frozen?,this,V3]
theorem PB.stay {w w':World} {base kb:Nat} {v:Nat->Value} {A:Nat->List Int} {s:Int} (h:PB w base kb v A s) (hb:Below w.heap.size w w'):PB w' base kb v A s:=
 ⟨(hb.block _ (Array.getElem?_eq_some_iff.1 h.box).1).trans h.box,fun j hj=>(h.row j hj).below hb,⟨h.lo.1,Nat.le_trans h.lo.2 hb.size⟩,h.far⟩
theorem PB.sure {w:World} {base kb:Nat} {v:Nat->Value} {A:Nat->List Int} {s:Int} (h:PB w base kb v A s) (x:Int):PB (w.setCell ⟨kb,3,none⟩ (.int .i64 x)) base kb v A x/\Below base w (w.setCell ⟨kb,3,none⟩ (.int .i64 x)):=by
 have hlt:=fun i (hi:i<3)=>World.ownsRow.lt (h.row i hi)
 refine⟨⟨?_,fun i hi=>mA (h.row i hi) (fun q hq=>heap_setCell_other w ⟨kb,3,none⟩ q _ (h.far i hi q hq).1),⟨h.lo.1,by have:=h.lo.2;simp;omega⟩,h.far⟩,(Below.refl base w).setCell (p:=⟨kb,3,none⟩) h.lo.1 _⟩;simp[World.setCell,Array.getElem?_modify,h.box]
theorem PB.step {w W w1:World} {base kb gg n cap:Nat} {v:Nat->Value} {A:Nat->List Int} {s x:Int} (h:PB w base kb v A s) (hW:Below w.heap.size w W) (j:Nat) (hj:j<3)
  (ho:Own w1 base (.slice (some ⟨gg,0,none⟩) n cap) (A j++ [x])) (hg:W.grownBy w1 (v j).ownBlock) (hat:(v j).ownBlock=some gg\/gg=W.heap.size):
  PB (w1.setCell ⟨kb,j,none⟩ (.slice (some ⟨gg,0,none⟩) n cap)) base kb (M6 v j (.slice (some ⟨gg,0,none⟩) n cap)) (M6 A j (A j++ [x])) s/\Below base w (w1.setCell ⟨kb,j,none⟩ (.slice (some ⟨gg,0,none⟩) n cap)):=by
 have hkb:=(Array.getElem?_eq_some_iff.1 h.box).1;have hfar:=h.far j hj;have hlt:=fun i (hi:i<3)=>World.ownsRow.lt (h.row i hi)
 have key:∀q,q<w.heap.size->(v j).ownBlock≠some q->w1.heap[q]?=w.heap[q]? :=fun q hq hne=>(hg.block q (Nat.lt_of_lt_of_le hq hW.size) (fun e=>hne e.symm)).trans (hW.block q hq)
 have key2:∀q,q<w.heap.size->(v j).ownBlock≠some q->q≠kb->(w1.setCell ⟨kb,j,none⟩ (.slice (some ⟨gg,0,none⟩) n cap)).heap[q]?=w.heap[q]? :=fun q hq hne hk=>(heap_setCell_other w1 ⟨kb,j,none⟩ q _ hk).trans (key q hq hne)
 have hgg:gg≠kb/\∀i,i<3->i≠j->(v i).ownBlock≠some gg:=by
  rcases hat with h1 | h1
  ·exact hfar gg h1
  ·have:=hW.size;exact⟨by omega,fun i hi _ e=>by have:=(hlt i hi gg e).2;omega⟩
 have hbw:=h.lo.2;refine⟨⟨?_,fun i hi=> ?_,⟨h.lo.1,?_⟩,fun i hi q hq=> ?_⟩,⟨?_,?_,?_,?_,?_⟩⟩
 ·have hk:=(key kb hkb (fun e=>(hfar kb e).1 rfl)).trans h.box;rcases(by omega:j=0\/j=1\/j=2)with rfl | rfl | rfl<;>simp[World.setCell,Array.getElem?_modify,hk,M6]
 ·unfold M6
  by_cases hij:i=j
  ·rw[if_pos hij,if_pos hij];exact mA ho (fun q hq=>by
    obtain rfl:gg=q:=by simpa[Value.ownBlock]using hq
    exact heap_setCell_other w1 ⟨kb,j,none⟩ gg _ hgg.1)
  ·rw[if_neg hij,if_neg hij];exact mA (h.row i hi) (fun q hq=>key2 q (hlt i hi q hq).2 (fun e=>(h.far i hi q hq).2 j hj (fun e2=>hij e2.symm) e) (h.far i hi q hq).1)
 ·have:=hg.size;have:=hW.size;simp;omega
 ·unfold M6 at hq |-
  by_cases hij:i=j
  ·rw[if_pos hij]at hq;obtain rfl:gg=q:=by simpa[Value.ownBlock]using hq
   refine⟨hgg.1,fun i' hi' hne=> ?_⟩;rw[if_neg (by omega)];exact hgg.2 i' hi' (by omega)
  ·rw[if_neg hij]at hq;obtain⟨f1,f4⟩:=h.far i hi q hq;refine⟨f1,fun i' hi' hne=> ?_⟩
   by_cases hij':i'=j
   ·rw[if_pos hij'];intro e;obtain rfl:gg=q:=by simpa[Value.ownBlock]using e
    exact hgg.2 i hi hij hq
   ·rw[if_neg hij'];exact f4 i' hi' hne
 ·exact hg.os.trans hW.os
 ·exact hg.tape.trans hW.tape
 ·exact hg.output.trans hW.output
 ·have:=hg.size;have:=hW.size;simp;omega
 ·intro q hq;refine key2 q (by omega) (fun e=> ?_) (by have:=h.lo.1;omega);have:=(hlt j hj q e).1;omega
theorem PB.after {w W w1:World} {base kb:Nat} {v1 v2 v3:Value} {A:Nat->List Int} {s:Int} (h:PB w base kb (V3 v1 v2 v3) A s) (hW:Below w.heap.size w W) (j:Nat) (hj:j<3) (hg:W.grownBy w1 (V3 v1 v2 v3 j).ownBlock):
  w1.cell? ⟨kb,0,none⟩=some v1/\w1.cell? ⟨kb,1,none⟩=some v2/\w1.cell? ⟨kb,2,none⟩=some v3/\w1.cell? ⟨kb,3,none⟩=some (.int .i64 s)/\∀o,w1.frozen? ⟨kb,o,none⟩=false:=by
 have hkb:=(Array.getElem?_eq_some_iff.1 h.box).1;have hb:=(hg.block kb (Nat.lt_of_lt_of_le hkb hW.size) (fun e=>(h.far j hj kb e.symm).1 rfl)).trans ((hW.block kb hkb).trans h.box);simp[World.cell?,World.frozen?,hb,V3]
theorem PB.same {w:World} {base kb:Nat} {v v':Nat->Value} {A A':Nat->List Int} {s:Int} (h:PB w base kb v A s) (hv:∀i,i<3->v' i=v i) (hA:∀i,i<3->A' i=A i):PB w base kb v' A' s:=
 ⟨by rw[hv 0 (by omega),hv 1 (by omega),hv 2 (by omega)];exact h.box,fun j hj=>by rw[hv j hj,hA j hj];exact h.row j hj,h.lo,fun j hj q hq=>by
  rw[hv j hj]at hq;obtain⟨f1,f2⟩:=h.far j hj q hq;exact⟨f1,fun i hi hne=>by rw[hv i hi];exact f2 i hi hne⟩⟩
theorem PB.step0 {w W w1:World} {base kb gg n cap:Nat} {v1 v2 v3:Value} {A1 A2 A3:List Int} {s x:Int} (h:PB w base kb (V3 v1 v2 v3) (V3 A1 A2 A3) s) (hW:Below w.heap.size w W)
  (ho:Own w1 base (.slice (some ⟨gg,0,none⟩) n cap) (A1++ [x])) (hg:W.grownBy w1 v1.ownBlock) (hat:v1.ownBlock=some gg\/gg=W.heap.size):
  PB (w1.setCell ⟨kb,0,none⟩ (.slice (some ⟨gg,0,none⟩) n cap)) base kb (V3 (.slice (some ⟨gg,0,none⟩) n cap) v2 v3) (V3 (A1++ [x]) A2 A3) s/\Below base w (w1.setCell ⟨kb,0,none⟩ (.slice (some ⟨gg,0,none⟩) n cap)):=by
 have:=h.step hW 0 (by omega) ho hg hat;rw[aAV,aAV]at this;exact this
theorem PB.step1 {w W w1:World} {base kb gg n cap:Nat} {v1 v2 v3:Value} {A1 A2 A3:List Int} {s x:Int} (h:PB w base kb (V3 v1 v2 v3) (V3 A1 A2 A3) s) (hW:Below w.heap.size w W)
  (ho:Own w1 base (.slice (some ⟨gg,0,none⟩) n cap) (A2++ [x])) (hg:W.grownBy w1 v2.ownBlock) (hat:v2.ownBlock=some gg\/gg=W.heap.size):
  PB (w1.setCell ⟨kb,1,none⟩ (.slice (some ⟨gg,0,none⟩) n cap)) base kb (V3 v1 (.slice (some ⟨gg,0,none⟩) n cap) v3) (V3 A1 (A2++ [x]) A3) s/\Below base w (w1.setCell ⟨kb,1,none⟩ (.slice (some ⟨gg,0,none⟩) n cap)):=by
 have:=h.step hW 1 (by omega) ho hg hat;rw[aAU,aAU]at this;exact this
theorem PB.step2 {w W w1:World} {base kb gg n cap:Nat} {v1 v2 v3:Value} {A1 A2 A3:List Int} {s x:Int} (h:PB w base kb (V3 v1 v2 v3) (V3 A1 A2 A3) s) (hW:Below w.heap.size w W)
  (ho:Own w1 base (.slice (some ⟨gg,0,none⟩) n cap) (A3++ [x])) (hg:W.grownBy w1 v3.ownBlock) (hat:v3.ownBlock=some gg\/gg=W.heap.size):
  PB (w1.setCell ⟨kb,2,none⟩ (.slice (some ⟨gg,0,none⟩) n cap)) base kb (V3 v1 v2 (.slice (some ⟨gg,0,none⟩) n cap)) (V3 A1 A2 (A3++ [x])) s/\Below base w (w1.setCell ⟨kb,2,none⟩ (.slice (some ⟨gg,0,none⟩) n cap)):=by
 have h1:=h.step hW 2 (by omega) ho hg hat;refine⟨h1.1.same (fun i hi=> ?_) (fun i hi=> ?_),h1.2⟩
 ·rcases(by omega:i=0\/i=1\/i=2)with rfl | rfl | rfl<;>rfl
 ·rcases(by omega:i=0\/i=1\/i=2)with rfl | rfl | rfl<;>rfl
theorem aDa {t:List Rg} {p:Int} {k:Nat} (hk:k<t.length) (h:(rg t k).lo<=p/\p<=(rg t k).hi) (hno:∀j,j<k->¬((rg t j).lo<=p/\p<=(rg t j).hi)):uC t p=(rg t k).cls:=by
 have hg:∀j (hj:j<t.length),t[j]=rg t j:=fun j hj=>by simp[rg,List.getD,hj]
 have:t.find? (fun r=>decide (r.lo<=p) && decide (p<=r.hi))=some (rg t k):=by
  rw[List.find?_eq_some_iff_getElem];exact⟨by simpa using h,k,hk,hg k hk,fun j hj=>by
   rw[hg j (by omega)];have:=hno j hj;simp;omega⟩
 unfold uC;rw[this]
theorem aAC {t:List Rg} {p:Int} (hno:∀j,j<t.length->¬((rg t j).lo<=p/\p<=(rg t j).hi)):uC t p=0:=by
 have hg:∀j (hj:j<t.length),t[j]=rg t j:=fun j hj=>by simp[rg,List.getD,hj]
 have:t.find? (fun r=>decide (r.lo<=p) && decide (p<=r.hi))=none:=by
  rw[List.find?_eq_none];intro x hx;obtain⟨j,hj,rfl⟩:=List.getElem_of_mem hx;rw[hg j hj];have:=hno j hj;simp;omega
 unfold uC;rw[this]
theorem Q8 {T:List Rg} {to_:Option Addr} {tn tc:Nat} (p:Int) (w:World) (hT:SlF 3 w to_ tn tc (flat Rg.enc T)) (hn:tn<=1048576):
  Calls Tryz.prog 135 #[.slice to_ tn tc, .int .i64 p] w fun e w'=>e= .returned (.int .i64 (uC T p))/\w'=w:=by
 have HT:=hW_ hT;have HTL:=hW_ (hT.count Rg.enc_len (by omega));clear hT;go_enter Tryz.func135,Tryz.ntmps135;go_wp2_with (fail);go_loopw [5,8] (fun _ i wr=>∃k:Nat,k<=tn/\i= .int .i64 k/\Hid (∀j,j<k->¬((rg T j).lo<=p/\p<=(rg T j).hi))/\wr=w) (fun _ i _=>tn-(intOf i).toNat)
 case atStart=>exact⟨0,Nat.zero_le _,rfl,hW_ (fun j h=>by omega),rfl⟩
 case round=>
  obtain⟨k,hk,rfl,HK,rfl⟩:=hrel
  by_cases hlt:k<tn
  ·have hkT:k<T.length:=by have:=HTL.out;omega
   obtain⟨b,of,hao,hce⟩:=HT.out.elem Rg.enc_len (by omega) (bH hkT);subst hao;have HHIT:=hW_ (fun h=>aDa (p:=p) hkT h HK.out);obtain⟨⟨lo,hi,cl⟩,hr⟩:∃m,rg T k=m:=⟨_,rfl⟩;rw[hr]at hce HHIT;have d0:=hce 0 _ rfl;have d1:=hce 1 _ rfl;have d2:=hce 2 _ rfl;rw[Nat.add_zero]at d0;simp only at d0 d1 d2;have gk:(k:Int)<(tn:Int):=by omega
   have HNX:Hid (¬(lo<=p/\p<=hi)->∀j,j<k+1->¬((rg T j).lo<=p/\p<=(rg T j).hi)):=hW_ (fun h j hj=>by
    by_cases e:j=k
    ·subst e;rw[hr];exact h
    ·exact HK.out j (by omega))
   clear hce hr
   by_cases h1:lo<=p
   ·have g1:decide (lo<=p)=true:=by simpa using h1
    by_cases h2:p<=hi
    ·have g2:decide (p<=hi)=true:=by simpa using h2
     have HE:Hid (uC T p=cl):=hW_ (HHIT.out ⟨h1,h2⟩);go_wp2_with (fail);refine bodyPost_ret (results_tmp rfl _ _ _) rfl ⟨by rw[HE.out];rfl,rfl⟩
    ·have g2:decide (p<=hi)=false:=by simpa using h2
     have HK2:=hW_ (HNX.out (fun h=>h2 h.2));go_wp2_with (fail);go_roundw
     case rel=>exact⟨k+1,by omega,by go_num,HK2,by first | rfl | trivial⟩
     case measure=>simp[intOf];omega
   ·have g1:decide (lo<=p)=false:=by simpa using h1
    have HK2:=hW_ (HNX.out (fun h=>h1 h.1));go_wp2_with (fail);go_roundw
    case rel=>exact⟨k+1,by omega,by go_num,HK2,by first | rfl | trivial⟩
    case measure=>simp[intOf];omega
  ·obtain rfl:k=tn:=by omega
   have HE:Hid (uC T p=0):=hW_ (aAC (fun j hj=>HK.out j (by have:=HTL.out;omega)));go_wp2_with (fail);go_ret;exact⟨by rw[HE.out];rfl,rfl⟩
end Go.Proofs.YtimkkkdabmhedaaGreatDoor
