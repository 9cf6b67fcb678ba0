/- Walks: the coder of texts in use, and the blocks at which it looks: lookup, Piece. (Printed by gTq.py.) -/
import Derived.Test.YtahiballegpbgaaGreatDoorR32
import Derived.Test.YtahiballegpbgaaGreatDoorR30
import Derived.LoopN
import Derived.Test.YtahiballegpbgaaGreatDoorR31
import Derived.Test.YtahiballegpbgaaGreatDoorR6
import Derived.Test.YtahiballegpbgaaGreatDoorR1
import Derived.Test.YtahiballegpbgaaGreatDoorR19
import Derived.BigQuiet
import Derived.Deep.RegionHeld3
set_option linter.unusedVariables false
set_option maxHeartbeats 2000000
set_option maxRecDepth 100000
namespace Go.Proofs.YtahiballegpbgaaGreatDoor
open Go.RowKit
theorem yE.below {w w':World} {base top cb mb B:Nat} {no:Option Addr} {l:List Row} {room hits misses:Int} {P:Nat->Prop} (h:yE w base top cb mb no l room hits misses P) (hp:∀q,P q->q<B) (hb:Below B w w'):yE w' base top cb mb no l room hits misses P:=
 h.stay (fun q hq=>hb.block q (hp q hq))
theorem yE.cut {w:World} {base top cb mb:Nat} {no:Option Addr} {l:List Row} {room hits misses:Int} {P:Nat->Prop} (h:yE w base top cb mb no l room hits misses P):yE w base top cb mb no l room hits misses (fun q=>P q/\base<=q/\q<top):=by
 have hft:=h.rep.ft;obtain⟨m,cap,N,e,y,ord,sz,f,R,hc,hg,hl⟩:=h;exact⟨m,cap,N,e,y,ord,sz,f,R,⟨hc.1,fun k hk=>⟨hc.2.1 k hk,hft k hk⟩,fun i hi ad e=>⟨hc.2.2 i hi ad e,((hc.1.rows i hi).2 ad e).1,((hc.1.rows i hi).2 ad e).2.1⟩⟩,hg,hl⟩
structure fU (w:World) (base g:Nat) (V:Vc) (N:List ByteArray) (kind:Int) (T:List Rg) (room:Int) (cb mb:Nat) (no:Option Addr) (l:List Row) (hits misses:Int) (P:Nat->Prop):Prop where
 sta:∃S,Sta S (fun w=>qL w base g V N kind T cb) w/\(∀q,S q->P q/\¬Ft cb mb no q)
 rep:yE w base w.heap.size cb mb no l room hits misses P
 lt:∀q,P q->base<=q/\q<w.heap.size
def Cdr (w:World) (base g:Nat) (V:Vc) (N:List ByteArray) (kind:Int) (T:List Rg) (room cnt:Int) (P:Nat->Prop):Prop:=
 ∃cb mb no l hits misses,fU w base g V N kind T room cb mb no l hits misses P/\lE V l room hits misses/\hits+misses=cnt
section
variable {w:World} {base g:Nat} {V:Vc} {N:List ByteArray} {kind:Int} {T:List Rg} {room:Int} {cb mb:Nat} {no:Option Addr} {l:List Row} {hits misses cnt:Int} {P:Nat->Prop}
theorem fU.codR (h:fU w base g V N kind T room cb mb no l hits misses P):K8 w base g V N kind T room cb mb no l hits misses:=by
 obtain⟨⟨S,h1,h2⟩,h3,h4⟩:=h;exact⟨⟨S,h1,fun q hq=>⟨h4 q (h2 q hq).1,(h2 q hq).2⟩⟩,h3.rep⟩
theorem K8.codQ (h:K8 w base g V N kind T room cb mb no l hits misses):fU w base g V N kind T room cb mb no l hits misses (fun q=>base<=q/\q<w.heap.size):=by
 have hr:=h.rep;obtain⟨⟨S,h1,h2⟩,_⟩:=h;exact⟨⟨S,h1,fun q hq=>⟨(h2 q hq).1,(h2 q hq).2⟩⟩,hr.req,fun q hq=>hq⟩
theorem fU.stay {w':World} (h:fU w base g V N kind T room cb mb no l hits misses P) (hk:∀q,P q->w'.heap[q]?=w.heap[q]?) (hs:w.heap.size<=w'.heap.size):fU w' base g V N kind T room cb mb no l hits misses P:=by
 obtain⟨⟨S,h1,h2⟩,h3,h4⟩:=h;exact⟨⟨S,h1.next (fun q hq=>hk q (h2 q hq).1) hs,h2⟩,(h3.stay hk).up hs,fun q hq=>⟨(h4 q hq).1,Nat.lt_of_lt_of_le (h4 q hq).2 hs⟩⟩
theorem Cdr.new (h:K8 w base g V N kind T room cb mb none [] 0 0) (h0:0<=room):Cdr w base g V N kind T room 0 (fun q=>base<=q/\q<w.heap.size):=
 ⟨cb,mb,none,[],0,0,h.codQ,⟨fun p hp=>(by cases hp),by simpa using h0,by simp,by omega,by omega,fun _=>⟨rfl,rfl⟩⟩,rfl⟩
theorem Cdr.stay {w':World} (h:Cdr w base g V N kind T room cnt P) (hk:∀q,P q->w'.heap[q]?=w.heap[q]?) (hs:w.heap.size<=w'.heap.size):Cdr w' base g V N kind T room cnt P:=by
 obtain⟨cb,mb,no,l,hits,misses,h1,h2⟩:=h;exact⟨cb,mb,no,l,hits,misses,h1.stay hk hs,h2⟩
theorem Cdr.lt (h:Cdr w base g V N kind T room cnt P):∀q,P q->base<=q/\q<w.heap.size:=by
 obtain⟨cb,mb,no,l,hits,misses,h1,h2⟩:=h;exact h1.lt
theorem Cdr.below {w':World} (h:Cdr w base g V N kind T room cnt P) (hb:Below w.heap.size w w'):Cdr w' base g V N kind T room cnt P:=
 h.stay (fun q hq=>hb.block q (h.lt q hq).2) hb.size
theorem Cdr.cod (h:Cdr w base g V N kind T room cnt P):∃cb,qL w base g V N kind T cb:=by
 obtain⟨cb,mb,no,l,hits,misses,h1,h2⟩:=h;exact⟨cb,h1.codR.cod⟩
theorem fU.turn {w':World} {no':Option Addr} {l':List Row} {hits' misses':Int} (h:fU w base g V N kind T room cb mb no l hits misses P)
  (hc:Cch cb mb no no' w w') (hr:yE w' base w'.heap.size cb mb no' l' room hits' misses' (fun q=>P q\/w.heap.size<=q)):fU w' base g V N kind T room cb mb no' l' hits' misses' (fun q=>(P q\/w.heap.size<=q)/\base<=q/\q<w'.heap.size):=by
 obtain⟨⟨S,h1,h2⟩,h3,h4⟩:=h;exact⟨⟨S,h1.next (fun q hq=>hc.block q (h4 q (h2 q hq).1).2 (h2 q hq).2) hc.size,fun q hq=>⟨⟨.inl (h2 q hq).1,(h4 q (h2 q hq).1).1,Nat.lt_of_lt_of_le (h4 q (h2 q hq).1).2 hc.size⟩,hc.new q (h4 q (h2 q hq).1).2 (h2 q hq).2⟩⟩,hr.cut,fun q hq=>hq.2⟩
end
def LkQ (V:Vc) (w:World) (base cb mb:Nat) (no:Option Addr) (room cnt:Int) (R:List Int) (P:Nat->Prop) (e:Ending) (w':World):Prop:=
 ∃v no' l' hits' misses',e= .returned v/\Own w' w.heap.size v R/\yE w' base w'.heap.size cb mb no' l' room hits' misses' (fun q=>P q\/w.heap.size<=q)/\lE V l' room hits' misses'/\hits'+misses'=cnt+1/\Cch cb mb no no' w w'
theorem wT {P:Nat->Prop} {V:Vc} {base cb mb b2 b5:Nat} {no:Option Addr} {l:List Row} {room hits misses:Int} (key:ByteArray) (w:World) (hr:yE w base w.heap.size cb mb no l room hits misses P) (hP:∀q,P q->q<w.heap.size) (hok:lE V l room hits misses) (hroom:room<=1048576) (hcnt:hits+misses<1000000) (hks:key.size<=100000)
  (hF:∀W,dA (Ft cb mb no) w W->Calls Tryz.prog 150 #[.pointer (some ⟨b2,0,none⟩), .pointer (some ⟨b5,0,none⟩)] W fun e w'=>∃v,e= .returned v/\Own w' W.heap.size v (jG V (A9 key))/\Below W.heap.size W w'):
  Calls Tryz.prog 149 #[.pointer (some ⟨cb,0,none⟩), .string key, .func (.func 150) #[] #[.pointer (some ⟨b2,0,none⟩), .pointer (some ⟨b5,0,none⟩)]] w (LkQ V w base cb mb no room (hits+misses) (jG V (A9 key)) P):=by
 have h0:=hok.hz;have m0:=hok.mz;have hmx:key.size<=maxLen:=by unfold maxLen;omega
 have hRl:(jG V (A9 key)).length<=1048576:=by have:=aCz V (A9 key);rw[dH]at this;omega
 by_cases hin:∃R,(key,R)∈l
 ·obtain⟨R,hR⟩:=hin;have hRR:R=jG V (A9 key):=hok.rows _ hR;have HG:=hW_ (creq_hit hr (Nat.le_refl _) key R hmx hR h0 (by omega));have HOK:=hW_ (hok.hit hR);have HRR:=hW_ hRR;clear hr hP hok hF hR hRR h0 m0;go_enter Tryz.func149,Tryz.ntmps149;go_wp2_with (go_at_call 185;refine HG.out.mono ?_;rintro e w1 ⟨vo,vn,vc,rfl,ho,hr1,hk1⟩;have HO:=hW_ ho;have HR1:=hW_ hr1;have HK1:=hW_ hk1;clear ho hr1 hk1);refine bodyPost_ret (results_tmp rfl _ _ _) rfl ⟨.slice vo vn vc,no,E0 l key R,hits+1,misses,rfl,by rw[<-HRR.out];exact HO.out,(HR1.out.up HK1.out.size).more (fun q h=> .inl h),HOK.out,by omega,Cch.keeps HK1.out⟩
 ·have hno:∀p∈l,p.1≠key:=fun p hp e=>hin ⟨p.2,by rw[<-e];exact hp⟩
  have HG:=hW_ (aEe hr (Nat.le_refl _) key hmx hno m0 (by omega));have HF:=hW_ hF;have HPL:=hW_ hP;have HFT:Hid (∀q,Ft cb mb no q->q<w.heap.size):=hW_ fun q hq=>hP q (hr.ft q hq)
  by_cases hz:room=0
  ·subst hz;have HOK:=hW_ hok.missed;clear hr hP hok hF hin hno h0 m0;go_enter Tryz.func149,Tryz.ntmps149;go_wp2_with (first
    | (go_at_call 185;refine HG.out.mono ?_;rintro e w1 ⟨rfl,hr1,hk1⟩;have HR1:=hW_ hr1;have HK1:=hW_ hk1;clear hr1 hk1)
    | (go_at_call 150;refine(HF.out _ HK1.out).mono ?_;rintro e w2 ⟨v,rfl,ho,hb2⟩;obtain⟨vo,vc,rfl,_⟩:=ho.sl;have HO:=hW_ ho;have HB2:=hW_ hb2;clear ho hb2)
    | (go_at_call 186;refine(aEf ((HR1.out.up HK1.out.size).below (fun q h=>Nat.lt_of_lt_of_le (HPL.out q h) HK1.out.size) HB2.out).rep key _ _ _).mono ?_;rintro e w3 ⟨rfl,hb3⟩;have HB3:=hW_ hb3;clear hb3))
   go_ret;exact⟨_,no,l,hits,misses+1,rfl,(HO.out.below HB3.out).mono HK1.out.size,((((HR1.out.up HK1.out.size).below (fun q h=>Nat.lt_of_lt_of_le (HPL.out q h) HK1.out.size) HB2.out).up HB2.out.size |>.below (fun q h=>Nat.lt_of_lt_of_le (HPL.out q h) (Nat.le_trans HK1.out.size HB2.out.size)) HB3.out).up HB3.out.size).more (fun q h=> .inl h),HOK.out,by omega,((Cch.keeps HK1.out).trans (Cch.below HB2.out)).trans (Cch.below HB3.out)⟩
  ·have hrp:0<room:=by have:=hok.rm;omega
   have HOK:=hW_ (hok.put (k:=key) hrp);have HLL:Hid ((l.length:Int)<=room/\l.length<1048576):=hW_ ⟨hok.rm,by have:=hok.ms;omega⟩;clear hr hP hok hF hin hno h0 m0;go_enter Tryz.func149,Tryz.ntmps149;go_wp2_with (first
    | (go_at_call 185;refine HG.out.mono ?_;rintro e w1 ⟨rfl,hr1,hk1⟩;have HR1:=hW_ hr1;have HK1:=hW_ hk1;clear hr1 hk1)
    | (go_at_call 150;refine(HF.out _ HK1.out).mono ?_;rintro e w2 ⟨v,rfl,ho,hb2⟩;obtain⟨vo,vc,rfl,hsl⟩:=ho.sl;have HO:=hW_ ho;have HB2:=hW_ hb2;have HSL:=hW_ hsl;clear ho hb2 hsl)
    | (go_at_call 186;refine(creq_put (((HR1.out.up HK1.out.size).below (fun q h=>Nat.lt_of_lt_of_le (HPL.out q h) HK1.out.size) HB2.out).up HB2.out.size) key hmx hrp hroom HLL.out.1 HLL.out.2 HSL.out (fun ad e h0=>by
      subst e;obtain⟨k1,k2⟩:=World.ownsRow.lt HO.out ad.block (by obtain⟨vb,e⟩:=xF HO.out h0;obtain⟨c',e⟩:=e;rw[e];cases e;rfl);exact⟨k2,fun hf=>by have:=HFT.out _ hf;have:=HK1.out.size;omega⟩) hRl).mono ?_;rintro e w3 ⟨rfl,gg,hr3,hk3,hat3⟩;have HR3:=hW_ hr3;have HK3:=hW_ hk3;have HAT3:=hW_ hat3;clear hr3 hk3 hat3))
   go_ret;refine⟨_,some ⟨gg,0,none⟩,_,hits,misses+1,rfl,?_,HR3.out.more (fun q h=>h.imp id (fun h=>Nat.le_trans (Nat.le_trans HK1.out.size HB2.out.size) h)),HOK.out,by omega,((Cch.keeps HK1.out).trans (Cch.below HB2.out)).trans (Cch.put HK3.out HAT3.out)⟩;refine Own.mono (jA HO.out (fun q hq=> ?_)) HK1.out.size;obtain⟨k1,k2⟩:=World.ownsRow.lt HO.out q hq;exact HK3.out.block q k2 (fun hf=>by have:=HFT.out _ hf;have:=HK1.out.size;omega)
def PcQ (w:World) (base g:Nat) (V:Vc) (N:List ByteArray) (kind:Int) (T:List Rg) (room cnt:Int) (P:Nat->Prop) (R:List Int) (d:Int) (e:Ending) (w':World):Prop:=
 ∃v P',e= .returned v/\Own w' w.heap.size v R/\Cdr w' base g V N kind T room (cnt+d) P'/\(∀q,P' q->P q\/w.heap.size<=q)/\dA P w w'
theorem iY {P:Nat->Prop} {V:Vc} {N:List ByteArray} {kind:Int} {T:List Rg} {base g:Nat} {room:Int} {cnt x:Int} {ao:Option Addr} {c:Nat} (w:World) (h:Cdr w base g V N kind T room cnt P) (hN:N.length<=16) (hA:SlI w ao 1 c [x]) (hx:256<=x) (hc:mA V N [x]=0):
  Calls Tryz.prog 116 #[.pointer (some ⟨g,0,none⟩), .slice ao 1 c] w (PcQ w base g V N kind T room cnt P (eC V N [x]) (N5 [x])):=by
 obtain⟨w0,hw0⟩:∃w0,w.alloc (.cells #[.pointer (some ⟨g,0,none⟩)] 66)=w0:=⟨_,rfl⟩;have hb0:Below w.heap.size w w0:=hw0▸aA w _;have hx0:w0.heap[w.heap.size]?=some (.cells #[.pointer (some ⟨g,0,none⟩)] 66):=by rw[<-hw0];exact heap_alloc_new w _
 have z0:w0.cell? ⟨w.heap.size,0,none⟩=some (.pointer (some ⟨g,0,none⟩)):=by simp[World.cell?,hx0]
 have hV:=h.below hb0;obtain⟨cb,hcod⟩:=hV.cod;have hCk:=xH w0 hcod hN (hA.below hb0) (by omega);rw[hc]at hCk;obtain⟨lo,ta,tc,sa,sc,na,nc,ma,mc,oa,oc,eg,hbx,_,_,_,hom,_⟩:=hcod;obtain⟨c0,c1,c2,c3,c4,c5,c6,c7,c8,cf⟩:=fO hbx;obtain⟨mo,mcap,e0,hsm⟩:=hom.sl;have hml:=nK V.specials N;rw[hml]at e0 hsm;obtain⟨rfl,_,rfl⟩:=Value.slice.inj e0;have hfx:nB V N x=0:=by
  have:=eB.1 hc x (by simp);exact this
 have hxl:x<256+(N.length:Int):=by
  rcases Int.lt_or_le x (256+(N.length:Int))with h1 | h1
  ·exact h1
  ·unfold nB at hfx;rw[if_pos (.inr h1)]at hfx;cases hfx
 obtain⟨k,hk⟩:∃k:Nat,x-256=k:=⟨(x-256).toNat,by omega⟩;have q2:IntKind.i64.wrap (x-256)=(k:Int):=by rw[IntKind.wrap_i64];omega
 have gk:(k:Int)<(N.length:Int):=by omega
 have gk0:(0:Int)<=(k:Int):=by omega
 obtain⟨bm,om,hmo,hcm⟩:=hsm.at_ (i:=k) (by omega);subst hmo;obtain⟨v,hv⟩:∃v,ix (nC V.specials N) k=v:=⟨_,rfl⟩;rw[hv]at hcm;have hmk:jI V N x=v:=by unfold jI;rw[hk,Int.toNat_natCast,hv]
 have HP:Hid (eC V N [x]= [v]):=hW_ (by rw[P0 hc hx,hmk]);obtain⟨b,o,hao,hca⟩:=(hA.below hb0).at_ (i:=0) (by omega);subst hao;have ha0:w0.cell? ⟨b,o,none⟩=some (.int .i64 x):=by simpa[ix]using hca
 have gx:decide ((256:Int)<=x)=true:=by simpa using hx
 have HCK:=hW_ hCk;have HB0:=hW_ hb0;have HW0:=hW_ hw0;have HV:=hW_ hV;have HX:=hW_ hx;clear h hA hc hbx hom hsm e0 hml hfx hv hmk hca hw0 hb0 hx0 hCk hV hx;go_enter Tryz.func116,Tryz.ntmps116;go_wp2_with (fail);rw[HW0.out];go_wp2_with (go_at_call 39;refine HCK.out.mono ?_;rintro e w1 ⟨rfl,rfl⟩);go_region
 all_goals(
  go_wp2_with (fail);refine bodyPost_ret (results_tmp rfl _ _ _) rfl ⟨_,P,rfl,by rw[HP.out];exact Own.mono (aCc _ v) HB0.out.size,by rw[aDL HX.out,Int.add_zero];exact HV.out.below (by exact pJ rfl rfl rfl rfl),fun q hq=> .inl hq,dA.of_below (HB0.out.trans (Below.mono (by exact pJ rfl rfl rfl rfl) HB0.out.size))⟩)
theorem iW {P:Nat->Prop} {V:Vc} {N:List ByteArray} {kind:Int} {T:List Rg} {base g:Nat} {room:Int} {cnt:Int} {A:List Int} {ao:Option Addr} {n c:Nat} (w:World) (hh:Cdr w base g V N kind T room cnt P) (hM:May V) (hN:N.length<=16) (hr:room<=1048576)
  (hA:SlI w ao n c A) (hn0:0<n) (hn:n<=100000) (hb:∀y∈A,0<=y/\y<256) (hc:mA V N A=0) (hcnt:cnt<1000000):
  Calls Tryz.prog 116 #[.pointer (some ⟨g,0,none⟩), .slice ao n c] w (PcQ w base g V N kind T room cnt P (eC V N A) (N5 A)):=by
 obtain⟨cb,mb,no,l,hits,misses,h,hok,hsum⟩:=hh;obtain⟨w0,hw0⟩:∃w0,w.alloc (.cells #[.pointer (some ⟨g,0,none⟩)] 66)=w0:=⟨_,rfl⟩;have hb0:Below w.heap.size w w0:=hw0▸aA w _;have hx0:w0.heap[w.heap.size]?=some (.cells #[.pointer (some ⟨g,0,none⟩)] 66):=by rw[<-hw0];exact heap_alloc_new w _
 have hz0:w.heap.size<w0.heap.size:=by rw[<-hw0];simp
 have z0:w0.cell? ⟨w.heap.size,0,none⟩=some (.pointer (some ⟨g,0,none⟩)):=by simp[World.cell?,hx0]
 have hV:=h.stay (fun q hq=>hb0.block q (h.lt q hq).2) hb0.size;have hA0:=hA.below hb0;have hAl:=hA.len;have hCk:=xH w0 hV.codR.cod hN hA0 (by omega);rw[hc]at hCk;have hne:A≠[]:=fun e=>by rw[e]at hAl;simp at hAl;omega
 have HP:Hid (eC V N A=jG V A):=hW_ (C4 hc hne hb);have HBY:Hid (N5 A=1):=hW_ (aBm hb);obtain⟨b,o,hao,hca⟩:=hA0.at_ (i:=0) hn0;subst hao;obtain⟨x,hx⟩:∃x,ix A 0=x:=⟨_,rfl⟩;rw[hx]at hca;have hxb:=hb x (by rw[<-hx];exact List.mem_of_getElem? (gF (by omega)));have ha0:w0.cell? ⟨b,o,none⟩=some (.int .i64 x):=by simpa using hca
 have gx:decide ((256:Int)<=x)=false:=by simp;omega
 have gn0:((n:Int)==0)=false:=by simp;omega
 have HBT:=hW_ (bU w0 hA0 (fun y hy=>C6.2 (hb y hy)) (by omega));have HCK:=hW_ hCk;have HB0:=hW_ hb0;have HW0:=hW_ hw0;have HX0:=hW_ hx0;have HV:=hW_ hV;have HY:=hW_ hb;have HFT:Hid (∀q,Ft cb mb no q->base<=q/\q<w.heap.size):=hW_ fun q hq=>h.lt q (h.rep.ft q hq)
 have HPL:=hW_ h.lt;have HOK:=hW_ hok;have HSUM:=hW_ hsum;have HPF:=hW_ h.rep.ft;have HAL:=hW_ hAl;have HM:=hW_ hM;clear h hok hsum hA hA0 hc hca hw0 hb0 hx0 hCk hV hx hAl hne hxb hb hM;go_enter Tryz.func116,Tryz.ntmps116;go_wp2_with (fail);rw[HW0.out];go_wp2_with (go_at_call 39;refine HCK.out.mono ?_;rintro e w1 ⟨rfl,rfl⟩)
 all_goals(
  go_at_call 148;refine HBT.out.mono ?_
  rintro e w2 ⟨⟨v,rfl,ho⟩,hb2⟩;obtain⟨gb,bc,rfl,hgb,hgl,hsl⟩:=ownB_at0 ho (by have:=HAL.out;omega);obtain⟨W3,hW3⟩:∃W3,w2.alloc (.cells #[.slice (some ⟨gb,0,none⟩) A.length bc] 113)=W3:=⟨_,rfl⟩;have hb3:Below w2.heap.size w2 W3:=hW3▸aA w2 _;have hx3:W3.heap[w2.heap.size]?=some (.cells #[.slice (some ⟨gb,0,none⟩) A.length bc] 113):=by rw[<-hW3];exact heap_alloc_new w2 _
  have hx2:W3.heap[w.heap.size]?=some (.cells #[.pointer (some ⟨g,0,none⟩)] 66):=(hb3.block _ (Nat.lt_of_lt_of_le hz0 hb2.size)).trans ((hb2.block _ hz0).trans HX0.out)
  have HB3:Hid (Below w0.heap.size w0 W3):=hW_ (hb2.trans (hb3.mono hb2.size));have hft3:∀q,w.heap.size<=q->¬Ft cb mb no q:=fun q hq hf=>by have:=(HFT.out q hf).2;omega
  have hs02:w.heap.size<=w2.heap.size:=Nat.le_trans (Nat.le_of_lt hz0) hb2.size;have hcv:∀W,dA (Ft cb mb no) W3 W->(convert 113 9 (.slice (some ⟨gb,0,none⟩) A.length bc)).run Tryz.prog W= .ok (.string (Y8 A)) W:=fun W hW=>aBu (vO (Sl.below hsl hb3) (fun ad e=>by
   obtain rfl:ad=⟨gb,0,none⟩:=(Option.some.inj e).symm;exact hW.block gb (Nat.lt_of_lt_of_le hgl hb3.size) (hft3 gb (Nat.le_trans (Nat.le_of_lt hz0) hgb)))) (by have:=HAL.out;omega)
  have HLK:Hid (∀W,Ge W3 W->Calls Tryz.prog 149 #[.pointer (some ⟨cb,0,none⟩), .string (Y8 A), .func (.func 150) #[] #[.pointer (some ⟨w.heap.size,0,none⟩), .pointer (some ⟨w2.heap.size,0,none⟩)]] W (fun e w'=>PcQ w base g V N kind T room cnt P (jG V A) 1 e w'/\dA (Ft cb mb no) W3 w')):=hW_ (fun W hW=>by
   have hcr:=(HV.out.stay (fun q hq=>HB3.out.block q (HV.out.lt q hq).2) HB3.out.size).stay (fun q hq=>hW.block q (Nat.lt_of_lt_of_le (HV.out.lt q hq).2 HB3.out.size)) hW.size;have hsum:=HSUM.out;have hft:∀q,Ft cb mb no q->q<w.heap.size:=fun q hq=>(HFT.out q hq).2
   have hs2:=hb2.size;have hsW:=hW.size;have hs3:=hb3.size;have hsz3:w2.heap.size<W3.heap.size:=(Array.getElem?_eq_some_iff.1 hx3).1;refine(wT (Y8 A) W hcr.rep (fun q hq=>(hcr.lt q hq).2) HOK.out hr (by omega) (by rw[aDK HY.out];have:=HAL.out;omega) (fun W' hk=> ?_)).mono ?_
   ·rw[uM HY.out];have k2:W'.heap[w.heap.size]?=some (.cells #[.pointer (some ⟨g,0,none⟩)] 66):=(hk.block _ (by omega) (fun hf=>by have:=hft _ hf;omega)).trans ((hW.block _ (by omega)).trans hx2)
    have k5:W'.heap[w2.heap.size]?=some (.cells #[.slice (some ⟨gb,0,none⟩) A.length bc] 113):=(hk.block _ (by omega) (fun hf=>by have:=hft _ hf;omega)).trans ((hW.block _ (by omega)).trans hx3)
    refine jW W' (hcr.codR.codK hk) HM.out (vO (Sl.below (Sl.below hsl hb3) hW) (fun ad e=> ?_)) HY.out (by have:=HAL.out;omega) (by have:=HAL.out;omega) (by simp[World.cell?,k2]) (by simp[World.cell?,k5]);obtain rfl:ad=⟨gb,0,none⟩:=(Option.some.inj e).symm;exact hk.block gb (by omega) (fun hf=>by have:=hft _ hf;omega)
   ·rintro e w' ⟨v,no',l',hits',misses',rfl,hown,hrep,hok',hsum',hcch⟩;rw[uM HY.out]at hown;have hsz:w.heap.size<=W.heap.size:=by omega
    have hkk:dA (Ft cb mb no) W3 w':=(dA.of_below hW).trans ⟨hcch.os,hcch.tape,hcch.output,hcch.size,hcch.block⟩;exact⟨⟨v,_,rfl,hown.mono hsz,⟨cb,mb,no',l',hits',misses',hcr.turn hcch hrep,hok',by omega⟩,fun q hq=>hq.1.imp id (fun h=>Nat.le_trans hsz h),(((dA.of_below HB0.out).trans (dA.of_below HB3.out)).trans hkk).mono (fun k _ hf=>HPF.out k hf)⟩,hkk⟩)
  have z2:W3.cell? ⟨w.heap.size,0,none⟩=some (.pointer (some ⟨g,0,none⟩)):=by simp[World.cell?,hx2]
  have z5:W3.cell? ⟨w2.heap.size,0,none⟩=some (.slice (some ⟨gb,0,none⟩) A.length bc):=by simp[World.cell?,hx3]
  have HW3:=hW_ hW3;have G2:=fun w' (hg:dA (Ft cb mb no) W3 w')=>hg.cell z2 (hft3 _ (Nat.le_refl _))
  have G5:=fun w' (hg:dA (Ft cb mb no) W3 w')=>hg.cell z5 (hft3 _ hs02)
  have G8:∀w',dA (Ft cb mb no) W3 w'->w'.cell? ⟨g,8,none⟩=some (.pointer (some ⟨cb,0,none⟩)):=fun w' hg=>by
   have hcr:=(HV.out.stay (fun q hq=>HB3.out.block q (HV.out.lt q hq).2) HB3.out.size).codR;obtain⟨_,_,_,_,_,_,_,_,_,_,_,_,hbx',_⟩:=hcr.codK hg;exact(fO hbx').2.2.2.2.2.2.2.2.1
  have gr:=dA.refl (Ft cb mb no) W3;clear hW3 hb3 hx3 hx2 ho hb2 hgb hgl hsl z0 ha0 z2 z5 hft3 hs02;go_wp2_with (fail);rw[HW3.out]
  go_region_held3 (dA (Ft cb mb no) W3) (first | (with_reducible assumption) | (with_reducible refine dA.drew ?_;with_reducible assumption) | (with_reducible refine dA.drewN ?_ _;with_reducible assumption)) ((go_at_call 149;refine(HLK.out _ (by exact bA (Below.refl _ _) _)).mono ?_;rintro e w9 ⟨⟨v9,p9,rfl,ho9,hV9,hp9,hc9⟩,hk9⟩;have HP9:=hW_ hp9;have HO9:=hW_ ho9;have HV9:=hW_ hV9;have HC9:=hW_ hc9;clear ho9 hV9 hp9 hc9))
  all_goals(
   go_wp2_with (fail);go_ret;exact⟨v9,p9,rfl,by rw[HP.out];exact HO9.out,by rw[HBY.out];exact HV9.out,HP9.out,HC9.out⟩))
theorem qO {w:World} {ops:Array Oper} {rest:List Oper} {o:Oper} {a:Act} {Q:Exit->Act->World->Prop} (hgd:o.guard=none) (s x:Operand)
  (ho:o.op= .call {callee:= .builtin .append,args:=#[s,x],argTypes:=#[34,34]})
  {base b m c k:Nat} {v:Value} {A R:List Int} (hs:a.eval s=v) (hown:Own w base v A) (hk:A.length=k) (hx:a.eval x= .slice (some ⟨b,0,none⟩) m c)
  (hl:SlI w (some ⟨b,0,none⟩) m c R) (hm0:0<m) (hm:k+m<1048576) (hbase:base<=w.heap.size)
  (hK:∀g cap' w',Own w' base (.slice (some ⟨g,0,none⟩) (k+m) cap') (A++R)->w.grownBy w' v.ownBlock->(v.ownBlock=some g\/g=w.heap.size)->wpList Tryz.prog ops Q rest (a.put o.dst (.slice (some ⟨g,0,none⟩) (k+m) cap')) w'):
  wpList Tryz.prog ops Q (o::rest) a w:=by
 obtain⟨i0,hi0,hz0,hz1,hz2⟩:=info_parts tC;subst hk;have hRl:=hl.len;refine wpList_append_lies (P:=Tryz.prog) (w:=w) hgd s x 34 ho base 3 i0 _ 1 8 Tryz.underlying34 hi0 hz0 hz1 hz2 rfl (by omega) _ A.length _ hs hown ⟨b,0,none⟩ m c (R.map (.int .i64)) hx (by rw[List.length_map];omega)
  (fun j u hu=> ?_) (Q1 R) hm0 (by unfold maxLen;omega) (by omega) hbase w.heap.size rfl ?_
 ·obtain⟨b',o',e,hc⟩:=Sl.at_ hl j u hu;simp only[Option.some.injEq,Addr.mk.injEq,and_true]at e;obtain⟨rfl,rfl⟩:=e;rw[Addr.add_lit];exact hc
 ·intro g cap' w' ho' hgr hat hlt;refine hK g cap' w' ?_ hgr hat
  unfold Own;rw[List.length_append,List.map_append,hRl];exact ho'
theorem aDe {M:List Mg} {row r:List Int} (h:rE M row=some r):0<r.length:=by
 have hl:=uO h;unfold rE at h;split at h
 ·next he=>
  obtain⟨a,b,h1,h2,h3⟩:=he.choose_spec.at_;have:=(List.getElem?_eq_some_iff.1 h2).1;omega
 ·cases h
theorem X4 {M:List Mg}:∀(k:Nat) (r:List Int),0<r.length->0<(J3 M k r).length
 | 0,r,h=>h
 | k+1,r,h=>by
  cases hs:rE M r with
  | none=>rw[gN hs];exact h
  | some r'=>
   have:=X4 k r' (aDe hs) (M:=M);simp only[J3,hs];exact this
theorem encF_pos {V:Vc} {A:List Int} (h:0<A.length):0<(jG V A).length:=
 X4 (M:=V.merges) A.length (yB V A) (by rw[lG];exact h)
theorem fJ {V:Vc} {N:List ByteArray} {A:List Int} (hc:mA V N A=0) (hm:aCM A):0<(eC V N A).length/\(eC V N A).length<=A.length:=by
 rcases hm with⟨x,rfl,hx⟩ | ⟨hne,hb⟩
 ·rw[P0 hc hx];simp
 ·rw[C4 hc hne hb];exact⟨encF_pos (List.length_pos_iff.2 hne),aCz V A⟩
def byN:List (Int×Bool)->List Int->Int
 | [],_=>0
 | p::ps,A=>N5 (A.take p.1.toNat)+byN ps (A.drop p.1.toNat)
theorem nW (A:List Int):0<=N5 A/\N5 A<=1:=by
 unfold N5;split<;>omega
theorem jD.len:∀{ps:List (Int×Bool)} {A:List Int},jD ps A->ps.length<=A.length
 | [],A,h=>Nat.zero_le _
 | p::ps,A,h=>by
  have:=jD.len h.2.2.2;have:=h.1;have:=h.2.1;simp only[List.length_drop,List.length_cons]at *;omega
theorem eJ {P:Nat->Prop} {V:Vc} {N:List ByteArray} {kind:Int} {T:List Rg} {base g:Nat} {room:Int} {cnt:Int} {A:List Int} {ao:Option Addr} {n c:Nat} (w:World) (h:Cdr w base g V N kind T room cnt P) (hM:May V) (hN:N.length<=16) (hr:room<=1048576)
  (hA:SlI w ao n c A) (hn:n<=100000) (hm:aCM A) (hc:mA V N A=0) (hcnt:cnt<1000000):
  Calls Tryz.prog 116 #[.pointer (some ⟨g,0,none⟩), .slice ao n c] w (PcQ w base g V N kind T room cnt P (eC V N A) (N5 A)):=by
 have hl:=hA.len;rcases hm with⟨x,rfl,hx⟩ | ⟨hne,hb⟩
 ·simp only[List.length_singleton]at hl;subst hl;exact iY w h hN hA hx hc
 ·exact iW w h hM hN hr hA (by have:=List.length_pos_iff.2 hne;omega) hn hb hc hcnt
open Go
theorem I2 {p:Int×Bool} {ps:List (Int×Bool)} (h:p.2=true):zB (p::ps)=p::zB ps:=by unfold zB;rw[List.takeWhile_cons,h];rfl
theorem aO {p:Int×Bool} {ps:List (Int×Bool)} (h:p.2=false):zB (p::ps)= []:=by unfold zB;rw[List.takeWhile_cons,h];rfl
theorem xI (p:Int×Bool) (ps:List (Int×Bool)):kC (p::ps)=p.1.toNat+kC ps:=rfl
theorem kR:kC []=0:=rfl
theorem jD.decd_le:∀{ps:List (Int×Bool)} {A:List Int},jD ps A->kC (zB ps)<=A.length
 | [],A,h=>by
  show 0<=_;omega
 | p::ps,A,h=>by
  have h1:=h.1;have h2:=h.2.1
  cases hp:p.2 with
  | false=>rw[aO hp,kR];omega
  | true=>
   rw[I2 hp,xI];have:=jD.decd_le h.2.2.2;rw[List.length_drop]at this;omega
theorem eK {V:Vc} {N:List ByteArray}:∀(ps qs:List (Int×Bool)) (A:List Int),yA V N (ps++qs) A=yA V N ps A++yA V N qs (A.drop (kC ps))
 | [],qs,A=>rfl
 | p::ps,qs,A=>by
  simp only[List.cons_append,yA,xI];rw[eK ps qs,List.append_assoc,List.drop_drop]
theorem dJ {V:Vc} {N:List ByteArray}:∀{ps:List (Int×Bool)} {A:List Int} (B:List Int),(∀p∈ps,0<=p.1)->kC ps<=A.length->yA V N ps (A++B)=yA V N ps A
 | [],A,B,_,h=>rfl
 | p::ps,A,B,hp,h=>by
  rw[xI]at h;simp only[yA];rw[List.take_append_of_le_length (by omega),List.drop_append_of_le_length (by omega),dJ B (fun q hq=>hp q (by simp[hq])) (by rw[List.length_drop];omega)]
theorem jD.pos:∀{ps:List (Int×Bool)} {A:List Int},jD ps A->∀p∈ps,0<=p.1
 | [],A,h=>fun p hp=>by cases hp
 | q::ps,A,h=>fun p hp=>by
  rcases List.mem_cons.1 hp with rfl | h'
  ·have:=h.1;omega
  ·exact jD.pos h.2.2.2 p h'
theorem aEb (ps:List (Int×Bool)):∀p∈zB ps,p.2=true:=fun p hp=>by
 unfold zB at hp;exact List.all_eq_true.1 (List.all_takeWhile (p:=fun p:Int×Bool=>p.2) (l:=ps)) p hp
theorem sumP_app (ps qs:List (Int×Bool)):kC (ps++qs)=kC ps+kC qs:=by unfold kC;rw[List.map_append,List.sum_append]
noncomputable def T5 (V:Vc) (N:List ByteArray) (kind:Int) (T:List Rg) (A:List Int) (e:Bool):List Int:=yA V N (zB (zA kind T A e)) A
def fP (kind:Int) (T:List Rg) (A:List Int) (e:Bool):Nat:=kC (zB (zA kind T A e))
def xZ (kind:Int) (T:List Rg) (A:List Int) (e:Bool):Int:=byN (zB (zA kind T A e)) A
section
variable {V:Vc} {N:List ByteArray} {kind:Int} {T:List Rg}
theorem comN_le (hT:oA T) {e:Bool} {A:List Int} (hc:mA V N A=0):fP kind T A e<=A.length:=jD.decd_le (pG hT hc)
end
theorem aBw {V:Vc} {N:List ByteArray} {A B:List Int} (hA:mA V N A=0):mA V N (A++B)=mA V N B:=by
 induction A with
 | nil=>rfl
 | cons s l ih=>
  unfold mA at hA
  by_cases hs:nB V N s=0
  ·rw[if_pos hs]at hA;rw[List.cons_append];show(if nB V N s=0 then mA V N (l++B)else nB V N s)=_;rw[if_pos hs,ih hA]
  ·rw[if_neg hs]at hA;exact absurd hA hs
theorem aAX {N:List ByteArray} (hN:dB N) {k:Nat} (hk:k<N.length):vG N (tk N k)=some k:=
 P6 hk rfl (fun j hj e=>by
  have h:=List.pairwise_iff_getElem.1 hN.2.2 j k (by omega) hk hj;have e1:N[j]=tk N j:=by simp[tk,List.getD,show j<N.length by omega]
  have e2:N[k]=tk N k:=by simp[tk,List.getD,hk]
  rw[e1,e2,e,gG]at h
  cases h)
theorem wX {V:Vc} {N:List ByteArray} (hS:cF V.tokens V.specials) (hN:dB N) {k:Nat} (hk:k<N.length) {s:Sp} (h:fG V.specials (tk N k)=some s):mB V N s.id=([256+(k:Int)],0):=by
 have hm:s∈V.specials:=List.mem_of_find?_eq_some h;have hnm:s.name=tk N k:=by
  have h9:=List.find?_some (p:=fun s:Sp=>decide (s.name=tk N k)) h;simpa using h9
 have ho:=hS.2.1 s hm;unfold mB;rw[if_neg (fun g=>by
  obtain⟨_,_,g3⟩:=vB.1 g;exact g3 ho.2.2.2),spBy_mem hS hm]
 simp only;rw[hnm,aAX hN hk]
theorem qD (V:Vc) (N:List ByteArray) (t:Int) (l:List Int):wB V N (t::l)=if(mB V N t).2=0 then(if(wB V N l).2=0 then((mB V N t).1++(wB V N l).1,0)else([],(wB V N l).2))else([],(mB V N t).2):=rfl
theorem eP {V:Vc} {N:List ByteArray}:∀{L R:List Int},(wB V N L).2=0->wB V N (L++R)=if(wB V N R).2=0 then((wB V N L).1++(wB V N R).1,0)else([],(wB V N R).2)
 | [],R,_=>by
  show wB V N R=_
  by_cases h:(wB V N R).2=0
  ·rw[if_pos h];simp only[wB,List.nil_append];rw[<-h]
  ·rw[if_neg h];exact decTo_bad h
 | t::L,R,h=>by
  rw[qD]at h
  by_cases h1:(mB V N t).2=0
  ·rw[if_pos h1]at h
   by_cases h2:(wB V N L).2=0
   ·rw[List.cons_append,qD,eP h2,if_pos h1,qD V N t L,if_pos h1,if_pos h2]
    by_cases h3:(wB V N R).2=0
    ·simp[h3]
    ·simp[h3]
   ·rw[if_neg h2]at h;exact absurd h h2
  ·rw[if_neg h1]at h;exact absurd h h1
where
 decTo_bad {V:Vc} {N:List ByteArray}:∀{R:List Int},(wB V N R).2≠0->wB V N R=([],(wB V N R).2)
 | [],h=>absurd rfl h
 | t::L,h=>by
  rw[qD]at h |-
  by_cases h1:(mB V N t).2=0
  ·rw[if_pos h1]at h |-
   by_cases h2:(wB V N L).2=0
   ·rw[if_pos h2]at h;exact absurd rfl h
   ·rw[if_neg h2]
  ·rw[if_neg h1]
def jP (T:List ByteArray) (row b:List Int):Prop:=(∀t∈row,wD T t=true)/\row.flatMap (fun t=>A9 (tk T t.toNat))=b
theorem aBx (s t:ByteArray):A9 (s++t)=A9 s++A9 t:=by unfold A9;simp
theorem aBy {x:Int} (h:0<=x/\x<256):A9 (one x.toNat)= [x]:=by
 unfold A9 one;simp;omega
theorem isTk_one {T:List ByteArray} (hT:sD T) {x:Int} (h:0<=x/\x<256):wD T (ofT T (one x.toNat))=true/\tk T (ofT T (one x.toNat)).toNat=one x.toNat:=by
 have hm:=hT.2.2.2 x.toNat (by omega);have hs:(one x.toNat).size≠0:=by simp[one,ByteArray.size]
 rcases O6 T (one x.toNat)with⟨h1,_⟩ | ⟨_,i,h1,h2,_,h4⟩ | ⟨_,h1,_⟩
 ·exact absurd h1 hs
 ·rw[h4];have e:((i:Int)).toNat=i:=by omega
  refine⟨vB.2 ⟨by omega,by omega,?_⟩,?_⟩
  ·rw[e,h2];exact hs
  ·rw[e,h2]
 ·obtain⟨i,hi,he⟩:=iI hm;exact absurd he (h1 i hi)
theorem pU {V:Vc} (hT:sD V.tokens):∀{b:List Int},(∀x∈b,0<=x/\x<256)->jP V.tokens (yB V b) b
 | [],_=>⟨by simp[yB],rfl⟩
 | x::b,h=>by
  obtain⟨h1,h2⟩:=pU hT (b:=b) (fun y hy=>h y (by simp[hy]));obtain⟨h3,h4⟩:=isTk_one hT (h x (by simp));have e:yB V (x::b)=ofT V.tokens (one x.toNat)::yB V b:=rfl;refine⟨fun t ht=> ?_,?_⟩
  ·rw[e]at ht;rcases List.mem_cons.1 ht with rfl | ht
   ·exact h3
   ·exact h1 t ht
  ·rw[e,List.flatMap_cons,h2,h4,aBy (h x (by simp))];rfl
theorem aAy {M:List Mg} {row r:List Int} (h:rE M row=some r):∃i m,qI M row i m/\r=vH row i m.out:=by
 unfold rE at h;split at h
 ·next he=>exact⟨_,_,he.choose_spec,(Option.some.inj h).symm⟩
 ·cases h
theorem aAs {V:Vc} (hM:D6 V.tokens V.merges) {row r b:List Int} (h:jP V.tokens row b) (hs:rE V.merges row=some r):jP V.tokens r b:=by
 obtain⟨i,m,hb,rfl⟩:=aAy hs;obtain⟨x,y,h1,h2,h3⟩:=hb.at_;have hm:m∈V.merges:=List.mem_of_find?_eq_some h3;have hp:=List.find?_some (p:=fun m:Mg=>decide (m.left=x) && decide (m.right=y)) h3;simp only[Bool.and_eq_true,decide_eq_true_eq]at hp;obtain⟨o1,o2,o3,o4,_⟩:=hM.2.1 m hm;have hi:=(List.getElem?_eq_some_iff.1 h2).1;have e:row=row.take i++x::y::row.drop (i+2):=by
  have e1:=List.take_append_drop i row;have g1:row[i]'(by omega)=x:=(List.getElem?_eq_some_iff.1 h1).2;have g2:row[i+1]'hi=y:=(List.getElem?_eq_some_iff.1 h2).2;rw[List.drop_eq_getElem_cons (by omega),List.drop_eq_getElem_cons hi,g1,g2]at e1;exact e1.symm
 obtain⟨t1,t2⟩:=h;refine⟨fun t ht=> ?_,?_⟩
 ·unfold vH at ht;rcases List.mem_append.1 ht with ht | ht
  ·exact t1 t (List.mem_of_mem_take ht)
  ·rcases List.mem_cons.1 ht with rfl | ht
   ·exact o3
   ·exact t1 t (List.mem_of_mem_drop ht)
 ·rw[e]at t2;unfold vH;rw[<-t2];simp only[List.flatMap_append,List.flatMap_cons];rw[o4,aBx,hp.1,hp.2];simp
theorem oU {V:Vc} (hM:D6 V.tokens V.merges) {b:List Int}:∀{k:Nat} {row:List Int},jP V.tokens row b->jP V.tokens (J3 V.merges k row) b
 | 0,row,h=>h
 | k+1,row,h=>by
  simp only[J3]
  cases hs:rE V.merges row with
  | none=>exact h
  | some r=>exact oU hM (aAs hM h hs)
theorem qU {V:Vc} {N:List ByteArray}:∀{row b:List Int},jP V.tokens row b->wB V N row=(b,0)
 | [],b,h=>by
  obtain⟨_,rfl⟩:=h;rfl
 | t::row,b,⟨h1,h2⟩=>by
  have h3:=h1 t (by simp);have hr:=qU (V:=V) (N:=N) (row:=row) ⟨fun u hu=>h1 u (by simp[hu]),rfl⟩;have hs:mB V N t=(A9 (tk V.tokens t.toNat),0):=by unfold mB;rw[if_pos h3]
  rw[qD,hr,hs,<-h2];rfl
theorem aEc {V:Vc} {N:List ByteArray} (hV:May V) (hN:dB N) {A:List Int} (hc:mA V N A=0) (hp:aCM A):wB V N (eC V N A)=(A,0):=by
 have h0:A≠[]:=by
  rcases hp with⟨s,rfl,_⟩ | ⟨h,_⟩
  ·simp
  ·exact h
 unfold eC;rw[if_neg (by rintro(h | h);exact h hc;exact h0 h)];rcases hp with⟨s,rfl,h6⟩ | ⟨_,hb⟩
 ·have e:ix [s] 0=s:=rfl;rw[if_pos (by rw[e];exact⟨rfl,h6⟩),e];have hf:=eB.1 hc s (by simp);obtain⟨_,hs2⟩:=jS hf;obtain⟨k,hk⟩:∃k:Nat,s-256=k:=⟨(s-256).toNat,by omega⟩;have hkN:k<N.length:=by omega
  have hm:jI V N s=idOf (fG V.specials (tk N k)):=by
   unfold jI nC ix;rw[hk];simp[tk,List.getD,hkN]
  have hm0:¬jI V N s<0:=by
   unfold nB at hf;rw[if_neg (by omega)]at hf;intro g;rw[if_pos ⟨h6,g⟩]at hf
   cases hf
  cases hsp:fG V.specials (tk N k)with
  | none=>rw[hm,hsp]at hm0;exact absurd (by decide) hm0
  | some p=>
   rw[hm,hsp];show wB V N [p.id]=_;have:=wX hV.2.2.2 hN hkN hsp;rw[qD,this];simp[wB];omega
 ·have e1:¬(A.length=1/\256<=ix A 0):=by
   rintro⟨g1,g2⟩;have h9:=gF (A:=A) (i:=0) (by omega);have:=hb _ (List.mem_of_getElem? h9);omega
  rw[if_neg e1,if_pos (List.all_eq_true.2 fun y hy=>C6.2 (hb y hy))];exact qU (oU hV.2.1 (pU hV.1 hb))
theorem yM {V:Vc} {N:List ByteArray} (hV:May V) (hN:dB N):∀{ps:List (Int×Bool)} {A:List Int},mA V N A=0->jD ps A->wB V N (yA V N ps A)=(A,0)
 | [],A,_,h=>by
  have:A= []:=h;subst this;rfl
 | p::ps,A,hc,⟨h1,h2,h3,h4⟩=>by
  obtain⟨c1,c2⟩:=nA hc p.1.toNat;have e1:=aEc hV hN c1 h3;have e2:=yM hV hN c2 h4;show wB V N (eC V N (A.take p.1.toNat)++yA V N ps (A.drop p.1.toNat))=_;rw[eP (by rw[e1]),e2,e1,if_pos rfl];simp
theorem dec_text {V:Vc} {N:List ByteArray} (hV:May V) (hN:dB N) {kind:Int} {T:List Rg} (hT:oA T) {A:List Int} (hc:mA V N A=0):wB V N (B5 V N kind T A)=(A,0):=
 yM hV hN hc (pG hT hc)
variable {kind:Int} {T:List Rg} {final:Bool} {A:List Int}
theorem aN:∀{k:Nat} {text:List Int},(∀x∈text,isB x=true)->∀p∈xA kind T final k text true,p.2=false
 | 0,text,_,p,hp=>by simp[xA]at hp
 | k+1,text,h,p,hp=>by
  by_cases h0:text= []
  ·subst h0;rw[xC]at hp;cases hp
  ·have hr:pA text=text:=wP (fun x hx=>C6.1 (h x hx));rw[wC (n:=(A5 kind T (pA text) (final || decide ((pA text).length<text.length))).1) (d:=(A5 kind T (pA text) (final || decide ((pA text).length<text.length))).2) (by rw[hr];exact h0) rfl]at hp;rcases List.mem_cons.1 hp with rfl | hp
   ·rfl
   ·rw[Bool.true_or]at hp;exact aN (fun x hx=>h x (List.mem_of_mem_drop hx)) p hp
theorem vK:∀{k:Nat} {text:List Int},(xA kind T final k text false).filter (fun p=>p.2)=zB (xA kind T final k text false)
 | 0,text=>rfl
 | k+1,text=>by
  by_cases h0:text= []
  ·subst h0;rw[xC];rfl
  ·by_cases hr:pA text= []
   ·cases text with
    | nil=>exact absurd rfl h0
    | cons m l=>
     have hm:isB m=false:=by
      cases hb:isB m with
      | false=>rfl
      | true=>simp[pA,hb]at hr
     rw[zC hm,I2 rfl,List.filter_cons_of_pos rfl,vK]
   ·obtain⟨⟨n,d⟩,hn⟩:∃x,A5 kind T (pA text) (final || decide ((pA text).length<text.length))=x:=⟨_,rfl⟩;rw[wC hr hn]
    cases d with
    | true=>rw[I2 rfl,List.filter_cons_of_pos rfl];exact congrArg _ vK
    | false=>
     rw[aO rfl,List.filter_cons_of_neg (by simp),List.filter_eq_nil_iff];have hb:∀x∈text,isB x=true:=by
      have hf:(final || decide ((pA text).length<text.length))=false:=by
       cases hb:(final || decide ((pA text).length<text.length))with
       | false=>rfl
       | true=>rw[hb]at hn;have:=uH kind T (pA text);rw[hn]at this;cases this
      have hl:=fN text;simp only[Bool.or_eq_false_iff,decide_eq_false_iff_not]at hf;obtain⟨r,hr2⟩:pA text <+:text:=List.takeWhile_prefix isB;have hr0:r= []:=by
       have:=congrArg List.length hr2;rw[List.length_append]at this;exact List.eq_nil_of_length_eq_zero (by omega)
      rw[hr0,List.append_nil]at hr2;intro x hx;rw[<-hr2]at hx;exact C6.2 (bJ x hx)
     intro p hp;have:=aN (kind:=kind) (T:=T) (final:=final) (k:=k) (text:=text.drop n.toNat) (fun x hx=>hb x (List.mem_of_mem_drop hx)) p hp;rw[this];simp
section
variable {V:Vc} {N:List ByteArray} {kind:Int} {T:List Rg}
theorem aAz {f:Bool} (ht:oA T) {A:List Int} {q:Int×Bool} {r:List (Int×Bool)} (h:zA kind T A f=q::r) (hq:q.2=true):r=zA kind T (A.drop q.1.toNat) f:=by
 unfold zA at h |-
 cases A with
 | nil=>cases h
 | cons x l=>
  by_cases hr:pA (x::l)= []
  ·have hx:isB x=false:=by
    cases hb:isB x with
    | false=>rfl
    | true=>simp[pA,hb]at hr
   rw[List.length_cons,zC hx]at h;obtain⟨rfl,rfl⟩:=List.cons.inj h;rfl
  ·obtain⟨⟨n,d⟩,hn⟩:∃y,A5 kind T (pA (x::l)) (f || decide ((pA (x::l)).length<(x::l).length))=y:=⟨_,rfl⟩;have hle:=F1 (kind:=kind) ht bJ hr (f || decide ((pA (x::l)).length<(x::l).length));rw[hn]at hle;simp only at hle;have h':=wC (k:=l.length) (op:=false) hr hn;rw[List.length_cons,h']at h;obtain⟨rfl,rfl⟩:=List.cons.inj h;have hd:d=true:=by simpa using hq
   subst hd;have e9:(false || !true)=false:=rfl;rw[e9];exact yC ht (by simp only[List.length_drop,List.length_cons];omega) (Nat.le_refl _)
theorem oP {f:Bool} (ht:oA T):∀{qs:List (Int×Bool)} {A:List Int} {r:List (Int×Bool)},zA kind T A f=qs++r->(∀q∈qs,q.2=true)->r=zA kind T (A.drop (kC qs)) f
 | [],A,r,h,_=>h.symm
 | q::qs,A,r,h,hq=>by
  have h1:=aAz ht h (hq q (by simp));have h2:=oP ht h1.symm (fun p hp=>hq p (by simp[hp]));rw[h2,List.drop_drop];rfl
theorem kM {f g:Bool}:∀{k:Nat} {A:List Int} {a b:Bool},(xA kind T f k A a).map (·.1)=(xA kind T g k A b).map (·.1)
 | 0,A,a,b=>rfl
 | k+1,A,a,b=>by
  simp only[xA]
  by_cases h0:A= []
  ·rw[if_pos h0,if_pos h0]
  ·rw[if_neg h0,if_neg h0]
   by_cases hr:pA A= []
   ·rw[if_pos hr,if_pos hr,List.map_cons,List.map_cons,kM]
   ·rw[if_neg hr,if_neg hr,List.map_cons,List.map_cons];rw[aCl kind T (pA A) (f || decide ((pA A).length<A.length)) (g || decide ((pA A).length<A.length)),kM]
theorem gY {ps qs:List (Int×Bool)} (h:ps.map (·.1)=qs.map (·.1)):∀A,yA V N ps A=yA V N qs A:=by
 induction ps generalizing qs with
 | nil=>cases qs with
  | nil=>exact fun _=>rfl
  | cons q qs=>cases h
 | cons p ps ih=>cases qs with
  | nil=>cases h
  | cons q qs=>
   obtain⟨h1,h2⟩:=List.cons.inj h;intro A;simp only[yA];have h1:p.1=q.1:=h1;rw[h1,ih h2]
theorem aCX (A:List Int) (f:Bool):yA V N (zA kind T A f) A=B5 V N kind T A:=gY kM A
def sO (V:Vc) (N:List ByteArray) (t:Int):Nat:=(mB V N t).1.length
def pC (V:Vc) (N:List ByteArray) (W:List Int):Nat:=(W.map (sO V N)).sum
theorem wI (W X:List Int):pC V N (W++X)=pC V N W+pC V N X:=by unfold pC;rw[List.map_append,List.sum_append]
theorem oG:∀{W:List Int},(wB V N W).2=0->(wB V N W).1.length=pC V N W
 | [],_=>rfl
 | t::l,h=>by
  rw[qD]at h |-
  by_cases h1:(mB V N t).2=0
  ·rw[if_pos h1]at h |-
   by_cases h2:(wB V N l).2=0
   ·rw[if_pos h2,List.length_append,oG h2];rfl
   ·rw[if_neg h2]at h;exact absurd h h2
  ·rw[if_neg h1]at h;exact absurd h h1
theorem mS:∀{W:List Int},(wB V N W).2=0->∀t∈W,(mB V N t).2=0
 | [],_,t,ht=>by cases ht
 | u::l,h,t,ht=>by
  rw[qD]at h
  by_cases h1:(mB V N u).2=0
  ·rw[if_pos h1]at h
   by_cases h2:(wB V N l).2=0
   ·rcases List.mem_cons.1 ht with rfl | h3
    ·exact h1
    ·exact mS h2 t h3
   ·rw[if_neg h2]at h;exact absurd h h2
  ·rw[if_neg h1]at h;exact absurd h h1
theorem xX (hV:∀s∈V.tokens,s.size<=64) {t:Int} (h:(mB V N t).2=0):1<=sO V N t/\sO V N t<=64:=by
 unfold sO;unfold mB at h |-
 by_cases h1:wD V.tokens t=true
 ·rw[if_pos h1];obtain⟨g1,g2,g3⟩:=vB.1 h1;have:=hV _ (qB (T:=V.tokens) (i:=t.toNat) (by omega));rw[dH];omega
 ·rw[if_neg h1]at h |-
  cases hs:oR V.specials t with
  | none=>rw[hs]at h;cases h
  | some s=>
   rw[hs]at h;simp only at h |-
   cases hn:vG N s.name with
   | none=>rw[hn]at h;cases h
   | some k=>simp
def Bd (V:Vc) (N:List ByteArray) (kind:Int) (T:List Rg) (X:List Int) (n k:Nat):Prop:=
 n<=X.length/\∃R:List Int,R.length=k/\wB V N R=(X.take n,0)/\∀Y,mA V N Y=0->B5 V N kind T (X++Y)=R++B5 V N kind T (X.drop n++Y)
theorem bd_zero (X:List Int):Bd V N kind T X 0 0:=⟨Nat.zero_le _,[],rfl,rfl,fun Y _=>rfl⟩
theorem jL {X Z:List Int} (h:mA V N X=0) (k:mA V N Z=0):mA V N (X++Z)=0:=
 eB.2 fun s hs=>(List.mem_append.1 hs).elim (eB.1 h s) (eB.1 k s)
theorem aCG {X Z:List Int} {n k:Nat} (h:Bd V N kind T X n k) (hz:mA V N Z=0):Bd V N kind T (X++Z) n k:=by
 obtain⟨hn,R,hR,hd,ht⟩:=h;refine⟨by rw[List.length_append];omega,R,hR,by rw[List.take_append_of_le_length hn];exact hd,fun Y hY=> ?_⟩;rw[List.append_assoc,ht _ (jL hz hY),List.drop_append_of_le_length hn,List.append_assoc]
theorem aCb:∀{qs rs:List (Int×Bool)} {A:List Int},jD (qs++rs) A->jD qs (A.take (kC qs))/\kC qs<=A.length
 | [],rs,A,_=>⟨rfl,Nat.zero_le _⟩
 | q::qs,rs,A,⟨h1,h2,h3,h4⟩=>by
  obtain⟨k1,k2⟩:=aCb h4;have e:kC (q::qs)=q.1.toNat+kC qs:=rfl;rw[List.length_drop]at k2;refine⟨⟨h1,?_,?_,?_⟩,by rw[e];omega⟩
  ·rw[e,List.length_take];omega
  ·rw[e,List.take_take,Nat.min_eq_left (by omega)];exact h3
  ·rw[e,List.drop_take];have:q.1.toNat+kC qs-q.1.toNat=kC qs:=by omega
   rw[this];exact k1
theorem aCF (hV:May V) (hN:dB N) (hT:oA T) (hk:0<=kind/\kind<=3) {X:List Int} {n k:Nat} (hX:mA V N X=0) (h:Bd V N kind T X n k) {qs:List (Int×Bool)} (hq:qs <+:zB (zA kind T (X.drop n) false)):
  Bd V N kind T X (n+kC qs) (k+(yA V N qs (X.drop n)).length):=by
 obtain⟨hn,R,hR,hd,ht⟩:=h;obtain⟨rs,hrs⟩:=hq;have hc:=(nA hX n).2;have hok:jD (qs++(rs++(zA kind T (X.drop n) false).drop (zB (zA kind T (X.drop n) false)).length)) (X.drop n):=by
  rw[<-List.append_assoc,hrs];have e:zB (zA kind T (X.drop n) false)++(zA kind T (X.drop n) false).drop (zB (zA kind T (X.drop n) false)).length=zA kind T (X.drop n) false:=by
   obtain⟨s,hs⟩:=List.takeWhile_prefix (fun p:Int×Bool=>p.2) (l:=zA kind T (X.drop n) false);have h2:zB (zA kind T (X.drop n) false)++s=zA kind T (X.drop n) false:=hs;have h3:(zA kind T (X.drop n) false).drop (zB (zA kind T (X.drop n) false)).length=s:=by
    conv=>lhs;arg 2;rw[<-h2]
    rw[List.drop_left]
   rw[h3,h2]
  rw[e];exact pG hT hc
 obtain⟨k1,k2⟩:=aCb hok;have hpos:=hok.pos;have hqp:∀p∈qs,0<=p.1:=fun p hp=>hpos p (by simp[hp])
 have hqt:∀p∈qs,p.2=true:=fun p hp=>aEb (zA kind T (X.drop n) false) p (by rw[<-hrs];simp[hp])
 have e0:yA V N qs (X.drop n)=yA V N qs ((X.drop n).take (kC qs)):=by
  have:=dJ (V:=V) (N:=N) (ps:=qs) (A:=(X.drop n).take (kC qs)) ((X.drop n).drop (kC qs)) hqp (by rw[List.length_take];omega);rw[List.take_append_drop]at this;exact this
 have hd2:wB V N (yA V N qs (X.drop n))=((X.drop n).take (kC qs),0):=by
  rw[e0];exact yM hV hN (nA hc _).1 k1
 rw[List.length_drop]at k2;refine⟨by omega,R++yA V N qs (X.drop n),by rw[List.length_append,hR],?_,fun Y hY=> ?_⟩
 ·rw[eP (by rw[hd]),hd2,if_pos rfl,hd];have:=List.take_add (l:=X) (i:=n) (j:=kC qs);rw[this]
 ·rw[ht Y hY,List.append_assoc];congr 1;have hst:=stay hT hk true (X.drop n) Y;rw[<-hrs,List.append_assoc]at hst;have htl:=oP hT hst hqt;have e1:(X.drop n++Y).drop (kC qs)=X.drop (n+kC qs)++Y:=by
   rw[List.drop_append_of_le_length (by rw[List.length_drop];omega),List.drop_drop]
  rw[e1]at htl;unfold B5;rw[hst,eK,e1,htl,dJ Y hqp (by rw[List.length_drop];omega)]
theorem bd_mono (hV:∀s∈V.tokens,s.size<=64) {A X X':List Int} {n k n' k':Nat} (hA:mA V N A=0) (h:Bd V N kind T X n k) (h':Bd V N kind T X' n' k') (hx:X <+:A) (hx':X' <+:A) (hn:n<=n'):k<=k':=by
 obtain⟨h1,R,hR,hd,ht⟩:=h;obtain⟨h2,S,hS,hd',ht'⟩:=h';obtain⟨Y,hY⟩:=hx;obtain⟨Y',hY'⟩:=hx';have c1:mA V N Y=0:=eB.2 fun s hs=>eB.1 hA s (by rw[<-hY];simp[hs])
 have c2:mA V N Y'=0:=eB.2 fun s hs=>eB.1 hA s (by rw[<-hY'];simp[hs])
 have e1:=ht Y c1;have e2:=ht' Y' c2;rw[hY]at e1;rw[hY',e1]at e2;apply Classical.byContradiction;intro hlt;have hp:S <+:R:=List.prefix_of_prefix_length_le (l₃:=R++B5 V N kind T (X.drop n++Y)) (by rw[e2];exact List.prefix_append _ _) (List.prefix_append _ _) (by omega);obtain⟨Z,rfl⟩:=hp;have hz:Z≠[]:=by
  intro e;subst e;simp at hR;omega
 obtain⟨t,Z',rfl⟩:=List.exists_cons_of_ne_nil hz;have s1:=oG (V:=V) (N:=N) (W:=S++t::Z') (by rw[hd]);have s2:=oG (V:=V) (N:=N) (W:=S) (by rw[hd']);have s3:=xX hV (mS (V:=V) (N:=N) (W:=S++t::Z') (by rw[hd]) t (by simp));rw[hd,wI]at s1;rw[hd']at s2;have s4:pC V N (t::Z')=sO V N t+pC V N Z':=rfl;simp only[List.length_take]at s1 s2;omega
end
def plE (p:Int×Int):List Value:=[.int .i64 p.1, .int .i64 p.2]
theorem lC:∀p,(plE p).length=2:=fun _=>rfl
structure RgB (w:World) (base g:Nat) (o:Option Addr) (m c h n:Nat) (from_:Int) (B:List (Int×Int)):Prop where
 box:w.heap[g]?=some (.cells #[.slice o m c, .int .i64 h, .int .i64 n, .int .i64 from_, .int .i64 1048576] 187)
 own:iA plE 2 140 w base (.slice o m c) B
 len:B.length=m
 far:(Value.slice o m c).ownBlock≠some g
 lo:base<=g
 hd:h=0\/h<m
 fits:n<=m
 most:m<=1048576
def RgV (w:World) (base g:Nat) (from_:Int) (L:List (Int×Int)):Prop:=
 ∃o m c h B,RgB w base g o m c h L.length from_ B/\∀i (hi:i<L.length),B[(h+i) % m]?=some L[i]
theorem RgB.below {w w':World} {base g:Nat} {o:Option Addr} {m c h n:Nat} {from_:Int} {B:List (Int×Int)} (hb:RgB w base g o m c h n from_ B) (k:Below w.heap.size w w'):RgB w' base g o m c h n from_ B:=
 ⟨(k.block g (Array.getElem?_eq_some_iff.1 hb.box).1).trans hb.box,iA.below hb.own k,hb.len,hb.far,hb.lo,hb.hd,hb.fits,hb.most⟩
theorem RgV.below {w w':World} {base g:Nat} {from_:Int} {L:List (Int×Int)} (h:RgV w base g from_ L) (k:Below w.heap.size w w'):RgV w' base g from_ L:=by
 obtain⟨o,m,c,hh,B,hb,hat⟩:=h;exact⟨o,m,c,hh,B,hb.below k,hat⟩
theorem uC {w:World} {g:Nat} {a b c d e:Value} {t:TypeId} (h:w.heap[g]?=some (.cells #[a,b,c,d,e] t)):w.cell? ⟨g,0,none⟩=some a/\w.cell? ⟨g,1,none⟩=some b/\w.cell? ⟨g,2,none⟩=some c/\w.cell? ⟨g,3,none⟩=some d/\w.cell? ⟨g,4,none⟩=some e/\∀o,w.frozen? ⟨g,o,none⟩=some false:=by
 simp[World.cell?,World.frozen?,h]
theorem bW {w:World} {base g:Nat} {from_:Int} {L:List (Int×Int)} (h:RgV w base g from_ L):Calls Tryz.prog 75 #[.pointer (some ⟨g,0,none⟩)] w fun E w'=>E= .returned (.int .i64 from_)/\w'=w:=by
 obtain⟨o,m,c,hh,B,hb,-⟩:=h;obtain⟨c0,c1,c2,c3,c4,cf⟩:=uC hb.box;clear hb;go_enter Tryz.func75,Tryz.ntmps75;go_wp2_with (fail);go_ret;exact⟨rfl,rfl⟩
theorem sH {w:World} {base g:Nat} {from_:Int} {L:List (Int×Int)} (h:RgV w base g from_ L):Calls Tryz.prog 76 #[.pointer (some ⟨g,0,none⟩)] w fun E w'=>E= .returned (.int .i64 L.length)/\w'=w:=by
 obtain⟨o,m,c,hh,B,hb,-⟩:=h;obtain⟨n,hn⟩:∃n,L.length=n:=⟨_,rfl⟩;rw[hn]at hb |-;obtain⟨c0,c1,c2,c3,c4,cf⟩:=uC hb.box;clear hb hn;go_enter Tryz.func76,Tryz.ntmps76;go_wp2_with (fail);go_ret;exact⟨rfl,rfl⟩
theorem qT {w:World} {base g:Nat} {o:Option Addr} {m c h n:Nat} {from_:Int} {B:List (Int×Int)} (hb:RgB w base g o m c h n from_ B) {i:Nat} (hi:i<=1048576) (hm:0<m):Calls Tryz.prog 162 #[.pointer (some ⟨g,0,none⟩), .int .i64 i] w fun E w'=>E= .returned (.int .i64 (((h+i) % m:Nat):Int))/\∃q,w'=w.drewN q:=by
 obtain⟨c0,c1,c2,c3,c4,cf⟩:=uC hb.box;have hh:h<m:=by rcases hb.hd with h0 | h0<;>omega
 have hmm:=hb.most;have hw1:IntKind.i64.wrap ((h:Int)+(i:Int))=((h+i:Nat):Int):=by rw[IntKind.wrap_i64];omega
 have hw2:Int.tmod ((h+i:Nat):Int) (m:Int)=(((h+i) % m:Nat):Int):=by rw[Int.tmod_eq_emod_of_nonneg (by omega)];rfl
 have hw3:((h:Int)+(i:Int)) % (m:Int)=(((h+i) % m:Nat):Int):=rfl;have hz:((m:Int)==0)=false:=by simp;omega
 have hz2:¬(m:Int)=0:=by omega
 clear hb;go_enter Tryz.func162,Tryz.ntmps162;go_wp2_with (fail);go_quiet (fail);go_wp2_with (fail);go_ret;exact⟨rfl,_,rfl⟩
def plV (p:Int×Int):Value:= .agg #[.int .i64 p.1, .int .i64 p.2]
def atF (L:List (Int×Int)) (from_ z:Int):(Int×Int)×Bool:=
 if from_<=z/\z-from_<L.length then(L.getD (z-from_).toNat (0,0),true)else((0,0),false)
theorem aAN {w:World} {base g:Nat} {from_:Int} {L:List (Int×Int)} (z:Int) (h:RgV w base g from_ L) (hf:0<=from_/\from_<=1099511627776) (hz: -1099511627776<=z/\z<=1099511627776):
  Calls Tryz.prog 222 #[.pointer (some ⟨g,0,none⟩), .int .i64 z] w fun E w'=>E= .returned (.tuple #[plV (atF L from_ z).1, .bool (atF L from_ z).2])/\Below w.heap.size w w':=by
 obtain⟨o,m,c,hh,B,hb,hat⟩:=h;obtain⟨n,hn⟩:∃n,L.length=n:=⟨_,rfl⟩;rw[hn]at hb;have hgl:=(Array.getElem?_eq_some_iff.1 hb.box).1;have hb2:=hb;have hx:(w.alloc (.cells #[.int .i64 0, .int .i64 0] 140)).heap[g]?=_:=(Below.heap_alloc w _ g hgl).trans hb.box
 obtain⟨c0',c1',c2',c3',c4',cf'⟩:=uC hb.box;obtain⟨c0,c1,c2,c3,c4,cf⟩:=uC hx;have hwr:IntKind.i64.wrap (z-from_)=z-from_:=by rw[IntKind.wrap_i64];omega
 by_cases hA:z<from_
 ·have gA:decide (z<from_)=true:=by simpa using hA
  have e:atF L from_ z=((0,0),false):=if_neg (fun h=>absurd h.1 (by omega));rw[e];clear hb hb2 hat hx e;go_enter Tryz.func222,Tryz.ntmps222;go_wp2_with (fail);go_quiet (fail);go_wp2_with (fail);refine bodyPost_ret (v:= .tuple #[.agg #[.int .i64 0, .int .i64 0], .bool false]) ?_ rfl ⟨rfl,?_⟩
  ·simp[results,Tryz.results222,go_sem]
  ·exact(((bA (aA w _) nq).setCell (p:=⟨w.heap.size,0,none⟩) (Nat.le_refl _) _).setCell (p:=⟨w.heap.size,1,none⟩) (Nat.le_refl _) _).alloc (by simp) _
 ·by_cases hB:(n:Int)<=z-from_
  ·have gA:decide (z<from_)=false:=by simp;omega
   have gA2:from_<=z:=by omega
   have gB:decide ((n:Int)<=z-from_)=true:=by simpa using hB
   have gB2:decide (z-from_>=(n:Int))=true:=by simp;omega
   have e:atF L from_ z=((0,0),false):=if_neg (fun h=>absurd h.2 (by omega));rw[e];clear hb hb2 hat hx e hA;go_enter Tryz.func222,Tryz.ntmps222;go_wp2_with (fail);go_quiet (fail);go_wp2_with (fail);refine bodyPost_ret (v:= .tuple #[.agg #[.int .i64 0, .int .i64 0], .bool false]) ?_ rfl ⟨rfl,?_⟩
   ·simp[results,Tryz.results222,go_sem]
   ·exact(((bA (aA w _) nq).setCell (p:=⟨w.heap.size,0,none⟩) (Nat.le_refl _) _).setCell (p:=⟨w.heap.size,1,none⟩) (Nat.le_refl _) _).alloc (by simp) _
  ·have gA:decide (z<from_)=false:=by simp;omega
   have gA2:from_<=z:=by omega
   have gB:decide ((n:Int)<=z-from_)=false:=by simp;omega
   have gB2:decide (z-from_>=(n:Int))=false:=by simp;omega
   obtain⟨i,hi⟩:∃i:Nat,z-from_=i:=⟨(z-from_).toNat,by omega⟩;have hil:i<L.length:=by omega
   have hm0:0<m:=by have:=hb.fits;omega
   have hml:=hb.most;have hfit:=hb.fits;have e:atF L from_ z=(L[i],true):=by
    unfold atF;rw[if_pos ⟨gA2,by omega⟩,hi];simp[List.getD,hil]
   rw[e];obtain⟨p,hp⟩:∃p,L[i]=p:=⟨_,rfl⟩;have hBi:=hat i hil;rw[hp]at hBi |-;obtain⟨k,hk⟩:∃k,(hh+i) % m=k:=⟨_,rfl⟩;have hkm:k<m:=by rw[<-hk];exact Nat.mod_lt _ hm0
   rw[hk]at hBi;obtain⟨o1,cc1,ev,hsl⟩:=hb.own.sl;obtain⟨e1,-,e2⟩:=Value.slice.inj ev;subst e1 e2;obtain⟨b,of,rfl,hci⟩:=hsl.elem lC (by omega) hBi;have d0:=hci 0 _ rfl;have d1:=hci 1 _ rfl;rw[Nat.add_zero]at d0;have gk:(k:Int)<(m:Int):=by omega
   have gk0:(0:Int)<=(k:Int):=by omega
   have HPL:Hid (∀W,Below w.heap.size w W->Calls Tryz.prog 162 #[.pointer (some ⟨g,0,none⟩), .int .i64 (z-from_)] W fun E w'=>E= .returned (.int .i64 (k:Int))/\∃q',w'=W.drewN q'):=hW_ (fun W hW=>by
    have:=qT (hb2.below hW) (i:=i) (by omega) hm0;rw[hk,<-hi]at this;exact this)
   have G0:=fun w' (hg:Below w.heap.size w w')=>eA hg _ _ c0'
   have G3:=fun w' (hg:Below w.heap.size w w')=>eA hg _ _ c3'
   have D0:=fun w' (hg:Below w.heap.size w w')=>eA hg _ _ d0
   have D1:=fun w' (hg:Below w.heap.size w w')=>eA hg _ _ d1
   have br:=Below.refl w.heap.size w;clear hb hb2 hat hx e hA hB hp hBi hsl ev hci hk hi;go_enter Tryz.func222,Tryz.ntmps222;go_wp2_with (fail);go_quiet (fail);go_wp2_with (fail)
   go_region_held3 (Below w.heap.size w) (first | (with_reducible assumption) | exact bA (aA w _) _ | exact(bA (aA w _) _).drew | exact bA (bA (aA w _) _) _ | exact((bA (aA w _) _).setCell (p:=⟨w.heap.size,0,none⟩) (Nat.le_refl _) _).setCell (p:=⟨w.heap.size,1,none⟩) (Nat.le_refl _) _) ((go_at_call 162;refine(HPL.out _ (by assumption)).mono ?_;rintro E w9 ⟨rfl,q9,rfl⟩))
   go_wp2_with (fail);refine bodyPost_ret (v:= .tuple #[plV p, .bool true]) ?_ rfl ⟨rfl,?_⟩
   ·simp[results,Tryz.results222,go_sem,plV]
   ·exact((bA (aA w _) _).setCell (p:=⟨w.heap.size,0,none⟩) (Nat.le_refl _) _).setCell (p:=⟨w.heap.size,1,none⟩) (Nat.le_refl _) _
structure xQ (w:World) (base g eb rb:Nat) (L:List (Int×Int)) (bs st keep com:Int):Prop where
 box:w.heap[g]?=some (.cells #[.pointer (some ⟨eb,0,none⟩), .pointer (some ⟨rb,0,none⟩), .int .i64 keep, .int .i64 com] 138)
 ev:w.heap[eb]?=some (.cells #[.int .i64 bs, .int .i64 st] 163)
 row:RgV w base rb bs L
 lo:base<=g/\base<=eb/\g≠eb/\g≠rb/\eb≠rb
 bd:0<=bs/\bs<=549755813888
theorem xQ.below {w w':World} {base g eb rb:Nat} {L:List (Int×Int)} {bs st keep com:Int} (h:xQ w base g eb rb L bs st keep com) (k:Below w.heap.size w w'):xQ w' base g eb rb L bs st keep com:=
 ⟨(k.block g (Array.getElem?_eq_some_iff.1 h.box).1).trans h.box,(k.block eb (Array.getElem?_eq_some_iff.1 h.ev).1).trans h.ev,h.row.below k,h.lo,h.bd⟩
theorem eH {w:World} {g:Nat} {a b c d:Value} {t:TypeId} (h:w.heap[g]?=some (.cells #[a,b,c,d] t)):w.cell? ⟨g,0,none⟩=some a/\w.cell? ⟨g,1,none⟩=some b/\w.cell? ⟨g,2,none⟩=some c/\w.cell? ⟨g,3,none⟩=some d/\∀o,w.frozen? ⟨g,o,none⟩=some false:=by
 simp[World.cell?,World.frozen?,h]
theorem iF {w:World} {g:Nat} {a b:Value} {t:TypeId} (h:w.heap[g]?=some (.cells #[a,b] t)):w.cell? ⟨g,0,none⟩=some a/\w.cell? ⟨g,1,none⟩=some b/\∀o,w.frozen? ⟨g,o,none⟩=some false:=by
 simp[World.cell?,World.frozen?,h]
theorem rW {w:World} {eb:Nat} {bs st:Int} (h:w.heap[eb]?=some (.cells #[.int .i64 bs, .int .i64 st] 163)):Calls Tryz.prog 153 #[.pointer (some ⟨eb,0,none⟩)] w fun E w'=>E= .returned (.int .i64 bs)/\w'=w:=by
 obtain⟨c0,c1,cf⟩:=iF h;clear h;go_enter Tryz.func153,Tryz.ntmps153;go_wp2_with (fail);go_ret;exact⟨rfl,rfl⟩
theorem T4 {w:World} {eb:Nat} {bs st:Int} (h:w.heap[eb]?=some (.cells #[.int .i64 bs, .int .i64 st] 163)):Calls Tryz.prog 125 #[.pointer (some ⟨eb,0,none⟩)] w fun E w'=>E= .returned (.int .i64 st)/\w'=w:=by
 obtain⟨c0,c1,cf⟩:=iF h;clear h;go_enter Tryz.func125,Tryz.ntmps125;go_wp2_with (fail);go_ret;exact⟨rfl,rfl⟩
theorem mX {w:World} {base g eb rb:Nat} {L:List (Int×Int)} {bs st keep com:Int} (h:xQ w base g eb rb L bs st keep com):Calls Tryz.prog 118 #[.pointer (some ⟨g,0,none⟩)] w fun E w'=>E= .returned (.int .i64 bs)/\w'=w:=by
 have H:=hW_ (rW h.ev);obtain⟨c0,c1,c2,c3,cf⟩:=eH h.box;clear h;go_enter Tryz.func118,Tryz.ntmps118;go_wp2_with (go_at_call 153;refine H.out.mono ?_;rintro E w' ⟨rfl,rfl⟩);go_ret;exact⟨rfl,rfl⟩
theorem M6 {w:World} {base g eb rb:Nat} {L:List (Int×Int)} {bs st keep com:Int} (h:xQ w base g eb rb L bs st keep com):Calls Tryz.prog 88 #[.pointer (some ⟨g,0,none⟩)] w fun E w'=>E= .returned (.int .i64 st)/\w'=w:=by
 have H:=hW_ (T4 h.ev);obtain⟨c0,c1,c2,c3,cf⟩:=eH h.box;clear h;go_enter Tryz.func88,Tryz.ntmps88;go_wp2_with (go_at_call 125;refine H.out.mono ?_;rintro E w' ⟨rfl,rfl⟩);go_ret;exact⟨rfl,rfl⟩
theorem I8 {w:World} {base g eb rb:Nat} {L:List (Int×Int)} {bs st keep com:Int} (h:xQ w base g eb rb L bs st keep com):Calls Tryz.prog 37 #[.pointer (some ⟨g,0,none⟩)] w fun E w'=>E= .returned (.int .i64 (bs+L.length))/\Below w.heap.size w w':=by
 have hl:L.length<=1048576:=by obtain⟨o,m,c,hh,B,hb,-⟩:=h.row;have:=hb.fits;have:=hb.most;omega
 have hbd:=h.bd;have hw:IntKind.i64.wrap (bs+(L.length:Int))=bs+L.length:=by rw[IntKind.wrap_i64];omega
 have HF:Hid (∀W,Below w.heap.size w W->Calls Tryz.prog 75 #[.pointer (some ⟨rb,0,none⟩)] W fun E w'=>E= .returned (.int .i64 bs)/\w'=W):=hW_ (fun W k=>bW (h.row.below k));have HL:Hid (∀W,Below w.heap.size w W->Calls Tryz.prog 76 #[.pointer (some ⟨rb,0,none⟩)] W fun E w'=>E= .returned (.int .i64 L.length)/\w'=W):=hW_ (fun W k=>sH (h.row.below k));obtain⟨c0,c1,c2,c3,cf⟩:=eH h.box;have br:=Below.refl w.heap.size w;have G1:=fun w' (hg:Below w.heap.size w w')=>eA hg _ _ c1
 clear h hbd hl;go_enter Tryz.func37,Tryz.ntmps37;go_wp2_with (fail)
 go_region_held3 (Below w.heap.size w) (first | (with_reducible assumption) | exact br.drew | exact bA br _) (first
  | (go_at_call 75;refine(HF.out _ (by first | assumption | exact bA br _)).mono ?_;rintro E w' ⟨rfl,rfl⟩)
  | (go_at_call 76;refine(HL.out _ (by first | assumption | exact bA br _)).mono ?_;rintro E w' ⟨rfl,rfl⟩))
 all_goals go_wp2_with (fail)
 all_goals go_ret
 all_goals exact⟨rfl,by first | assumption | exact br.drew | exact bA br _⟩
theorem aAm {w:World} {base g eb rb:Nat} {L:List (Int×Int)} {bs st keep com:Int} (z:Int) (h:xQ w base g eb rb L bs st keep com) (hz: -1099511627776<=z/\z<=1099511627776):Calls Tryz.prog 198 #[.pointer (some ⟨g,0,none⟩), .int .i64 z] w fun E w'=>E= .returned (.int .i64 (if(atF L bs z).2=true then(atF L bs z).1.2 else st))/\Below w.heap.size w w':=by
 have hA:=aAN z h.row ⟨h.bd.1,by have:=h.bd.2;omega⟩ hz;obtain⟨⟨p,ok⟩,hat⟩:∃r,atF L bs z=r:=⟨_,rfl⟩;rw[hat]at hA |-;obtain⟨c0,c1,c2,c3,cf⟩:=eH h.box;have HEV:=hW_ h.ev;have HX:=hW_ h.box;have HA:=hW_ hA;clear h hA hat;go_enter Tryz.func198,Tryz.ntmps198;go_wp2_with (fail);refine HA.out.mono ?_
 rintro E w1 ⟨rfl,hb⟩;obtain⟨x,y⟩:=p;unfold plV;have hx1:=(hb.block g (Array.getElem?_eq_some_iff.1 HX.out).1).trans HX.out;have he1:=(hb.block eb (Array.getElem?_eq_some_iff.1 HEV.out).1).trans HEV.out;have hx2:(w1.alloc (.cells #[.int .i64 x, .int .i64 y] 140)).heap[g]?=_:=(Below.heap_alloc w1 _ g (Array.getElem?_eq_some_iff.1 hx1).1).trans hx1
 have he2:(w1.alloc (.cells #[.int .i64 x, .int .i64 y] 140)).heap[eb]?=_:=(Below.heap_alloc w1 _ eb (Array.getElem?_eq_some_iff.1 he1).1).trans he1
 obtain⟨d0,d1,d2,d3,df⟩:=eH hx2;obtain⟨e0,e1,ef⟩:=iF he2;have HB:=hW_ (hb.alloc hb.size (.cells #[.int .i64 x, .int .i64 y] 140));clear hb hx1 he1 hx2 he2 c0 c1 c2 c3 cf
 cases ok
 ·go_wp2_with (fail);go_ret;exact⟨rfl,HB.out⟩
 ·go_wp2_with (fail);go_ret;exact⟨rfl,HB.out⟩
def tI (L:List (Int×Int)) (st:Int):Int:=match L.getLast? with | some p=>p.2 | none=>st
theorem tot_at (L:List (Int×Int)) (bs st:Int):(if(atF L bs (bs+L.length-1)).2=true then(atF L bs (bs+L.length-1)).1.2 else st)=tI L st:=by
 unfold tI atF;rcases List.eq_nil_or_concat L with rfl | ⟨M,x,rfl⟩
 ·have c:¬(bs<=bs+(([]:List (Int×Int)).length:Int)-1/\bs+(([]:List (Int×Int)).length:Int)-1-bs<(([]:List (Int×Int)).length:Int)):=by simp only[List.length_nil];omega
  rw[if_neg c];rfl
 ·simp only[List.concat_eq_append,List.length_append,List.length_singleton];have c:bs<=bs+((M.length+1:Nat):Int)-1/\bs+((M.length+1:Nat):Int)-1-bs<((M.length+1:Nat):Int):=by omega
  have e:(bs+((M.length+1:Nat):Int)-1-bs).toNat=M.length:=by omega
  rw[if_pos c,e];simp[List.getD]
theorem M5 {w:World} {base g eb rb:Nat} {L:List (Int×Int)} {bs st keep com:Int} (h:xQ w base g eb rb L bs st keep com):Calls Tryz.prog 160 #[.pointer (some ⟨g,0,none⟩)] w fun E w'=>E= .returned (.int .i64 (tI L st))/\Below w.heap.size w w':=by
 have hl:L.length<=1048576:=by obtain⟨o,m,c,hh,B,hb,-⟩:=h.row;have:=hb.fits;have:=hb.most;omega
 have hbd:=h.bd;have H:=hW_ h;have HB:=hW_ hbd;have HL:=hW_ hl;have hw:IntKind.i64.wrap (bs+(L.length:Int)-1)=bs+L.length-1:=by rw[IntKind.wrap_i64];omega
 clear h hbd hl;go_enter Tryz.func160,Tryz.ntmps160;go_wp2_with (fail);refine(I8 H.out).mono ?_
 rintro E w1 ⟨rfl,hb1⟩;have HB1:=hW_ hb1;clear hb1;go_wp2_with (fail);refine(aAm _ (H.out.below HB1.out) (by have:=HB.out;have:=HL.out;omega)).mono ?_
 rintro E w2 ⟨rfl,hb2⟩;rw[tot_at];have HB2:=hW_ hb2;clear hb2;go_wp2_with (fail);go_ret;exact⟨rfl,HB1.out.trans (HB2.out.mono HB1.out.size)⟩
section
variable {V:Vc} {N:List ByteArray}
def plc (V:Vc) (N:List ByteArray):Int->List Int->List (Int×Int)
 | _,[]=>[]
 | c,t::l=>(t,c+sO V N t)::plc V N (c+sO V N t) l
theorem uF:∀(c:Int) (W:List Int),(plc V N c W).length=W.length
 | _,[]=>rfl
 | c,t::l=>by unfold plc;rw[List.length_cons,List.length_cons,uF]
theorem aBZ:∀(c:Int) (W:List Int),(plc V N c W).map (·.1)=W
 | _,[]=>rfl
 | c,t::l=>by unfold plc;rw[List.map_cons,aBZ]
theorem aDc (t:Int) (l:List Int):pC V N (t::l)=sO V N t+pC V N l:=rfl
theorem pN:∀(c:Int) (W X:List Int),plc V N c (W++X)=plc V N c W++plc V N (c+pC V N W) X
 | c,[],X=>by show plc V N c X=_;rw[show c+((pC V N []:Nat):Int)=c by simp[pC]];rfl
 | c,t::l,X=>by
  show(t,_)::plc V N _ (l++X)=(t,_)::(plc V N _ l++_);rw[pN,aDc];congr 3;omega
theorem dY (c:Int) (W:List Int) (k:Nat):(plc V N c W).take k=plc V N c (W.take k):=by
 have e:=pN (V:=V) (N:=N) c (W.take k) (W.drop k);rw[List.take_append_drop]at e;have h:=uF (V:=V) (N:=N) c (W.take k);have h2:=uF (V:=V) (N:=N) c W
 by_cases hk:k<=W.length
 ·rw[e,List.take_left' (by rw[h,List.length_take];omega)]
 ·rw[List.take_of_length_le (show(plc V N c W).length<=k by omega),List.take_of_length_le (show W.length<=k by omega)]
theorem plc_drop (c:Int) (W:List Int) (k:Nat):(plc V N c W).drop k=plc V N (c+pC V N (W.take k)) (W.drop k):=by
 have e:=pN (V:=V) (N:=N) c (W.take k) (W.drop k);rw[List.take_append_drop]at e;have h:=uF (V:=V) (N:=N) c (W.take k);have h2:=uF (V:=V) (N:=N) c W
 by_cases hk:k<=W.length
 ·rw[e,List.drop_left' (by rw[h,List.length_take];omega)]
 ·rw[List.drop_eq_nil_of_le (show(plc V N c W).length<=k by omega),List.drop_eq_nil_of_le (show W.length<=k by omega)];rfl
theorem xV (c:Int) (W:List Int):tI (plc V N c W) c=c+pC V N W:=by
 rcases List.eq_nil_or_concat W with rfl | ⟨M,x,rfl⟩
 ·show c=c+((pC V N []:Nat):Int);simp[pC]
 ·rw[List.concat_eq_append,pN,wI];unfold tI;rw[show plc V N (c+pC V N M) [x]= [(x,c+pC V N M+sO V N x)] from rfl,List.getLast?_concat];show c+_+_=_;rw[show pC V N [x]=sO V N x by simp[pC]];omega
end
def wA:List Int->List Int->Nat
 | a::A,b::B=>if a=b then wA A B+1 else 0
 | _,_=>0
theorem mG (A B:List Int):wA A B<=A.length/\wA A B<=B.length:=by
 induction A generalizing B with
 | nil=>simp[wA]
 | cons a A ih=>
  cases B with
  | nil=>simp[wA]
  | cons b B=>
   simp only[wA];split
   ·have:=ih B;simp;omega
   ·simp
theorem dV (A B:List Int):∀i,i<wA A B->ix A i=ix B i:=by
 induction A generalizing B with
 | nil=>simp[wA]
 | cons a A ih=>
  cases B with
  | nil=>simp[wA]
  | cons b B=>
   simp only[wA];split
   ·rename_i h;subst h;intro i hi
    cases i with
    | zero=>simp[ix]
    | succ i=>simpa[ix]using ih B i (by omega)
   ·simp
theorem wZ (A B:List Int):wA A B<A.length->wA A B<B.length->ix A (wA A B)≠ix B (wA A B):=by
 induction A generalizing B with
 | nil=>simp[wA]
 | cons a A ih=>
  cases B with
  | nil=>simp[wA]
  | cons b B=>
   simp only[wA];split
   ·intro h1 h2;simpa[ix]using ih B (by simpa using h1) (by simpa using h2)
   ·rename_i h;intro _ _;simpa[ix]using h
theorem mI {A B:List Int} {k:Nat} (hA:k<=A.length) (hB:k<=B.length) (h:∀i,i<k->ix A i=ix B i) (hs:k<A.length->k<B.length->ix A k≠ix B k):wA A B=k:=by
 have h1:=mG A B;rcases Nat.lt_trichotomy (wA A B) k with hlt | he | hgt
 ·exact absurd (h _ hlt) (wZ A B (by omega) (by omega))
 ·exact he
 ·exact absurd (dV A B k hgt) (hs (by omega) (by omega))
theorem xW {A B:List Int} {ao bo:Option Addr} {n m c d:Nat} (w:World) (hA:SlI w ao n c A) (hB:SlI w bo m d B):
  Calls Tryz.prog 154 #[.slice ao n c, .slice bo m d] w fun e w'=>∃k,e= .returned (.int .i64 (wA A B))/\w'=w.drewN k:=by
 have hmA:=Nat.le_trans hA.le hA.max;have hmB:=Nat.le_trans hB.le hB.max;have hlA:=hW_ hA.len;have hlB:=hW_ hB.len;unfold maxLen at hmA hmB;go_enter Tryz.func154,Tryz.ntmps154;go_wp2;go_loopw [5] (fun i wr=>∃k j:Nat,k<=n/\k<=m/\i= .int .i64 k/\(Hid (∀i,i<k->ix A i=ix B i))/\wr=w.drewN j) (fun i _=>n-(intOf i).toNat)
 case atStart=>exact⟨0,0,Nat.zero_le _,Nat.zero_le _,rfl,(fun i h=>by omega),rfl⟩
 case round=>
  obtain⟨k,j,hk,hk2,rfl,htk,rfl⟩:=hrel
  by_cases hlt:k<n
  ·by_cases hlt2:k<m
   ·obtain⟨b1,o1,rfl,c1⟩:=hA.at_ hlt;obtain⟨b2,o2,rfl,c2⟩:=hB.at_ hlt2
    by_cases he:ix A k=ix B k
    ·have he3:(ix A k==ix B k)=true:=by simpa using he
     have he2:=hW_ he;clear he;go_wp2;go_quiet (fail);go_wp2;go_roundw
     case rel=>exact⟨k+1,_,by omega,by omega,by go_num,(fun i h=>by by_cases e:i=k;(subst e;exact he2.out);exact htk.out i (by omega)),rfl⟩
     case measure=>simp[intOf];omega
    ·have he3:(ix A k==ix B k)=false:=by simpa using he
     have he2:=hW_ he;clear he;go_wp2;go_quiet (fail);go_wp2;go_ret;refine⟨_,C3 ?_,World.drewN_drewN ..⟩;rw[mI (by rw[hlA.out];exact hk) (by rw[hlB.out];exact hk2) htk.out (fun _ _=>he2.out)]
   ·go_wp2;go_quiet (fail);go_wp2;go_ret;refine⟨_,C3 ?_,World.drewN_drewN ..⟩;rw[mI (by rw[hlA.out];exact hk) (by rw[hlB.out];exact hk2) htk.out (fun _ h=>by rw[hlB.out]at h;omega)]
  ·go_wp2;go_quiet (fail);go_wp2;go_ret;refine⟨_,C3 ?_,World.drewN_drewN ..⟩;rw[mI (by rw[hlA.out];exact hk) (by rw[hlB.out];exact hk2) htk.out (fun h _=>by rw[hlA.out]at h;omega)]
theorem Own.take {w:World} {base:Nat} {vo:Option Addr} {n c:Nat} {A:List Int} (h:Own w base (.slice vo n c) A) {k:Nat} (hk:k<=n):Own w base (.slice vo k c) (A.take k):=by
 obtain⟨hA,hc | ⟨g,cur,rfl,hg,hh,hn,hm,hl,ht⟩⟩:=h.block
 ·obtain⟨rfl,rfl,rfl⟩:=hc;obtain rfl:k=0:=by omega
  simpa using Own.nil w base
 ·refine Own.mk hg hh (by omega) hm hl (by simp;omega) ?_
  rw[List.map_take,<-ht,List.take_take,Nat.min_eq_left hk]
theorem aDi {P:Program} (w:World) (t:TypeId) (i:TypeInfo) (ht:P.underlying t=some (.slice 3)) (hti:P.underlying 3=some (.int .i64)) (hi:P.info? 3=some i) (hz:i.zero=some (.int .i64 0)) (hs:i.size=1) (hb:i.bytes=8)
  (n:Nat) (h0:0<n) (hn:n*8<=140737488355328):
  ∃c,(∀ty,(Builtin.append_ #[t,3] ty #[.slice none 0 0, .int .i64 n]).run P w= .ok (.slice (some ⟨w.heap.size,0,none⟩) n c) (w.drew.alloc (.cells (Builtin.zeroCells (Value.int .i64 0).cells n++Builtin.zeroCells (Value.int .i64 0).cells (c-n)) 3)))/\n<=c/\c<=maxLen:=by
 refine⟨grownCap w n 0 3,fun ty=> ?_,grownCap_ge _ _ _ _,grownCap_le_maxLen _ _ _ _ (by unfold maxLen;omega)⟩;have hn0:n≠0:=by omega
 have wl:IntKind.i64.wrap (n:Int)=n:=by rw[IntKind.wrap_i64];omega
 have h63':¬(9223372036854775807<(n:Int)):=by omega
 have h48':¬(281474976710656<Builtin.nextslicecap n 0*i.bytes):=by rw[nextslicecap_zero h0,hb];omega
 have h48'':¬(281474976710656<(n:Int)*i.bytes):=by rw[hb];omega
 have hneg:¬((n:Int)<0):=by omega
 simp[Builtin.append_,run_underlying ht,run_underlying hti,sizeOf,typeInfo,zeroValue,hi,hz,hs,asInt,asIntOf,wl,hn0,h63',h48',h48'',hneg,Question.forced,run_firstCells_none,newRow,grownCap]
theorem aDo (w:World) (n c:Nat) (hn:n<=c) (hc:c<=maxLen):
  Own (w.drew.alloc (.cells (Builtin.zeroCells (Value.int .i64 0).cells n++Builtin.zeroCells (Value.int .i64 0).cells (c-n)) 3)) w.heap.size (.slice (some ⟨w.heap.size,0,none⟩) n c) (List.replicate n 0):=by
 have e:∀k,(Builtin.zeroCells (Value.int .i64 0).cells k).toList=List.replicate k (Value.int .i64 0):=by
  intro k;have:=toList_madeCells_one (Value.int .i64 0) k;simpa[madeCells,Builtin.zeroCells,Value.cells]using this
 refine Own.mk (cur:=List.replicate n (Value.int .i64 0)++List.replicate (c-n) (Value.int .i64 0)) (Nat.le_refl _) ?_ hn hc (by simp;omega) (by simp) (by simp)
 have e2:(Builtin.zeroCells (Value.int .i64 0).cells n++Builtin.zeroCells (Value.int .i64 0).cells (c-n))=(List.replicate n (Value.int .i64 0)++List.replicate (c-n) (Value.int .i64 0)).toArray:=by
  apply Array.ext';simp only[Array.toList_append,e]
 rw[e2];exact heap_alloc_new w.drew _
theorem grow_nil (n:Nat) (w:World) (hn:n*8<=140737488355328):
  Calls Tryz.prog 114 #[.slice none 0 0, .int .i64 n] w fun e w'=>∃vo vc,e= .returned (.slice vo 0 vc)/\Own w' w.heap.size (.slice vo 0 vc) []/\Below w.heap.size w w':=by
 obtain⟨i0,hi,hz0,hz1,hz2⟩:=info_parts Q3
 by_cases h0:n=0
 ·subst h0;go_enter Tryz.func114,Tryz.ntmps114;go_wp2;go_ret;exact⟨_,_,rfl,Own.nil _ _,Below.refl _ _⟩
 ·have hpos:(0:Int)<(n:Int):=by omega
  obtain⟨c,hr,hc1,hc2⟩:=aDi (P:=Tryz.prog) w 34 i0 Tryz.underlying34 Tryz.underlying3 hi hz0 hz1 hz2 n (by omega) hn;obtain⟨W,hW⟩:∃W,W=(w.drew.alloc (.cells (Builtin.zeroCells (Value.int .i64 0).cells n++Builtin.zeroCells (Value.int .i64 0).cells (c-n)) 3)):=⟨_,rfl⟩;have ho:=aDo w n c hc1 hc2;have hb:Below w.heap.size w W:=by rw[hW];exact((Below.refl _ _).drew).alloc (Nat.le_refl _) _
  rw[<-hW]at hr ho;have hS:SlI W (some ⟨w.heap.size,0,none⟩) n c (List.replicate n 0):=by
   obtain⟨ao,cap,e,h⟩:=ho.sl;simp at e;obtain⟨rfl,rfl⟩:=e;simpa using h
  have HR:=hW_ hr;clear hr;have HW:=hW_ hW;clear hW;go_enter Tryz.func114,Tryz.ntmps114;go_wp2_with (first
   | (with_reducible show wpList _ _ _ (⟨_, .call {callee:= .builtin .append,args:=_,argTypes:=_},_,_,_,_⟩::_) _ _;refine M4 rfl (.tmp 20) (.tmp 21) 34 3 rfl (v1:= .slice none 0 0) (v2:= .int .i64 n) rfl rfl HR.out ?_)
   | (with_reducible show wpList _ _ _ (⟨_, .slice _ (.tmp 22) none (some _) none,_,_,_,_⟩::_) _ _;refine gQ rfl 34 (.tmp 22) (.tmp 24) rfl 3 i0 Tryz.underlying34 hi hz1 (k:=0) rfl hS rfl rfl (by omega) ?_;intro hb'))
  go_ret;exact⟨_,_,rfl,by simpa using ho.take (Nat.zero_le n),hb⟩
theorem wW {R:List (List Int)} {ao:Option Addr} {n c:Nat} (w:World) (hR:aG w ao n c R) (hreach:R.flatten.length*8<=140737488355328):
  Calls Tryz.prog 79 #[.slice ao n c] w fun e w'=>∃v,e= .returned v/\Own w' w.heap.size v R.flatten/\Below w.heap.size w w':=by
 have hm:=Nat.le_trans hR.le hR.max;unfold maxLen at hm;have hlR:=hW_ hR.len;obtain⟨i0,hi,hz0,hz1,hz2⟩:=info_parts Q3;go_enter Tryz.func79,Tryz.ntmps79;go_wp2;go_loop [3,11] (fun t i=>∃k:Nat,k<=n/\i= .int .i64 k/\t= .int .i64 (tot R k)) (fun _ i=>n-(intOf i).toNat)
 case atStart=>exact⟨0,Nat.zero_le _,rfl,by rw[tot_zero];rfl⟩
 case round=>
  obtain⟨k,hk,rfl,rfl⟩:=hrel;have ht:=aAq R k
  by_cases hlt:k<n
  ·have hts:=hW_ (tot_succ (R:=R) (k:=k) (by rw[hlR.out];exact hlt));have ht1:=aAq R (k+1);obtain⟨b,o,ra,rc,rfl,hcell,hrow⟩:=hR.at_ k hlt;have hrl:(rx R k).length<=9223372036854775807:=by have:=Nat.le_trans (Sl.le hrow) (Sl.max hrow);unfold maxLen at this;omega
   have hrl2:tot R k+(rx R k).length<=R.flatten.length:=by rw[<-hts.out];exact ht1
   go_wp2;go_round
   case rel=>exact⟨k+1,by omega,by go_num,by rw[hts.out];go_num⟩
   case measure=>simp[intOf];omega
  ·obtain rfl:k=n:=by omega
   have hall:tot R k=R.flatten.length:=by rw[<-hlR.out];exact tot_all R
   have Hall:=hW_ hall;clear hall;go_wp2_with (go_at_call 114;refine(grow_nil _ _ (by omega)).mono ?_;rintro e w1 ⟨vo,vc,rfl,ho1,hb1⟩);go_loopw [6,27] (fun v i wr=>∃j:Nat,j<=k/\i= .int .i64 j/\Own wr w.heap.size v (R.take j).flatten/\Below w.heap.size w wr) (fun _ i _=>k-(intOf i).toNat)
   case atStart=>exact⟨0,Nat.zero_le _,rfl,by simpa using ho1,hb1⟩
   case round=>
    obtain⟨j,hj,rfl,ho,hb⟩:=hrel
    by_cases hlt2:j<k
    ·have hfs:=hW_ (bV (R:=R) (k:=j) (by rw[hlR.out];exact hlt2));obtain⟨b,o,ra,rc,rfl,hcell,hrow⟩:=(hR.below hb).at_ j hlt2;have hb3:=aAq R (j+1);unfold tot at hb3;rw[hfs.out,List.length_append]at hb3;go_wp2_with (at_builtin;refine J7 rfl _ _ 34 rfl i0 Tryz.underlying34 hi hz0 hz1 hz2 rfl ho rfl hrow (by omega) hb.size ?_;intro v' w' ho' hg' hb');go_roundw
     case rel=>exact⟨j+1,by omega,by go_num,by rw[hfs.out];exact ho',hb.trans hb'⟩
     case measure=>simp[intOf];omega
    ·obtain rfl:j=k:=by omega
     go_wp2;go_ret;exact⟨_,rfl,by have:=hlR.out;subst this;simpa using ho,hb⟩
theorem rS {R:List (List Int)} {ao:Option Addr} {n c L:Nat} (w:World) (hR:aG w ao n c R) (hL:R.flatten.length=L) (hreach:L*8<=140737488355328):
  Calls Tryz.prog 79 #[.slice ao n c] w fun e w'=>∃vo vc,e= .returned (.slice vo L vc)/\Own w' w.heap.size (.slice vo L vc) R.flatten/\Below w.heap.size w w':=by
 subst hL;refine(wW w hR hreach).mono fun e w' ⟨v,he,ho,hb⟩=> ?_
 obtain⟨vo,vc,rfl,_⟩:=ho.sl;exact⟨vo,vc,he,ho,hb⟩
structure Stp where
 fin:Nat
 toks:Nat
 need:Nat
def Stp.enc (s:Stp):List Value:=[.int .i64 s.fin, .int .i64 s.toks, .int .i64 s.need]
theorem Stp.enc_len:∀s:Stp,s.enc.length=3:=fun _=>rfl
section
variable {V:Vc} {N:List ByteArray} {kind:Int} {T:List Rg}
structure oI (V:Vc) (N:List ByteArray) (kind:Int) (T:List Rg) (A:List Int) (a t:Nat) (s:Stp):Prop where
 need:s.need<=A.length
 bd:Bd V N kind T (A.take s.need) s.fin s.toks
 fin:a<=s.fin
 toks:t<=s.toks
theorem oI.keep {A A':List Int} {a t m:Nat} {s:Stp} (h:oI V N kind T A a t s) (hs:s.need<=m) (hA:A'.take m=A.take m) (hm:m<=A'.length):oI V N kind T A' a t s:=by
 refine⟨by omega,?_,h.fin,h.toks⟩;have e:A'.take s.need=A.take s.need:=by
  have h2:=congrArg (List.take s.need) hA;rw[List.take_take,List.take_take,Nat.min_eq_left hs]at h2;exact h2
 rw[e];exact h.bd
theorem bd_up {A:List Int} {k m n c:Nat} (hA:mA V N A=0) (hkm:k<=m) (h:Bd V N kind T (A.take k) n c):Bd V N kind T (A.take m) n c:=by
 have e:A.take m=A.take k++(A.take m).drop k:=by
  conv=>lhs;rw[<-List.take_append_drop k (A.take m)]
  rw[List.take_take,Nat.min_eq_left hkm]
 rw[e];exact aCG h (nA (nA hA m).1 k).2
structure From (V:Vc) (N:List ByteArray) (kind:Int) (T:List Rg) (A:List Int) (a t m:Nat) (s:Stp):Prop where
 bd:Bd V N kind T (A.take m) s.fin s.toks
 fin:a<=s.fin/\s.fin<=m
 toks:t<=s.toks
def wJ (S:List Stp) (a t:Nat):Stp:=S.getLast?.getD ⟨a,t,0⟩
theorem aDG {A:List Int} {S:List Stp} {a t f m:Nat} (hA:mA V N A=0) (hf:f<=m) (hm:m<=A.length) (ha:a<=f) (hb:Bd V N kind T (A.take f) a t) (hS:∀s∈S,oI V N kind T A a t s):
  From V N kind T A a t m (wJ (S.filter (fun s=>decide (s.need<=m))) a t):=by
 unfold wJ
 cases h:(S.filter (fun s=>decide (s.need<=m))).getLast? with
 | none=>exact⟨bd_up hA hf hb,⟨Nat.le_refl _,Nat.le_trans ha hf⟩,Nat.le_refl _⟩
 | some s=>
  have hs:=List.mem_of_getLast? h;obtain⟨h1,h2⟩:=List.mem_filter.1 hs;have h2:s.need<=m:=by simpa using h2
  have hk:=hS s h1;have hl:=hk.bd.1;rw[List.length_take]at hl;exact⟨bd_up hA h2 hk.bd,⟨hk.fin,by show s.fin<=m;omega⟩,hk.toks⟩
theorem From.part {A B:List Int} {a t m:Nat} {s:Stp} (hA:mA V N A=0) (hm:m<=A.length) (h:From V N kind T A a t m s) (hB:mA V N B=0):
  ∃R:List Int,R.length=s.toks/\pC V N R=s.fin/\B5 V N kind T A=R++B5 V N kind T (A.drop s.fin)/\B5 V N kind T (A.take m++B)=R++B5 V N kind T ((A.take m++B).drop s.fin)/\Bd V N kind T (A.take m++B) s.fin s.toks:=by
 obtain⟨hn,R,hR,hd,ht⟩:=h.bd;have hs:=oG (V:=V) (N:=N) (W:=R) (by rw[hd]);rw[hd]at hs;simp only[List.length_take]at hs hn;refine⟨R,hR,by omega,?_,?_,aCG h.bd hB⟩
 ·have:=ht (A.drop m) (nA hA m).2;rw[List.take_append_drop]at this;rw[this,<-List.drop_append_of_le_length (by rw[List.length_take];omega),List.take_append_drop]
 ·rw[ht B hB,List.drop_append_of_le_length (by rw[List.length_take];omega)]
theorem aDd (hV:May V) (hN:dB N) (hT:oA T) (hk:0<=kind/\kind<=3) {A:List Int} {a t n k:Nat} (hA:mA V N A=0) (hb:Bd V N kind T A n k) (ha:a<=n) (ht:t<=k) {qs:List (Int×Bool)} (hq:qs <+:zB (zA kind T (A.drop n) false)):
  oI V N kind T A a t ⟨n+kC qs,k+(yA V N qs (A.drop n)).length,A.length⟩:=
 ⟨Nat.le_refl _,by rw[List.take_length];exact aCF hV hN hT hk hA hb hq,by show a<=n+kC qs;omega,by show t<=k+_;omega⟩
structure TkI (V:Vc) (N:List ByteArray) (kind:Int) (T:List Rg) (A W:List Int) (f a t bs st keep:Nat) (e:Bool) (S:List Stp) (Sv:List Int):Prop where
 chk:mA V N A=0
 view:W=B5 V N kind T A
 fix:f<=A.length
 at_:a<=f
 toks:t<=W.length/\pC V N (W.take t)=a
 bd:e=false->Bd V N kind T (A.take f) a t
 base:bs=t-keep
 start:st=pC V N (W.take bs)
 steps:e=false->∀s∈S,oI V N kind T A a t s
 saves:Sv.Pairwise (· <=·)/\∀x∈Sv,(f:Int)<=x/\x<=A.length
theorem V1 {W:List Int} {i j:Nat} (h:i<=j):pC V N (W.take i)<=pC V N (W.take j):=by
 have e:W.take j=W.take i++(W.take j).drop i:=by
  conv=>lhs;rw[<-List.take_append_drop i (W.take j)]
  rw[List.take_take,Nat.min_eq_left h]
 rw[e,wI];omega
theorem TkI.st_le {A W:List Int} {f a t bs st keep:Nat} {e:Bool} {S:List Stp} {Sv:List Int} (h:TkI V N kind T A W f a t bs st keep e S Sv):st<=a:=by
 rw[h.start,<-h.toks.2];exact V1 (by rw[h.base];omega)
theorem TkI.turned {A W:List Int} {f a t bs st keep:Nat} {S S':List Stp} {Sv Sv':List Int} (h:TkI V N kind T A W f a t bs st keep false S Sv) {m:Nat} (hf:f<=m) (hm:m<=A.length) {B:List Int} (hB:mA V N B=0)
  (hS:∀s∈S',oI V N kind T (A.take m++B) a t s) (hv:Sv'.Pairwise (· <=·)/\∀x∈Sv',(f:Int)<=x/\x<=m):
  TkI V N kind T (A.take m++B) (B5 V N kind T (A.take m++B)) f a t bs st keep false S' Sv':=by
 have hl:(A.take m).length=m:=by rw[List.length_take];omega
 have e1:(A.take m++B).take f=A.take f:=by rw[List.take_append_of_le_length (by omega),List.take_take,Nat.min_eq_left hf]
 obtain⟨hn,R,hR,hd,ht⟩:=h.bd rfl;have hs:=oG (V:=V) (N:=N) (W:=R) (by rw[hd]);rw[hd,List.length_take,List.length_take]at hs;have hfl:f<=A.length:=h.fix;have haf:=h.at_;have v1:W=R++B5 V N kind T ((A.take f).drop a++A.drop f):=by
  rw[h.view];have:=ht (A.drop f) (nA h.chk f).2;rw[List.take_append_drop]at this;exact this
 have v2:B5 V N kind T (A.take m++B)=R++B5 V N kind T ((A.take f).drop a++(A.take m++B).drop f):=by
  have:=ht ((A.take m++B).drop f) (nA (jL (nA h.chk m).1 hB) f).2;rw[<-e1,List.take_append_drop,e1]at this;exact this
 have hbl:bs<=R.length:=by rw[hR,h.base];omega
 refine⟨jL (nA h.chk m).1 hB,rfl,by rw[List.length_append,hl];omega,h.at_,?_,fun _=>by rw[e1];exact h.bd rfl,h.base,?_,fun _=>hS,hv.1,fun x hx=>⟨(hv.2 x hx).1,by have:=(hv.2 x hx).2;rw[List.length_append,hl];omega⟩⟩
 ·rw[v2];refine⟨by rw[List.length_append];omega,?_⟩;rw[List.take_append_of_le_length (by omega),List.take_of_length_le (by omega)];omega
 ·rw[h.start,v1,v2,List.take_append_of_le_length hbl,List.take_append_of_le_length hbl]
end
theorem tw_ix {α:Type} {f:α->Bool}:∀{l:List α} {k:Nat} {x:α},l.filter f=l.takeWhile f->l[k]?=some x->(f x=true↔k<(l.takeWhile f).length)
 | [],k,x,_,h=>by simp at h
 | a::l,k,x,hf,h=>by
  cases ha:f a with
  | true=>
   rw[List.filter_cons_of_pos ha,List.takeWhile_cons,ha,if_pos rfl]at hf;rw[List.takeWhile_cons,ha,if_pos rfl,List.length_cons]
   cases k with
   | zero=>simp at h;subst h;simp[ha]
   | succ k=>
    rw[List.getElem?_cons_succ]at h;rw[tw_ix (List.cons.inj hf).2 h];omega
  | false=>
   rw[List.filter_cons_of_neg (by simp[ha]),List.takeWhile_cons,ha]at hf;rw[List.takeWhile_cons,ha];simp only[Bool.false_eq_true,if_false]at hf |-;refine⟨fun hx=> ?_,fun h=>by simp at h⟩
   cases k with
   | zero=>simp at h;subst h;rw[ha]at hx;cases hx
   | succ k=>
    rw[List.getElem?_cons_succ]at h;have:=List.mem_filter.2 ⟨List.mem_of_getElem? h,hx⟩;rw[hf]at this
    cases this
theorem dec_ix {kind:Int} {T:List Rg} {A:List Int} {f:Bool} {k:Nat} {p:Int×Bool} (h:(zA kind T A f)[k]?=some p):p.2=true↔k<(zB (zA kind T A f)).length:=
 tw_ix (f:=fun p:Int×Bool=>p.2) (by unfold zA;exact vK) h
theorem dec_pre {ps:List (Int×Bool)} {k:Nat} (h:k<(zB ps).length):ps.take (k+1) <+:zB ps:=by
 obtain⟨s,hs⟩:zB ps <+:ps:=List.takeWhile_prefix (fun p:Int×Bool=>p.2);have e:ps.take (k+1)=(zB ps).take (k+1):=by
  conv=>lhs;rw[<-hs]
  rw[List.take_append_of_le_length (by omega)]
 rw[e];exact List.take_prefix _ _
theorem fol_next {V:Vc} {N:List ByteArray} {ps:List (Int×Bool)} {k:Nat} {p:Int×Bool} (h:ps[k]?=some p) (R:List Int):
  kC (ps.take (k+1))=kC (ps.take k)+p.1.toNat/\yA V N (ps.take (k+1)) R=yA V N (ps.take k) R++eC V N ((R.drop (kC (ps.take k))).take p.1.toNat):=by
 have e:ps.take (k+1)=ps.take k++ [p]:=by rw[List.take_add_one,h];rfl
 rw[e,eK,sumP_app];refine⟨rfl,?_⟩;simp[yA]
theorem vZ {X Y:List Int} {c:Nat} (hc:wA X Y=c):X.take c=Y.take c:=by
 obtain⟨h1,h2⟩:=mG X Y;rw[hc]at h1 h2;apply List.ext_getElem?;intro i;rw[List.getElem?_take,List.getElem?_take];split
 ·rename_i hi;rw[gF (by omega),gF (by omega),dV X Y i (by omega)]
 ·rfl
theorem view_cut {W X Y R:List Int} {bs c:Nat} (hW:W=R++X) (hbs:bs<=R.length) (hc:wA X Y=c):(W.drop bs).take ((W.drop bs).length-(X.length-c))=(R++Y.take c).drop bs:=by
 obtain⟨h1,h2⟩:=mG X Y;rw[hc]at h1 h2;subst hW;rw[List.drop_append_of_le_length hbs,List.drop_append_of_le_length hbs,<-vZ hc,List.length_append,List.length_drop,List.take_append,List.length_drop];rw[List.take_of_length_le (by rw[List.length_drop];omega)];congr 2;omega
theorem aCR {Y R:List Int} {bs k:Nat} {y:Int} (hbs:bs<=R.length) (hy:Y[k]?=some y):(R++Y.take (k+1)).drop bs=(R++Y.take k).drop bs++ [y]:=by
 rw[List.drop_append_of_le_length hbs,List.drop_append_of_le_length hbs,List.take_add_one,hy,List.append_assoc];rfl
theorem plc_push {V:Vc} {N:List ByteArray} (c:Int) (U:List Int) (y:Int):plc V N c U++ [(y,tI (plc V N c U) c+sO V N y)]=plc V N c (U++ [y]):=by
 rw[xV,pN];rfl
theorem tot_view {V:Vc} {N:List ByteArray} {W Y:List Int} {bs k j fin:Nat} {st:Int} (hst:st=pC V N (W.take bs)) (hf:pC V N (W.take k)=fin) (hb:bs<=k) (hk:k<=W.length):tI (plc V N st ((W.take k++Y.take j).drop bs)) st=((fin+pC V N (Y.take j):Nat):Int):=by
 rw[xV,List.drop_append_of_le_length (by rw[List.length_take];omega),wI,hst];have e:W.take k=W.take bs++(W.take k).drop bs:=by
  conv=>lhs;rw[<-List.take_append_drop bs (W.take k)]
  rw[List.take_take,Nat.min_eq_left hb]
 have h2:=congrArg (pC V N) e;rw[wI]at h2;omega
theorem eN {ao:Option Addr} {n cap k:Nat} (hk:k<=n) {i0:TypeInfo} (hi:Tryz.prog.info? 3=some i0) (h1:i0.size=1):
  ∃so,(∀W,(Instr.sliceAt 34 (.slice ao n cap) (some (.int .i64 (k:Int))) none none).run Tryz.prog W= .ok (.slice so (n-k) (cap-k)) W)/\
   (∀W A,SlI W ao n cap A->SlI W so (n-k) (cap-k) (A.drop k))/\∀ad,so=some ad->∃ad0,ao=some ad0/\ad.block=ad0.block:=by
 refine⟨if cap=k then ao else ao.map (·.add k),fun W=> ?_,fun W A h=>h.drop hk,fun ad e=> ?_⟩
 ·have:=tA Tryz.underlying34 hi W ao n cap (some (.int .i64 k)) none k n (fun w=>by simp[Instr.sliceBounds,run_sliceBound,hk]);rw[h1,Nat.mul_one]at this;exact this
 ·split at e
  ·exact⟨ad,e,rfl⟩
  ·cases ao with
   | none=>cases e
   | some ad0=>
    simp only[Option.map_some,Option.some.injEq]at e;exact⟨ad0,rfl,by rw[<-e];unfold Addr.add;split<;>rfl⟩
theorem yU {ao:Option Addr} {n cap k:Nat} (hk:k<=n) (hn:n<=cap) {i0:TypeInfo} (hi:Tryz.prog.info? 3=some i0) (h1:i0.size=1):
  (∀W,(Instr.sliceAt 34 (.slice ao n cap) none (some (.int .i64 (k:Int))) none).run Tryz.prog W= .ok (.slice ao k cap) W)/\
   (∀W A,SlI W ao n cap A->SlI W ao k cap (A.take k)):=by
 refine⟨fun W=> ?_,fun W A h=>h.take hk⟩;have:=tA Tryz.underlying34 hi W ao n cap none (some (.int .i64 k)) 0 k (fun w=>by simp[Instr.sliceBounds,run_sliceBound,Nat.le_trans hk hn]);rw[h1,Nat.mul_one]at this;rw[this,Nat.sub_zero,Nat.sub_zero];have e:(if cap=0 then ao else ao.map (·.add 0))=ao:=by
  split
  ·rfl
  ·cases ao with
   | none=>rfl
   | some ad=>rfl
 rw[e]
end Go.Proofs.YtahiballegpbgaaGreatDoor
