/- Walk: scan.Next. -/
import Derived.Test.YtahiballegpbgaaGreatDoorR26
import Derived.Test.YtahiballegpbgaaGreatDoorR22
import Derived.Maps.AppendAt
set_option linter.unusedVariables false
set_option maxHeartbeats 2000000
set_option maxRecDepth 100000
namespace Go.Proofs.YtahiballegpbgaaGreatDoor
open Go.RowKit
theorem jR (L:List Pt):A8 L<=L.length:=(List.takeWhile_prefix _).length_le
theorem tO (T:List Rg) (b:List Int) (i:Nat):qE (pts T b) i=decide (i<A8 (pts T b)):=by
 by_cases h:i<(pts T b).length
 ·have:=wR (t:=T) b i _ (mF h);rw[yX h]
  cases hs:(ptC (pts T b) i).sure with
  | true=>exact(decide_eq_true (this.1 hs)).symm
  | false=>exact(decide_eq_false (fun h2=>by rw[this.2 h2]at hs;cases hs)).symm
 ·rw[rU h];have:=jR (pts T b);exact(decide_eq_false (by omega)).symm
theorem kY (T:List Rg) (b:List Int) (wide:Bool):(decide (cdC (pts T b) wide 0=39) && (!qE (pts T b) 2 && (!qE (pts T b) 1 || decide (N8 (cdC (pts T b) wide 1)))))=decide (D9 (pts T b) wide):=by
 rw[tO,tO];unfold D9
 by_cases h1:cdC (pts T b) wide 0=39<;>by_cases h2:2<A8 (pts T b)<;>by_cases h3:1<A8 (pts T b)<;>by_cases h4:N8 (cdC (pts T b) wide 1)<;>simp[h1,h2,h3,h4]<;>omega
theorem aAP (T:List Rg) (b:List Int):(pts T b).length<=b.length:=by
 have h1:=zV (pts_n1 (t:=T) b);rw[aBX]at h1;omega
theorem tD (L:List Pt):jB L 0=0:=by simp[jB]
theorem uD {L:List Pt} {i:Nat} (h:i<L.length):jB L (i+1)=jB L i+(ptC L i).n:=by
 unfold jB;rw[List.take_add_one,mF h];simp
def mC (kind:Int) (t:List Rg) (b:List Int) (final:Bool):Value:= .tuple #[.int .i64 (A5 kind t b final).1, .bool (A5 kind t b final).2]
theorem O3 (kind:Int) (T:List Rg) (b:List Int):qE (pts T b) ((iD kind (pts T b)).2-1)=decide ((iD kind (pts T b)).2<=A8 (pts T b)):=by
 have h:=(cO kind (pts T b)).2;rw[tO];congr 1;apply propext;omega
theorem cK (kind:Int) (L:List Pt):(iD kind L).2<=L.length+1:=by
 have hs:(qA L).2<=L.length+1:=by
  have:=aJ L 0;unfold qA;split<;>(simp only;omega)
 unfold iD;split
 ·unfold J8;have:=aJ L 0;have:=nsN_le L (spN L 0);simp;omega
 ·split
  ·unfold E4;have:=gL L false;have:=kE L 0;have:=kE L 1;have:=kE L 2
   repeat' split
   all_goals first
    | exact hs
    | (simp only;omega)
  ·unfold nH;have:=gL L true;have:=C2 L 0 1;have:=C2 L 0 2;have:=kE L 0;have:=C2 L (A7 L 0) 4;have:=I1 L (spN L 0);have:=aJ L 0
   repeat' split
   all_goals first
    | exact hs
    | (simp only;omega)
    | (rename_i h _ _ _;have:=C2 L 1 1;have:=zN h.2;simp only;omega)
    | (rename_i h;have:=C2 L 1 1;have:=zN h.2;simp only;omega)
theorem aAS {T:List Rg} {b:List Int} {bo to_:Option Addr} {bn bc tn tc:Nat} (kind:Int) (final:Bool) (w:World) (hB:SlB w bo bn bc b) (hx:∀x∈b,0<=x/\x<256) (h0:b≠[]) (hsz:bn<=1048575)
  (hR:SlF 3 w to_ tn tc (flat Rg.enc T)) (hT:oA T) (hk0:0<=kind) (hk3:kind<=3):
  Calls Tryz.prog 179 #[.int .i64 kind, .slice to_ tn tc, .slice bo bn bc, .bool final] w fun e w'=>e= .returned (mC kind T b final)/\Below w.heap.size w w':=by
 have hlb:=hB.len;have hbn:0<bn:=by
  rcases Nat.eq_zero_or_pos bn with h | h
  ·rw[h]at hlb;exact absurd (List.eq_nil_of_length_eq_zero hlb) h0
  ·exact h
 have hbe:((bn:Int)==0)=false:=by simp;omega
 have hmay:=E8 w hR;have HB:=hW_ hB;have HX:=hW_ hx;have HR:=hW_ hR;have HT:=hW_ hT;have HLB:=hW_ hlb;have HLP:Hid ((pts T b).length<=1048575):=hW_ (by have:=aAP T b;omega);clear hB hx h0 hR hT hlb;go_enter Tryz.func179,Tryz.ntmps179;go_wp2_with (fail);refine hmay.mono ?_
 rintro e w1 ⟨⟨bb,rfl,hbb⟩,hb1⟩;obtain rfl:bb=true:=hbb.2 HT.out;have HB1:=hW_ hb1;clear hbb hb1 hmay
 by_cases hkz:kind=0
 ·subst hkz;go_wp2_with (fail);refine bodyPost_ret (v:=mC 0 T b final) ?_ rfl ⟨rfl,HB1.out.alloc HB1.out.size _⟩
  have HNV:Hid (mC 0 T b final= .tuple #[.int .i64 (bn:Nat), .bool final]):=hW_ (by unfold mC A5;rw[if_pos rfl,HLB.out]);rw[HNV.out];simp[results,Tryz.results179,go_sem]
 have mk:∀wide:Bool,RdS w1 (w1.alloc (.cells #[.slice bo bn bc, .slice to_ tn tc, .slice none 0 0, .bool false, .bool wide] 270)) w1.heap.size T wide (pts T b) 0:=fun wide=>
  ⟨.slice none 0 0,⟨bo,bn,bc,b,false,to_,tn,tc,heap_alloc_new w1 _,SlB.below HB.out HB1.out,HX.out,rfl,SlF.below HR.out HB1.out⟩,by simpa using iA.nil (w1.alloc (.cells #[.slice bo bn bc, .slice to_ tn tc, .slice none 0 0, .bool false, .bool wide] 270)) w1.heap.size,(fun e=>by cases e),Nat.zero_le _,(by have:=HLP.out;omega),Nat.le_refl _,aA w1 _⟩
 by_cases hk1:kind=1
 ·subst hk1;obtain⟨W,hW⟩:∃W,w1.alloc (.cells #[.slice bo bn bc, .slice to_ tn tc, .slice none 0 0, .bool false, .bool false] 270)=W:=⟨_,rfl⟩;have hn0:=mk false;rw[hW]at hn0;have HW:=hW_ hW;clear mk hW;have hcut:=aAc W hn0 HT.out;rw[show J8 (pts T b)=iD 1 (pts T b) from rfl]at hcut;unfold nL at hcut;obtain⟨n,hn⟩:∃n,(iD 1 (pts T b)).1=n:=⟨_,rfl⟩;obtain⟨rc,hrc⟩:∃n,(iD 1 (pts T b)).2=n:=⟨_,rfl⟩;have HNV:Hid (mC 1 T b final= .tuple #[.int .i64 (jB (pts T b) n), .bool (final || (decide (rc<=A8 (pts T b)) && (decide ((1:Int)=1) || !decide (D9 (pts T b) false))))]):=hW_ (by
   unfold mC A5;rw[if_neg (by omega),hn,hrc];rfl)
  have hnL:n<=(pts T b).length:=by rw[<-hn];exact(cO 1 (pts T b)).1
  have hrL:rc<=1048576:=by have:=cK 1 (pts T b);have:=HLP.out;omega
  have HSU:Hid (qE (pts T b) (rc-1)=decide (rc<=A8 (pts T b))):=hW_ (by rw[<-hrc];exact O3 1 T b);rw[hn,hrc]at hcut;clear hn hrc hn0;go_wp2_with (fail);rw[HW.out];refine hcut.mono ?_
  rintro e w2 ⟨rfl,k2,hs2,_,hk2⟩;clear hcut
  cases final with
  | true=>
   obtain⟨L,hL⟩:∃L,pts T b=L:=⟨_,rfl⟩;rw[hL]at HNV hs2 hk2 hnL HLP;have HNV2:Hid (mC 1 T b true= .tuple #[.int .i64 (jB L n), .bool true]):=hW_ (by rw[HNV.out];rfl);have HSB:Hid (∀i,0<=jB L i/\jB L i<=1048575):=hW_ (fun i=>by rw[<-hL];have:=tF (t:=T) b i;have:=HLB.out;omega);clear hL;have hkn:n<=k2:=by omega
   have hn20:n<=1048576:=by have:=HLP.out;omega
   have hbl:Below w1.heap.size w1 w2:=by
    obtain⟨v,hv⟩:=hs2;exact hv.below
   have HBW:Hid (Below w.heap.size w w2):=hW_ (HB1.out.trans (hbl.mono HB1.out.size));obtain⟨ro,tv,vo,vc,op,hx,hsl,hkL⟩:=RdS.row hs2;obtain⟨g0,g1,g2,g3,g4,gf⟩:=aF hx;have HSL:=hW_ hsl;clear hbl hs2 hx hsl;go_wp2_with (fail);go_loop [15,70] (fun v i=>∃j:Nat,i= .int .i64 j/\j<=n/\v= .int .i64 (jB L j)) (fun _ i=>n-(intOf i).toNat)
   case atStart=>exact⟨0,rfl,by omega,by rw[tD]⟩
   case round=>
    obtain⟨j,rfl,hj,rfl⟩:=hrel
    by_cases hlt:j<n
    ·have gj:(j:Int)<(n:Int):=by omega
     have gk:(j:Int)<(k2:Int):=by omega
     have hjL:j<L.length:=by omega
     have hel:(L.take k2)[j]?=some (ptC L j):=by rw[List.getElem?_take,if_pos (by omega)];exact mF hjL
     obtain⟨bb,oo,hao,hce⟩:=HSL.out.elem Pt.enc_len (by omega) hel;subst hao;have d2:=hce 2 _ rfl;have HNX:=hW_ (uD hjL);have hb0:=HSB.out j;have hb1:=HSB.out (j+1);rw[HNX.out]at hb1;obtain⟨sv,hsv⟩:∃sv,jB L j=sv:=⟨_,rfl⟩;obtain⟨pn,hpn⟩:∃pn,(ptC L j).n=pn:=⟨_,rfl⟩;rw[hsv,hpn]at hb1 HNX;rw[hsv]at hb0 |-;rw[hpn]at d2;obtain⟨x0,x1⟩:=hb0;obtain⟨y0,y1⟩:=hb1;clear hel hce hsv hpn hjL;go_wp2_with (fail);go_round
     case rel=>exact⟨j+1,by go_num,by omega,by rw[HNX.out]⟩
     case measure=>simp[intOf];omega
    ·obtain rfl:j=n:=by omega
     go_wp2_with (fail);refine bodyPost_ret (v:=mC 1 T b true) ?_ rfl ⟨rfl,HBW.out⟩
     rw[HNV2.out];simp[results,Tryz.results179,go_sem]
  | false=>
   have h3:=nG rc w2 hs2 HT.out hrL;rw[HSU.out]at h3;obtain⟨s,hs⟩:∃s,decide (rc<=A8 (pts T b))=s:=⟨_,rfl⟩;rw[hs]at h3 HNV;clear hs
   cases s with
   | false=>
    have HNV2:Hid (mC 1 T b false= .tuple #[.int .i64 (jB (pts T b) n), .bool false]):=hW_ (by rw[HNV.out];rfl);clear hs2;go_wp2_with (fail);refine h3.mono ?_
    rintro e w3 ⟨rfl,k3,hs3,hk3,_⟩;clear h3;obtain⟨L,hL⟩:∃L,pts T b=L:=⟨_,rfl⟩;rw[hL]at HNV2 hs3 hk2 hnL HLP;have HSB:Hid (∀i,0<=jB L i/\jB L i<=1048575):=hW_ (fun i=>by rw[<-hL];have:=tF (t:=T) b i;have:=HLB.out;omega);clear hL;have hkn:n<=k3:=by omega
    have hn20:n<=1048576:=by have:=HLP.out;omega
    have hbl:Below w1.heap.size w1 w3:=by
     obtain⟨v,hv⟩:=hs3;exact hv.below
    have HBW:Hid (Below w.heap.size w w3):=hW_ (HB1.out.trans (hbl.mono HB1.out.size));obtain⟨ro,tv,vo,vc,op,hx,hsl,hkL⟩:=RdS.row hs3;obtain⟨g0,g1,g2,g3,g4,gf⟩:=aF hx;have HSL:=hW_ hsl;clear hbl hs3 hx hsl;go_wp2_with (fail);go_loop [15,70] (fun v i=>∃j:Nat,i= .int .i64 j/\j<=n/\v= .int .i64 (jB L j)) (fun _ i=>n-(intOf i).toNat)
    case atStart=>exact⟨0,rfl,by omega,by rw[tD]⟩
    case round=>
     obtain⟨j,rfl,hj,rfl⟩:=hrel
     by_cases hlt:j<n
     ·have gj:(j:Int)<(n:Int):=by omega
      have gk:(j:Int)<(k3:Int):=by omega
      have hjL:j<L.length:=by omega
      have hel:(L.take k3)[j]?=some (ptC L j):=by rw[List.getElem?_take,if_pos (by omega)];exact mF hjL
      obtain⟨bb,oo,hao,hce⟩:=HSL.out.elem Pt.enc_len (by omega) hel;subst hao;have d2:=hce 2 _ rfl;have HNX:=hW_ (uD hjL);have hb0:=HSB.out j;have hb1:=HSB.out (j+1);rw[HNX.out]at hb1;obtain⟨sv,hsv⟩:∃sv,jB L j=sv:=⟨_,rfl⟩;obtain⟨pn,hpn⟩:∃pn,(ptC L j).n=pn:=⟨_,rfl⟩;rw[hsv,hpn]at hb1 HNX;rw[hsv]at hb0 |-;rw[hpn]at d2;obtain⟨x0,x1⟩:=hb0;obtain⟨y0,y1⟩:=hb1;clear hel hce hsv hpn hjL;go_wp2_with (fail);go_round
      case rel=>exact⟨j+1,by go_num,by omega,by rw[HNX.out]⟩
      case measure=>simp[intOf];omega
     ·obtain rfl:j=n:=by omega
      go_wp2_with (fail);refine bodyPost_ret (v:=mC 1 T b false) ?_ rfl ⟨rfl,HBW.out⟩
      rw[HNV2.out];simp[results,Tryz.results179,go_sem]
   | true=>
    have HNV2:Hid (mC 1 T b false= .tuple #[.int .i64 (jB (pts T b) n), .bool true]):=hW_ (by rw[HNV.out];rfl);clear hs2;go_wp2_with (fail);refine h3.mono ?_
    rintro e w3 ⟨rfl,k3,hs3,hk3,_⟩;clear h3;obtain⟨L,hL⟩:∃L,pts T b=L:=⟨_,rfl⟩;rw[hL]at HNV2 hs3 hk2 hnL HLP;have HSB:Hid (∀i,0<=jB L i/\jB L i<=1048575):=hW_ (fun i=>by rw[<-hL];have:=tF (t:=T) b i;have:=HLB.out;omega);clear hL;have hkn:n<=k3:=by omega
    have hn20:n<=1048576:=by have:=HLP.out;omega
    have hbl:Below w1.heap.size w1 w3:=by
     obtain⟨v,hv⟩:=hs3;exact hv.below
    have HBW:Hid (Below w.heap.size w w3):=hW_ (HB1.out.trans (hbl.mono HB1.out.size));obtain⟨ro,tv,vo,vc,op,hx,hsl,hkL⟩:=RdS.row hs3;obtain⟨g0,g1,g2,g3,g4,gf⟩:=aF hx;have HSL:=hW_ hsl;clear hbl hs3 hx hsl;go_wp2_with (fail);go_loop [15,70] (fun v i=>∃j:Nat,i= .int .i64 j/\j<=n/\v= .int .i64 (jB L j)) (fun _ i=>n-(intOf i).toNat)
    case atStart=>exact⟨0,rfl,by omega,by rw[tD]⟩
    case round=>
     obtain⟨j,rfl,hj,rfl⟩:=hrel
     by_cases hlt:j<n
     ·have gj:(j:Int)<(n:Int):=by omega
      have gk:(j:Int)<(k3:Int):=by omega
      have hjL:j<L.length:=by omega
      have hel:(L.take k3)[j]?=some (ptC L j):=by rw[List.getElem?_take,if_pos (by omega)];exact mF hjL
      obtain⟨bb,oo,hao,hce⟩:=HSL.out.elem Pt.enc_len (by omega) hel;subst hao;have d2:=hce 2 _ rfl;have HNX:=hW_ (uD hjL);have hb0:=HSB.out j;have hb1:=HSB.out (j+1);rw[HNX.out]at hb1;obtain⟨sv,hsv⟩:∃sv,jB L j=sv:=⟨_,rfl⟩;obtain⟨pn,hpn⟩:∃pn,(ptC L j).n=pn:=⟨_,rfl⟩;rw[hsv,hpn]at hb1 HNX;rw[hsv]at hb0 |-;rw[hpn]at d2;obtain⟨x0,x1⟩:=hb0;obtain⟨y0,y1⟩:=hb1;clear hel hce hsv hpn hjL;go_wp2_with (fail);go_round
      case rel=>exact⟨j+1,by go_num,by omega,by rw[HNX.out]⟩
      case measure=>simp[intOf];omega
     ·obtain rfl:j=n:=by omega
      go_wp2_with (fail);refine bodyPost_ret (v:=mC 1 T b false) ?_ rfl ⟨rfl,HBW.out⟩
      rw[HNV2.out];simp[results,Tryz.results179,go_sem]
 by_cases hk2:kind=2
 ·subst hk2;obtain⟨W,hW⟩:∃W,w1.alloc (.cells #[.slice bo bn bc, .slice to_ tn tc, .slice none 0 0, .bool false, .bool false] 270)=W:=⟨_,rfl⟩;have hn0:=mk false;rw[hW]at hn0;have HW:=hW_ hW;clear mk hW;have hcut:=fY W hn0 HT.out;rw[show E4 (pts T b)=iD 2 (pts T b) from rfl]at hcut;unfold nL at hcut;obtain⟨n,hn⟩:∃n,(iD 2 (pts T b)).1=n:=⟨_,rfl⟩;obtain⟨rc,hrc⟩:∃n,(iD 2 (pts T b)).2=n:=⟨_,rfl⟩;have HNV:Hid (mC 2 T b final= .tuple #[.int .i64 (jB (pts T b) n), .bool (final || (decide (rc<=A8 (pts T b)) && (decide ((2:Int)=1) || !decide (D9 (pts T b) false))))]):=hW_ (by
   unfold mC A5;rw[if_neg (by omega),hn,hrc];rfl)
  have hnL:n<=(pts T b).length:=by rw[<-hn];exact(cO 2 (pts T b)).1
  have hrL:rc<=1048576:=by have:=cK 2 (pts T b);have:=HLP.out;omega
  have HSU:Hid (qE (pts T b) (rc-1)=decide (rc<=A8 (pts T b))):=hW_ (by rw[<-hrc];exact O3 2 T b);rw[hn,hrc]at hcut;clear hn hrc hn0;go_wp2_with (fail);rw[HW.out];refine hcut.mono ?_
  rintro e w2 ⟨rfl,k2,hs2,_,hk2⟩;clear hcut
  cases final with
  | true=>
   obtain⟨L,hL⟩:∃L,pts T b=L:=⟨_,rfl⟩;rw[hL]at HNV hs2 hk2 hnL HLP;have HNV2:Hid (mC 2 T b true= .tuple #[.int .i64 (jB L n), .bool true]):=hW_ (by rw[HNV.out];rfl);have HSB:Hid (∀i,0<=jB L i/\jB L i<=1048575):=hW_ (fun i=>by rw[<-hL];have:=tF (t:=T) b i;have:=HLB.out;omega);clear hL;have hkn:n<=k2:=by omega
   have hn20:n<=1048576:=by have:=HLP.out;omega
   have hbl:Below w1.heap.size w1 w2:=by
    obtain⟨v,hv⟩:=hs2;exact hv.below
   have HBW:Hid (Below w.heap.size w w2):=hW_ (HB1.out.trans (hbl.mono HB1.out.size));obtain⟨ro,tv,vo,vc,op,hx,hsl,hkL⟩:=RdS.row hs2;obtain⟨g0,g1,g2,g3,g4,gf⟩:=aF hx;have HSL:=hW_ hsl;clear hbl hs2 hx hsl;go_wp2_with (fail);go_loop [15,70] (fun v i=>∃j:Nat,i= .int .i64 j/\j<=n/\v= .int .i64 (jB L j)) (fun _ i=>n-(intOf i).toNat)
   case atStart=>exact⟨0,rfl,by omega,by rw[tD]⟩
   case round=>
    obtain⟨j,rfl,hj,rfl⟩:=hrel
    by_cases hlt:j<n
    ·have gj:(j:Int)<(n:Int):=by omega
     have gk:(j:Int)<(k2:Int):=by omega
     have hjL:j<L.length:=by omega
     have hel:(L.take k2)[j]?=some (ptC L j):=by rw[List.getElem?_take,if_pos (by omega)];exact mF hjL
     obtain⟨bb,oo,hao,hce⟩:=HSL.out.elem Pt.enc_len (by omega) hel;subst hao;have d2:=hce 2 _ rfl;have HNX:=hW_ (uD hjL);have hb0:=HSB.out j;have hb1:=HSB.out (j+1);rw[HNX.out]at hb1;obtain⟨sv,hsv⟩:∃sv,jB L j=sv:=⟨_,rfl⟩;obtain⟨pn,hpn⟩:∃pn,(ptC L j).n=pn:=⟨_,rfl⟩;rw[hsv,hpn]at hb1 HNX;rw[hsv]at hb0 |-;rw[hpn]at d2;obtain⟨x0,x1⟩:=hb0;obtain⟨y0,y1⟩:=hb1;clear hel hce hsv hpn hjL;go_wp2_with (fail);go_round
     case rel=>exact⟨j+1,by go_num,by omega,by rw[HNX.out]⟩
     case measure=>simp[intOf];omega
    ·obtain rfl:j=n:=by omega
     go_wp2_with (fail);refine bodyPost_ret (v:=mC 2 T b true) ?_ rfl ⟨rfl,HBW.out⟩
     rw[HNV2.out];simp[results,Tryz.results179,go_sem]
  | false=>
   have h3:=nG rc w2 hs2 HT.out hrL;rw[HSU.out]at h3;obtain⟨s,hs⟩:∃s,decide (rc<=A8 (pts T b))=s:=⟨_,rfl⟩;rw[hs]at h3 HNV;clear hs
   cases s with
   | false=>
    have HNV2:Hid (mC 2 T b false= .tuple #[.int .i64 (jB (pts T b) n), .bool false]):=hW_ (by rw[HNV.out];rfl);clear hs2;go_wp2_with (fail);refine h3.mono ?_
    rintro e w3 ⟨rfl,k3,hs3,hk3,_⟩;clear h3;obtain⟨L,hL⟩:∃L,pts T b=L:=⟨_,rfl⟩;rw[hL]at HNV2 hs3 hk2 hnL HLP;have HSB:Hid (∀i,0<=jB L i/\jB L i<=1048575):=hW_ (fun i=>by rw[<-hL];have:=tF (t:=T) b i;have:=HLB.out;omega);clear hL;have hkn:n<=k3:=by omega
    have hn20:n<=1048576:=by have:=HLP.out;omega
    have hbl:Below w1.heap.size w1 w3:=by
     obtain⟨v,hv⟩:=hs3;exact hv.below
    have HBW:Hid (Below w.heap.size w w3):=hW_ (HB1.out.trans (hbl.mono HB1.out.size));obtain⟨ro,tv,vo,vc,op,hx,hsl,hkL⟩:=RdS.row hs3;obtain⟨g0,g1,g2,g3,g4,gf⟩:=aF hx;have HSL:=hW_ hsl;clear hbl hs3 hx hsl;go_wp2_with (fail);go_loop [15,70] (fun v i=>∃j:Nat,i= .int .i64 j/\j<=n/\v= .int .i64 (jB L j)) (fun _ i=>n-(intOf i).toNat)
    case atStart=>exact⟨0,rfl,by omega,by rw[tD]⟩
    case round=>
     obtain⟨j,rfl,hj,rfl⟩:=hrel
     by_cases hlt:j<n
     ·have gj:(j:Int)<(n:Int):=by omega
      have gk:(j:Int)<(k3:Int):=by omega
      have hjL:j<L.length:=by omega
      have hel:(L.take k3)[j]?=some (ptC L j):=by rw[List.getElem?_take,if_pos (by omega)];exact mF hjL
      obtain⟨bb,oo,hao,hce⟩:=HSL.out.elem Pt.enc_len (by omega) hel;subst hao;have d2:=hce 2 _ rfl;have HNX:=hW_ (uD hjL);have hb0:=HSB.out j;have hb1:=HSB.out (j+1);rw[HNX.out]at hb1;obtain⟨sv,hsv⟩:∃sv,jB L j=sv:=⟨_,rfl⟩;obtain⟨pn,hpn⟩:∃pn,(ptC L j).n=pn:=⟨_,rfl⟩;rw[hsv,hpn]at hb1 HNX;rw[hsv]at hb0 |-;rw[hpn]at d2;obtain⟨x0,x1⟩:=hb0;obtain⟨y0,y1⟩:=hb1;clear hel hce hsv hpn hjL;go_wp2_with (fail);go_round
      case rel=>exact⟨j+1,by go_num,by omega,by rw[HNX.out]⟩
      case measure=>simp[intOf];omega
     ·obtain rfl:j=n:=by omega
      go_wp2_with (fail);refine bodyPost_ret (v:=mC 2 T b false) ?_ rfl ⟨rfl,HBW.out⟩
      rw[HNV2.out];simp[results,Tryz.results179,go_sem]
   | true=>
    clear hs2;go_wp2_with (fail);refine h3.mono ?_
    rintro e w3 ⟨rfl,k3,hs3,hk3,_⟩;have h4:=xL w3 hs3 HT.out (s2:=qE (pts T b) 1) (s3:=qE (pts T b) 2) (pd:=decide (D9 (pts T b) false)) rfl rfl (kY T b false).symm;obtain⟨pd,hpd⟩:∃s,decide (D9 (pts T b) false)=s:=⟨_,rfl⟩;rw[hpd]at h4 HNV;have HNV2:Hid (mC 2 T b false= .tuple #[.int .i64 (jB (pts T b) n), .bool (!pd)]):=hW_ (by rw[HNV.out];rfl);clear h3 hpd hs3;go_wp2_with (fail);refine h4.mono ?_
    rintro e w4 ⟨rfl,k4,hs4,hk4,_⟩;clear h4;obtain⟨L,hL⟩:∃L,pts T b=L:=⟨_,rfl⟩;rw[hL]at HNV2 hs4 hk2 hnL HLP;have HSB:Hid (∀i,0<=jB L i/\jB L i<=1048575):=hW_ (fun i=>by rw[<-hL];have:=tF (t:=T) b i;have:=HLB.out;omega);clear hL;have hkn:n<=k4:=by omega
    have hn20:n<=1048576:=by have:=HLP.out;omega
    have hbl:Below w1.heap.size w1 w4:=by
     obtain⟨v,hv⟩:=hs4;exact hv.below
    have HBW:Hid (Below w.heap.size w w4):=hW_ (HB1.out.trans (hbl.mono HB1.out.size));obtain⟨ro,tv,vo,vc,op,hx,hsl,hkL⟩:=RdS.row hs4;obtain⟨g0,g1,g2,g3,g4,gf⟩:=aF hx;have HSL:=hW_ hsl;clear hbl hs4 hx hsl;go_wp2_with (fail);go_loop [15,70] (fun v i=>∃j:Nat,i= .int .i64 j/\j<=n/\v= .int .i64 (jB L j)) (fun _ i=>n-(intOf i).toNat)
    case atStart=>exact⟨0,rfl,by omega,by rw[tD]⟩
    case round=>
     obtain⟨j,rfl,hj,rfl⟩:=hrel
     by_cases hlt:j<n
     ·have gj:(j:Int)<(n:Int):=by omega
      have gk:(j:Int)<(k4:Int):=by omega
      have hjL:j<L.length:=by omega
      have hel:(L.take k4)[j]?=some (ptC L j):=by rw[List.getElem?_take,if_pos (by omega)];exact mF hjL
      obtain⟨bb,oo,hao,hce⟩:=HSL.out.elem Pt.enc_len (by omega) hel;subst hao;have d2:=hce 2 _ rfl;have HNX:=hW_ (uD hjL);have hb0:=HSB.out j;have hb1:=HSB.out (j+1);rw[HNX.out]at hb1;obtain⟨sv,hsv⟩:∃sv,jB L j=sv:=⟨_,rfl⟩;obtain⟨pn,hpn⟩:∃pn,(ptC L j).n=pn:=⟨_,rfl⟩;rw[hsv,hpn]at hb1 HNX;rw[hsv]at hb0 |-;rw[hpn]at d2;obtain⟨x0,x1⟩:=hb0;obtain⟨y0,y1⟩:=hb1;clear hel hce hsv hpn hjL;go_wp2_with (fail);go_round
      case rel=>exact⟨j+1,by go_num,by omega,by rw[HNX.out]⟩
      case measure=>simp[intOf];omega
     ·obtain rfl:j=n:=by omega
      go_wp2_with (fail);refine bodyPost_ret (v:=mC 2 T b false) ?_ rfl ⟨rfl,HBW.out⟩
      rw[HNV2.out];simp[results,Tryz.results179,go_sem]
 ·obtain rfl:kind=3:=by omega
  obtain⟨W,hW⟩:∃W,w1.alloc (.cells #[.slice bo bn bc, .slice to_ tn tc, .slice none 0 0, .bool false, .bool true] 270)=W:=⟨_,rfl⟩;have hn0:=mk true;rw[hW]at hn0;have HW:=hW_ hW;clear mk hW;have hcut:=aAa W hn0 HT.out;rw[show nH (pts T b)=iD 3 (pts T b) from rfl]at hcut;unfold nL at hcut;obtain⟨n,hn⟩:∃n,(iD 3 (pts T b)).1=n:=⟨_,rfl⟩;obtain⟨rc,hrc⟩:∃n,(iD 3 (pts T b)).2=n:=⟨_,rfl⟩;have HNV:Hid (mC 3 T b final= .tuple #[.int .i64 (jB (pts T b) n), .bool (final || (decide (rc<=A8 (pts T b)) && (decide ((3:Int)=1) || !decide (D9 (pts T b) true))))]):=hW_ (by
   unfold mC A5;rw[if_neg (by omega),hn,hrc];rfl)
  have hnL:n<=(pts T b).length:=by rw[<-hn];exact(cO 3 (pts T b)).1
  have hrL:rc<=1048576:=by have:=cK 3 (pts T b);have:=HLP.out;omega
  have HSU:Hid (qE (pts T b) (rc-1)=decide (rc<=A8 (pts T b))):=hW_ (by rw[<-hrc];exact O3 3 T b);rw[hn,hrc]at hcut;clear hn hrc hn0;go_wp2_with (fail);rw[HW.out];refine hcut.mono ?_
  rintro e w2 ⟨rfl,k2,hs2,_,hk2⟩;clear hcut
  cases final with
  | true=>
   obtain⟨L,hL⟩:∃L,pts T b=L:=⟨_,rfl⟩;rw[hL]at HNV hs2 hk2 hnL HLP;have HNV2:Hid (mC 3 T b true= .tuple #[.int .i64 (jB L n), .bool true]):=hW_ (by rw[HNV.out];rfl);have HSB:Hid (∀i,0<=jB L i/\jB L i<=1048575):=hW_ (fun i=>by rw[<-hL];have:=tF (t:=T) b i;have:=HLB.out;omega);clear hL;have hkn:n<=k2:=by omega
   have hn20:n<=1048576:=by have:=HLP.out;omega
   have hbl:Below w1.heap.size w1 w2:=by
    obtain⟨v,hv⟩:=hs2;exact hv.below
   have HBW:Hid (Below w.heap.size w w2):=hW_ (HB1.out.trans (hbl.mono HB1.out.size));obtain⟨ro,tv,vo,vc,op,hx,hsl,hkL⟩:=RdS.row hs2;obtain⟨g0,g1,g2,g3,g4,gf⟩:=aF hx;have HSL:=hW_ hsl;clear hbl hs2 hx hsl;go_wp2_with (fail);go_loop [15,70] (fun v i=>∃j:Nat,i= .int .i64 j/\j<=n/\v= .int .i64 (jB L j)) (fun _ i=>n-(intOf i).toNat)
   case atStart=>exact⟨0,rfl,by omega,by rw[tD]⟩
   case round=>
    obtain⟨j,rfl,hj,rfl⟩:=hrel
    by_cases hlt:j<n
    ·have gj:(j:Int)<(n:Int):=by omega
     have gk:(j:Int)<(k2:Int):=by omega
     have hjL:j<L.length:=by omega
     have hel:(L.take k2)[j]?=some (ptC L j):=by rw[List.getElem?_take,if_pos (by omega)];exact mF hjL
     obtain⟨bb,oo,hao,hce⟩:=HSL.out.elem Pt.enc_len (by omega) hel;subst hao;have d2:=hce 2 _ rfl;have HNX:=hW_ (uD hjL);have hb0:=HSB.out j;have hb1:=HSB.out (j+1);rw[HNX.out]at hb1;obtain⟨sv,hsv⟩:∃sv,jB L j=sv:=⟨_,rfl⟩;obtain⟨pn,hpn⟩:∃pn,(ptC L j).n=pn:=⟨_,rfl⟩;rw[hsv,hpn]at hb1 HNX;rw[hsv]at hb0 |-;rw[hpn]at d2;obtain⟨x0,x1⟩:=hb0;obtain⟨y0,y1⟩:=hb1;clear hel hce hsv hpn hjL;go_wp2_with (fail);go_round
     case rel=>exact⟨j+1,by go_num,by omega,by rw[HNX.out]⟩
     case measure=>simp[intOf];omega
    ·obtain rfl:j=n:=by omega
     go_wp2_with (fail);refine bodyPost_ret (v:=mC 3 T b true) ?_ rfl ⟨rfl,HBW.out⟩
     rw[HNV2.out];simp[results,Tryz.results179,go_sem]
  | false=>
   have h3:=nG rc w2 hs2 HT.out hrL;rw[HSU.out]at h3;obtain⟨s,hs⟩:∃s,decide (rc<=A8 (pts T b))=s:=⟨_,rfl⟩;rw[hs]at h3 HNV;clear hs
   cases s with
   | false=>
    have HNV2:Hid (mC 3 T b false= .tuple #[.int .i64 (jB (pts T b) n), .bool false]):=hW_ (by rw[HNV.out];rfl);clear hs2;go_wp2_with (fail);refine h3.mono ?_
    rintro e w3 ⟨rfl,k3,hs3,hk3,_⟩;clear h3;obtain⟨L,hL⟩:∃L,pts T b=L:=⟨_,rfl⟩;rw[hL]at HNV2 hs3 hk2 hnL HLP;have HSB:Hid (∀i,0<=jB L i/\jB L i<=1048575):=hW_ (fun i=>by rw[<-hL];have:=tF (t:=T) b i;have:=HLB.out;omega);clear hL;have hkn:n<=k3:=by omega
    have hn20:n<=1048576:=by have:=HLP.out;omega
    have hbl:Below w1.heap.size w1 w3:=by
     obtain⟨v,hv⟩:=hs3;exact hv.below
    have HBW:Hid (Below w.heap.size w w3):=hW_ (HB1.out.trans (hbl.mono HB1.out.size));obtain⟨ro,tv,vo,vc,op,hx,hsl,hkL⟩:=RdS.row hs3;obtain⟨g0,g1,g2,g3,g4,gf⟩:=aF hx;have HSL:=hW_ hsl;clear hbl hs3 hx hsl;go_wp2_with (fail);go_loop [15,70] (fun v i=>∃j:Nat,i= .int .i64 j/\j<=n/\v= .int .i64 (jB L j)) (fun _ i=>n-(intOf i).toNat)
    case atStart=>exact⟨0,rfl,by omega,by rw[tD]⟩
    case round=>
     obtain⟨j,rfl,hj,rfl⟩:=hrel
     by_cases hlt:j<n
     ·have gj:(j:Int)<(n:Int):=by omega
      have gk:(j:Int)<(k3:Int):=by omega
      have hjL:j<L.length:=by omega
      have hel:(L.take k3)[j]?=some (ptC L j):=by rw[List.getElem?_take,if_pos (by omega)];exact mF hjL
      obtain⟨bb,oo,hao,hce⟩:=HSL.out.elem Pt.enc_len (by omega) hel;subst hao;have d2:=hce 2 _ rfl;have HNX:=hW_ (uD hjL);have hb0:=HSB.out j;have hb1:=HSB.out (j+1);rw[HNX.out]at hb1;obtain⟨sv,hsv⟩:∃sv,jB L j=sv:=⟨_,rfl⟩;obtain⟨pn,hpn⟩:∃pn,(ptC L j).n=pn:=⟨_,rfl⟩;rw[hsv,hpn]at hb1 HNX;rw[hsv]at hb0 |-;rw[hpn]at d2;obtain⟨x0,x1⟩:=hb0;obtain⟨y0,y1⟩:=hb1;clear hel hce hsv hpn hjL;go_wp2_with (fail);go_round
      case rel=>exact⟨j+1,by go_num,by omega,by rw[HNX.out]⟩
      case measure=>simp[intOf];omega
     ·obtain rfl:j=n:=by omega
      go_wp2_with (fail);refine bodyPost_ret (v:=mC 3 T b false) ?_ rfl ⟨rfl,HBW.out⟩
      rw[HNV2.out];simp[results,Tryz.results179,go_sem]
   | true=>
    clear hs2;go_wp2_with (fail);refine h3.mono ?_
    rintro e w3 ⟨rfl,k3,hs3,hk3,_⟩;have h4:=xL w3 hs3 HT.out (s2:=qE (pts T b) 1) (s3:=qE (pts T b) 2) (pd:=decide (D9 (pts T b) true)) rfl rfl (kY T b true).symm;obtain⟨pd,hpd⟩:∃s,decide (D9 (pts T b) true)=s:=⟨_,rfl⟩;rw[hpd]at h4 HNV;have HNV2:Hid (mC 3 T b false= .tuple #[.int .i64 (jB (pts T b) n), .bool (!pd)]):=hW_ (by rw[HNV.out];rfl);clear h3 hpd hs3;go_wp2_with (fail);refine h4.mono ?_
    rintro e w4 ⟨rfl,k4,hs4,hk4,_⟩;clear h4;obtain⟨L,hL⟩:∃L,pts T b=L:=⟨_,rfl⟩;rw[hL]at HNV2 hs4 hk2 hnL HLP;have HSB:Hid (∀i,0<=jB L i/\jB L i<=1048575):=hW_ (fun i=>by rw[<-hL];have:=tF (t:=T) b i;have:=HLB.out;omega);clear hL;have hkn:n<=k4:=by omega
    have hn20:n<=1048576:=by have:=HLP.out;omega
    have hbl:Below w1.heap.size w1 w4:=by
     obtain⟨v,hv⟩:=hs4;exact hv.below
    have HBW:Hid (Below w.heap.size w w4):=hW_ (HB1.out.trans (hbl.mono HB1.out.size));obtain⟨ro,tv,vo,vc,op,hx,hsl,hkL⟩:=RdS.row hs4;obtain⟨g0,g1,g2,g3,g4,gf⟩:=aF hx;have HSL:=hW_ hsl;clear hbl hs4 hx hsl;go_wp2_with (fail);go_loop [15,70] (fun v i=>∃j:Nat,i= .int .i64 j/\j<=n/\v= .int .i64 (jB L j)) (fun _ i=>n-(intOf i).toNat)
    case atStart=>exact⟨0,rfl,by omega,by rw[tD]⟩
    case round=>
     obtain⟨j,rfl,hj,rfl⟩:=hrel
     by_cases hlt:j<n
     ·have gj:(j:Int)<(n:Int):=by omega
      have gk:(j:Int)<(k4:Int):=by omega
      have hjL:j<L.length:=by omega
      have hel:(L.take k4)[j]?=some (ptC L j):=by rw[List.getElem?_take,if_pos (by omega)];exact mF hjL
      obtain⟨bb,oo,hao,hce⟩:=HSL.out.elem Pt.enc_len (by omega) hel;subst hao;have d2:=hce 2 _ rfl;have HNX:=hW_ (uD hjL);have hb0:=HSB.out j;have hb1:=HSB.out (j+1);rw[HNX.out]at hb1;obtain⟨sv,hsv⟩:∃sv,jB L j=sv:=⟨_,rfl⟩;obtain⟨pn,hpn⟩:∃pn,(ptC L j).n=pn:=⟨_,rfl⟩;rw[hsv,hpn]at hb1 HNX;rw[hsv]at hb0 |-;rw[hpn]at d2;obtain⟨x0,x1⟩:=hb0;obtain⟨y0,y1⟩:=hb1;clear hel hce hsv hpn hjL;go_wp2_with (fail);go_round
      case rel=>exact⟨j+1,by go_num,by omega,by rw[HNX.out]⟩
      case measure=>simp[intOf];omega
     ·obtain rfl:j=n:=by omega
      go_wp2_with (fail);refine bodyPost_ret (v:=mC 3 T b false) ?_ rfl ⟨rfl,HBW.out⟩
      rw[HNV2.out];simp[results,Tryz.results179,go_sem]
theorem bS (s:Int) (w:World):Calls Tryz.prog 184 #[.int .i64 s] w fun e w'=>e= .returned (.bool (!isB s))/\w=w':=by
 go_enter Tryz.func184,Tryz.ntmps184
 by_cases h0:s<0
 ·have HB:Hid (isB s=false):=hW_ (by unfold isB;rw[decide_eq_false (show¬0<=s by omega)];rfl);go_wp2_with (fail);go_ret;exact⟨by rw[HB.out];rfl,rfl⟩
 ·by_cases h1:256<=s
  ·have HB:Hid (isB s=false):=hW_ (by unfold isB;rw[decide_eq_false (show¬s<256 by omega),Bool.and_false]);go_wp2_with (fail);go_ret;exact⟨by rw[HB.out];rfl,rfl⟩
  ·have HB:Hid (isB s=true):=hW_ (C6.2 ⟨by omega,by omega⟩);go_wp2_with (fail);go_ret;exact⟨by rw[HB.out];rfl,rfl⟩
structure Rn where
 ao:Option Addr
 n:Nat
 c:Nat
 bytes:List Int
 behind:Bool
def Rn.pr (x:Rn):List Int×Bool:=(x.bytes,x.behind)
def Rn.enc (x:Rn):Array Value:=#[.slice x.ao x.n x.c, .bool x.behind]
def RnIn (Wj:World) (x:Rn) (W:World):Prop:=SlB W x.ao x.n x.c x.bytes/\∀ad,x.ao=some ad->Wj.heap.size<=ad.block/\ad.block<W.heap.size
def bH (pre:List Rn):Nat:=(pre.map fun x=>x.bytes.length+1).sum
theorem zM (pre:List Rn) (x:Rn):bH (pre++ [x])=bH pre+(x.bytes.length+1):=by simp[bH]
def RnOk (N:Nat) (pre:List Rn) (x:Rn):Prop:=bH (pre++ [x])<=N+1/\∀y∈x.bytes,0<=y/\y<256
theorem runsGo_b {run:List Int} {s:Int} {l:List Int} (h:isB s=true):qC run (s::l)=qC (run++ [s]) l:=by simp[qC,h]
theorem runsGo_m {run:List Int} {s:Int} {l:List Int} (h:isB s=false):qC run (s::l)=(run,true)::qC [] l:=by simp[qC,h]
attribute [local go_sem] Oper.semAt_some
theorem runs1_in {text:List Int} {ao:Option Addr} {tn tc:Nat} (m:Nat) (l Bn n₀:Nat) (w0:World) (hS:SlI w0 ao tn tc text) (hn₀:w0.heap.size=n₀) (hsz:tn<=1048576) (J:List Rn->World->Prop)
  (hJ:∀pre A B,J pre A->Below A.heap.size A B->J pre B)
  (W:World) (hW:Below n₀ w0 W) (hBn:W.cell? ⟨Bn,0,none⟩=some (.slice ao tn tc))
  (hY:∀pre x Wj W1,J pre Wj->Below Wj.heap.size Wj W1->RnIn Wj x W1->RnOk tn pre x->YieldAt Fence.wide m Tryz.prog l x.enc W1 fun e W'=>e= .returned (.bool true)/\J (pre++ [x]) W'/\Below n₀ W1 W')
  (h0:J [] W):
  CallsIn Fence.wide (m+1) Tryz.prog 203 #[.func (.yield l) #[] #[], .pointer (some ⟨Bn,0,none⟩)] W fun e W'=>(∃v,e= .returned v)/\∃xs,xs.map Rn.pr=qC [] text/\J xs W':=by
 obtain⟨i0,hi,hz0,hz1,hz2⟩:=info_parts aCw;have hlt:=hS.len;refine callsIn_of_wp Tryz.func203 rfl trivial ?_ rfl
 simp only[Tryz.ntmps203,List.size_toArray,List.length_cons,List.length_nil,Nat.reduceAdd,Nat.reduceSub,Array.replicate_succ,Array.replicate_zero,List.push_toArray,List.append_toArray,List.nil_append,List.cons_append];have HS:=hW_ hS;have HLT:=hW_ hlt;have HJ:=hW_ hJ;have HW:=hW_ hW;have HN:=hW_ hn₀;have HY:=hW_ hY;have H0:=hW_ h0;clear hS hlt hJ hW hY h0 hn₀;gi_wp2;gi_loopw [3,8] (fun v i wr=>∃(j:Nat) (pre:List Rn) (run:List Int) (Wj:World),i= .int .i64 j/\j<=tn/\n₀<=Wj.heap.size/\Hid (J pre Wj)/\Hid (Below Wj.heap.size Wj wr)/\Hid (Below n₀ w0 wr)/\Hid (wr.ownsRow Wj.heap.size 5 1 v run.length (run.map (.int .u8)))/\
   Hid (qC [] text=pre.map Rn.pr++qC run (text.drop j))/\Hid (bH pre+run.length=j)/\Hid (∀y∈run,0<=y/\y<256)) (fun _ i _=>tn-(intOf i).toNat)
 case atStart=>
  exact⟨0,[],[],W,rfl,by omega,by have:=HW.out.size;have:=HN.out;omega,H0,hW_ (Below.refl _ _),HW,hW_ (World.ownsRow_nil _ _ _ _),hW_ (by simp),hW_ (by simp[bH]),hW_ (by simp)⟩
 case round=>
  obtain⟨j,pre,run,Wj,rfl,hj,hnW,HJP,HBJ,HB0,HOW,HRG,HCO,HBY⟩:=hrel
  by_cases hjt:j<tn
  ·have gj:(j:Int)<(tn:Int):=by omega
   have HSW:Hid (SlI wr ao tn tc text):=hW_ (by
    have h:=HB0.out;rw[<-HN.out]at h;exact HS.out.below h)
   obtain⟨b1,o1,hao,hc1⟩:=HSW.out.at_ hjt;subst hao;have hdr:text.drop j=ix text j::text.drop (j+1):=by
    have:=List.drop_eq_getElem_cons (l:=text) (i:=j) (by have:=HLT.out;omega);rw[this];congr 1;have h2:=gF (A:=text) (i:=j) (by have:=HLT.out;omega);rw[List.getElem?_eq_getElem (by have:=HLT.out;omega)]at h2;exact Option.some.inj h2
   obtain⟨s,hs⟩:∃s,ix text j=s:=⟨_,rfl⟩;rw[hs]at hdr hc1;have HDR:=hW_ hdr;have hmk:=(callsIn_wide (n:=m)).2 (bS s wr)
   cases hb:isB s with
   | true=>
    have HRG2:Hid (qC [] text=pre.map Rn.pr++qC (run++ [s]) (text.drop (j+1))):=hW_ (by rw[HRG.out,HDR.out,runsGo_b hb]);have hs8:=C6.1 hb;have hw8:IntKind.u8.wrap s=s:=by rw[IntKind.wrap_u8];omega
    rw[hb]at hmk;clear hdr hs;have HLO:=hW_ (World.ownsRow.lt HOW.out);have hsW:Wj.heap.size<=wr.heap.size:=HBJ.out.size;have hrl:run.length<=1048576:=by have:=HCO.out;omega
    gi_wp2_with (first
     | (refine⟨trivial,?_⟩;gi_at_call 184;refine hmk.mono ?_;rintro e w2 ⟨rfl,rfl⟩)
     | (gi_at_builtin;refine wpListIn_append_own _ rfl _ _ 113 rfl Wj.heap.size 5 i0 (.int .u8 0) 1 1 Tryz.underlying113 hi hz0 hz1 hz2 rfl (by decide) _ _ _ rfl (HOW.out.alloc _) ⟨wr.heap.size,0,none⟩ 1 1 [.int .u8 s] rfl rfl (cell_one_new _ _ _) (by simp[Value.oneCell']) (by unfold maxLen;omega) (by omega) (by simp;omega) ?_;intro v' w2 hown' hgrow _))
    have HOW2:Hid (w2.ownsRow Wj.heap.size 5 1 v' (run++ [s]).length ((run++ [s]).map (.int .u8))):=hW_ (by rw[List.length_append,List.map_append];exact hown');have HBJ2:Hid (Below Wj.heap.size Wj w2):=hW_ ((HBJ.out.alloc hsW _).trans ((Below.refl _ _).grown hgrow (by simp;omega) (fun k hk=>(HLO.out k hk).1)));have HB02:Hid (Below n₀ w0 w2):=hW_ (HB0.out.trans (((Below.refl n₀ wr).alloc (Nat.le_trans hnW hsW) _).trans ((Below.refl n₀ _).grown hgrow (by simp;omega) (fun k hk=>Nat.le_trans hnW (HLO.out k hk).1))));clear hown' hgrow;go_roundw
    case rel=>exact⟨j+1,pre,run++ [s],Wj,by go_num,by omega,hnW,HJP,HBJ2,HB02,HOW2,HRG2,hW_ (by have:=HCO.out;simp;omega),hW_ (fun y hy=>by
     rcases List.mem_append.1 hy with h | h
     ·exact HBY.out y h
     ·obtain rfl:=List.mem_singleton.1 h;exact C6.1 hb)⟩
    case measure=>simp[intOf];omega
   | false=>
    have HRG2:Hid (qC [] text=pre.map Rn.pr++(run,true)::qC [] (text.drop (j+1))):=hW_ (by rw[HRG.out,HDR.out,runsGo_m hb]);rw[hb]at hmk;obtain⟨vo,vc,rfl,hsl⟩:=Sl.of_own HOW.out;have hco:bH (pre++ [⟨vo,run.length,vc,run,true⟩])=j+1:=by rw[zM];have:=HCO.out;simp only;omega
    have hblk:∀ad,vo=some ad->Wj.heap.size<=ad.block/\ad.block<wr.heap.size:=fun ad e=>World.ownsRow.lt HOW.out ad.block (by rw[e];rfl)
    obtain⟨fn,tmps,assign,body,hy,hR⟩:=HY.out pre ⟨vo,run.length,vc,run,true⟩ Wj wr HJP.out HBJ.out ⟨hsl,hblk⟩ ⟨by rw[hco];omega,HBY.out⟩;dsimp only[Rn.enc]at hy;have HR:=hW_ hR;have HCO2:=hW_ hco;clear hdr hs hR hsl hco hblk
    gi_wp2_with (refine⟨trivial,?_⟩;gi_at_call 184;refine hmk.mono ?_;rintro e w2 ⟨rfl,rfl⟩)
    refine HR.out.mono ?_
    rintro e W3 ⟨rfl,hJ3,hb3⟩;have HJ3:=hW_ hJ3;have HB3:=hW_ (HB0.out.trans hb3);clear hJ3 hb3 hy;gi_wp2;go_roundw
    case rel=>exact⟨j+1,pre++ [⟨vo,run.length,vc,run,true⟩],[],W3,by go_num,by omega,by have:=HB3.out.size;have:=HN.out;omega,HJ3,hW_ (Below.refl _ _),HB3,hW_ (World.ownsRow_nil _ _ _ _),hW_ (by rw[HRG2.out];simp[Rn.pr]),hW_ (by rw[HCO2.out];rfl),hW_ (by simp)⟩
    case measure=>simp[intOf];omega
  ·obtain rfl:j=tn:=by omega
   have HRG2:Hid (qC [] text=pre.map Rn.pr++ [(run,false)]):=hW_ (by rw[HRG.out,List.drop_eq_nil_iff.2 (by have:=HLT.out;omega)];rfl);obtain⟨vo,vc,rfl,hsl⟩:=Sl.of_own HOW.out;have hco:bH (pre++ [⟨vo,run.length,vc,run,false⟩])=j+1:=by rw[zM];have:=HCO.out;simp only;omega
   have hblk:∀ad,vo=some ad->Wj.heap.size<=ad.block/\ad.block<wr.heap.size:=fun ad e=>World.ownsRow.lt HOW.out ad.block (by rw[e];rfl)
   obtain⟨fn,tmps,assign,body,hy,hR⟩:=HY.out pre ⟨vo,run.length,vc,run,false⟩ Wj wr HJP.out HBJ.out ⟨hsl,hblk⟩ ⟨by rw[hco];omega,HBY.out⟩;dsimp only[Rn.enc]at hy;have HR:=hW_ hR;clear hR hsl hco hblk;gi_wp2;refine HR.out.mono ?_
   rintro e W3 ⟨rfl,hJ3,hb3⟩;have HJ3:=hW_ hJ3;clear hJ3 hb3 hy;gi_wp2
   go_end0
   exact⟨⟨_,rfl⟩,pre++ [⟨vo,run.length,vc,run,false⟩],by rw[HRG2.out];simp[Rn.pr],HJ3.out⟩
theorem aAH {ao:Option Addr} {tn tc:Nat} (w:World):
  Calls Tryz.prog 178 #[.slice ao tn tc] w fun e w'=>e= .returned (.func (.func 203) #[] #[.pointer (some ⟨w.heap.size,0,none⟩)])/\w'=w.alloc (.cells #[.slice ao tn tc] 34):=by
 go_enter Tryz.func178,Tryz.ntmps178;go_wp2_with (fail);go_ret;exact⟨rfl,rfl⟩
theorem bU {text:List Int} {ao:Option Addr} {tn tc:Nat} (w:World) (hS:SlI w ao tn tc text) (hb:∀y∈text,isB y=true) (hsz:tn<=1048576):
  Calls Tryz.prog 148 #[.slice ao tn tc] w fun e w'=>(∃v,e= .returned (.tuple #[v, .bool true])/\w'.ownsRow w.heap.size 5 1 v text.length (text.map (.int .u8)))/\Below w.heap.size w w':=by
 obtain⟨i0,hi,hz0,hz1,hz2⟩:=info_parts aCw;have HS:=hW_ hS;have HLT:=hW_ hS.len;have HBY:=hW_ hb;clear hS hb;go_enter Tryz.func148,Tryz.ntmps148;go_wp2_with (fail);go_loopw [4,9] (fun v i wr=>∃j:Nat,i= .int .i64 j/\j<=tn/\Hid (wr.ownsRow w.heap.size 5 1 v j ((text.take j).map (.int .u8)))/\Hid (Below w.heap.size w wr)) (fun _ i _=>tn-(intOf i).toNat)
 case atStart=>exact⟨0,rfl,by omega,hW_ (World.ownsRow_nil _ _ _ _),hW_ (Below.refl _ _)⟩
 case round=>
  obtain⟨j,rfl,hj,HOW,HB⟩:=hrel
  by_cases hjt:j<tn
  ·have gj:(j:Int)<(tn:Int):=by omega
   obtain⟨b1,o1,hao,hc1⟩:=(HS.out.below HB.out).at_ hjt;subst hao;have hix:=gF (A:=text) (i:=j) (by have:=HLT.out;omega);have hisb:=HBY.out _ (List.mem_of_getElem? hix);have HTK:=hW_ (vI (A:=text) (k:=j) (by have:=HLT.out;omega));obtain⟨s,hs⟩:∃s,ix text j=s:=⟨_,rfl⟩;rw[hs]at hc1 hisb HTK;have hmk:=bS s wr;rw[hisb]at hmk;have hs8:=C6.1 hisb;have hw8:IntKind.u8.wrap s=s:=by rw[IntKind.wrap_u8];omega
   have HLO:=hW_ (World.ownsRow.lt HOW.out);have hsW:w.heap.size<=wr.heap.size:=HB.out.size;clear hix hisb hs;go_wp2_with (first
    | (go_at_call 184;refine hmk.mono ?_;rintro e w2 ⟨rfl,rfl⟩)
    | (at_builtin;refine wpList_append_own _ rfl _ _ 113 rfl w.heap.size 5 i0 (.int .u8 0) 1 1 Tryz.underlying113 hi hz0 hz1 hz2 rfl (by decide) _ _ _ rfl (HOW.out.alloc _) ⟨wr.heap.size,0,none⟩ 1 1 [.int .u8 s] rfl rfl (cell_one_new _ _ _) (by simp[Value.oneCell']) (by unfold maxLen;omega) (by omega) (by simp;omega) ?_;intro v' w2 hown' hgrow _))
   have HOW2:Hid (w2.ownsRow w.heap.size 5 1 v' (j+1) ((text.take (j+1)).map (.int .u8))):=hW_ (by rw[<-HTK.out,List.map_append];exact hown');have HB2:Hid (Below w.heap.size w w2):=hW_ ((HB.out.alloc hsW _).trans ((Below.refl _ _).grown hgrow (by simp;omega) (fun k hk=>(HLO.out k hk).1)));clear hown' hgrow;go_roundw
   case rel=>exact⟨j+1,by go_num,by omega,HOW2,HB2⟩
   case measure=>simp[intOf];omega
  ·obtain rfl:j=tn:=by omega
   have HOW2:=hW_ (by have h:=HOW.out;rw[List.take_of_length_le (by have:=HLT.out;omega),<-HLT.out]at h;exact h);go_wp2_with (fail);refine bodyPost_ret (v:= .tuple #[_, .bool true]) ?_ rfl ⟨⟨_,rfl,HOW2.out⟩,HB.out⟩
   simp[results,Tryz.results148,go_sem]
end Go.Proofs.YtahiballegpbgaaGreatDoor
