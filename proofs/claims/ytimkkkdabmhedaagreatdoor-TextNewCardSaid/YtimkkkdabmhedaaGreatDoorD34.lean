/- Walk: scan.Next. -/
import Derived.Test.YtimkkkdabmhedaaGreatDoorD33
set_option linter.unusedVariables false
set_option maxHeartbeats 2000000
set_option maxRecDepth 100000
namespace Go.Proofs.YtimkkkdabmhedaaGreatDoor
open Go.RowKit
theorem sureN_le (L:List Pt):sureN L≤L.length:=(List.takeWhile_prefix _).length_le
theorem sureC_iff (T:List Rg) (b:List Int) (i:Nat):sureC (pts T b) i=decide (i<sureN (pts T b)):=by
 by_cases h:i<(pts T b).length
 ·have:=pts_sure (t:=T) b i _ (ptC_in h)
  rw[sureC_in h]
  cases hs:(ptC (pts T b) i).sure with
  | true=>exact(decide_eq_true (this.1 hs)).symm
  | false=>exact(decide_eq_false (fun h2=>by rw[this.2 h2]at hs;cases hs)).symm
 ·rw[sureC_out h]
  have:=sureN_le (pts T b)
  exact(decide_eq_false (by omega)).symm
theorem pend_iff (T:List Rg) (b:List Int) (wide:Bool):(decide (cdC (pts T b) wide 0=39) && (!sureC (pts T b) 2 && (!sureC (pts T b) 1 || decide (fstE (cdC (pts T b) wide 1)))))=decide (pendF (pts T b) wide):=by
 rw[sureC_iff,sureC_iff]
 unfold pendF
 by_cases h1:cdC (pts T b) wide 0=39<;>by_cases h2:2<sureN (pts T b)<;>by_cases h3:1<sureN (pts T b)<;>by_cases h4:fstE (cdC (pts T b) wide 1)<;>simp[h1,h2,h3,h4]<;>omega
theorem pts_len_le (T:List Rg) (b:List Int):(pts T b).length≤b.length:=by
 have h1:=sum_pos (pts_n1 (t:=T) b)
 rw[pts_sum]at h1
 omega
theorem sumN_zero (L:List Pt):sumN L 0=0:=by simp[sumN]
theorem sumN_next {L:List Pt} {i:Nat} (h:i<L.length):sumN L (i+1)=sumN L i+(ptC L i).n:=by
 unfold sumN
 rw[List.take_add_one,ptC_in h]
 simp
def nextV (kind:Int) (t:List Rg) (b:List Int) (final:Bool):Value:= .tuple #[.int .i64 (nextF kind t b final).1, .bool (nextF kind t b final).2]
theorem reach_iff (kind:Int) (T:List Rg) (b:List Int):sureC (pts T b) ((cutF kind (pts T b)).2-1)=decide ((cutF kind (pts T b)).2≤sureN (pts T b)):=by
 have h:=(cutF_le kind (pts T b)).2
 rw[sureC_iff]
 congr 1
 apply propext
 omega
theorem reach_small (kind:Int) (L:List Pt):(cutF kind L).2≤L.length+1:=by
 have hs:(spacesF L).2≤L.length+1:=by
  have:=spN_le L 0
  unfold spacesF
  split<;>(simp only;omega)
 unfold cutF
 split
 ·unfold wordF
  have:=spN_le L 0
  have:=nsN_le L (spN L 0)
  simp;omega
 ·split
  ·unfold plainF
   have:=endN_le L false
   have:=ledN_le L 0
   have:=ledN_le L 1
   have:=ledN_le L 2
   repeat' split
   all_goals first
    | exact hs
    | (simp only;omega)
  ·unfold wideF
   have:=endN_le L true
   have:=rowN_le L 0 1
   have:=rowN_le L 0 2
   have:=ledN_le L 0
   have:=rowN_le L (ledN L 0) 4
   have:=lineN_le L (spN L 0)
   have:=spN_le L 0
   repeat' split
   all_goals first
    | exact hs
    | (simp only;omega)
    | (rename_i h _ _ _;have:=rowN_le L 1 1;have:=isC_len h.2;simp only;omega)
    | (rename_i h;have:=rowN_le L 1 1;have:=isC_len h.2;simp only;omega)
theorem next_calls {T:List Rg} {b:List Int} {bo to_:Option Addr} {bn bc tn tc:Nat} (kind:Int) (final:Bool) (w:World) (hB:SlB w bo bn bc b) (hx:∀x∈b,0≤x∧x<256) (h0:b≠[]) (hsz:bn≤1048575)
  (hR:SlF 3 w to_ tn tc (flat Rg.enc T)) (hT:MayTab T) (hk0:0≤kind) (hk3:kind≤3):
  Calls Tryz.prog 93 #[.int .i64 kind, .slice to_ tn tc, .slice bo bn bc, .bool final] w fun e w'=>e= .returned (nextV kind T b final)∧Below w.heap.size w w':=by
 have hlb:=hB.len
 have hbn:0<bn:=by
  rcases Nat.eq_zero_or_pos bn with h | h
  ·rw[h]at hlb;exact absurd (List.eq_nil_of_length_eq_zero hlb) h0
  ·exact h
 have hbe:((bn:Int)==0)=false:=by simp;omega
 have hmay:=classMay_calls w hR
 have HB:=Lib.hid hB
 have HX:=Lib.hid hx
 have HR:=Lib.hid hR
 have HT:=Lib.hid hT
 have HLB:=Lib.hid hlb
 have HLP:Hid ((pts T b).length≤1048575):=Lib.hid (by have:=pts_len_le T b;omega)
 clear hB hx h0 hR hT hlb
 go_enter Tryz.func93,Tryz.ntmps93
 go_wp2_with (fail)
 refine hmay.mono ?_
 rintro e w1 ⟨⟨bb,rfl,hbb⟩,hb1⟩
 obtain rfl:bb=true:=hbb.2 HT.out
 have HB1:=Lib.hid hb1
 clear hbb hb1 hmay
 by_cases hkz:kind=0
 ·subst hkz
  go_wp2_with (fail)
  refine bodyPost_ret (v:=nextV 0 T b final) ?_ rfl ⟨rfl,HB1.out.alloc HB1.out.size _⟩
  have HNV:Hid (nextV 0 T b final= .tuple #[.int .i64 (bn:Nat), .bool final]):=Lib.hid (by unfold nextV nextF;rw[if_pos rfl,HLB.out])
  rw[HNV.out]
  simp[results,Tryz.results93,go_sem]
 have mk:∀wide:Bool,RdS w1 (w1.alloc (.cells #[.slice bo bn bc, .slice to_ tn tc, .slice none 0 0, .bool false, .bool wide] 194)) w1.heap.size T wide (pts T b) 0:=fun wide=>
  ⟨.slice none 0 0,⟨bo,bn,bc,b,false,to_,tn,tc,heap_alloc_new w1 _,SlB.below HB.out HB1.out,HX.out,rfl,SlF.below HR.out HB1.out⟩,by simpa using OwnF.nil (w1.alloc (.cells #[.slice bo bn bc, .slice to_ tn tc, .slice none 0 0, .bool false, .bool wide] 194)) w1.heap.size,(fun e=>by cases e),Nat.zero_le _,(by have:=HLP.out;omega),Nat.le_refl _,below_alloc w1 _⟩
 by_cases hk1:kind=1
 ·subst hk1
  obtain⟨W,hW⟩:∃W,w1.alloc (.cells #[.slice bo bn bc, .slice to_ tn tc, .slice none 0 0, .bool false, .bool false] 194)=W:=⟨_,rfl⟩
  have hn0:=mk false
  rw[hW]at hn0
  have HW:=Lib.hid hW
  clear mk hW
  have hcut:=blank_calls W hn0 HT.out
  rw[show wordF (pts T b)=cutF 1 (pts T b) from rfl]at hcut
  unfold CutPost at hcut
  obtain⟨n,hn⟩:∃n,(cutF 1 (pts T b)).1=n:=⟨_,rfl⟩
  obtain⟨rc,hrc⟩:∃n,(cutF 1 (pts T b)).2=n:=⟨_,rfl⟩
  have HNV:Hid (nextV 1 T b final= .tuple #[.int .i64 (sumN (pts T b) n), .bool (final || (decide (rc≤sureN (pts T b)) && (decide ((1:Int)=1) || !decide (pendF (pts T b) false))))]):=Lib.hid (by
   unfold nextV nextF
   rw[if_neg (by omega),hn,hrc]
   rfl)
  have hnL:n≤(pts T b).length:=by rw[←hn];exact(cutF_le 1 (pts T b)).1
  have hrL:rc≤1048576:=by have:=reach_small 1 (pts T b);have:=HLP.out;omega
  have HSU:Hid (sureC (pts T b) (rc-1)=decide (rc≤sureN (pts T b))):=Lib.hid (by rw[←hrc];exact reach_iff 1 T b)
  rw[hn,hrc]at hcut
  clear hn hrc hn0
  go_wp2_with (fail)
  rw[HW.out]
  refine hcut.mono ?_
  rintro e w2 ⟨rfl,k2,hs2,_,hk2⟩
  clear hcut
  cases final with
  | true=>
   obtain⟨L,hL⟩:∃L,pts T b=L:=⟨_,rfl⟩
   rw[hL]at HNV hs2 hk2 hnL HLP
   have HNV2:Hid (nextV 1 T b true= .tuple #[.int .i64 (sumN L n), .bool true]):=Lib.hid (by rw[HNV.out];rfl)
   have HSB:Hid (∀i,0≤sumN L i∧sumN L i≤1048575):=Lib.hid (fun i=>by rw[←hL];have:=sumN_le (t:=T) b i;have:=HLB.out;omega)
   clear hL
   have hkn:n≤k2:=by omega
   have hn20:n≤1048576:=by have:=HLP.out;omega
   have hbl:Below w1.heap.size w1 w2:=by
    obtain⟨v,hv⟩:=hs2
    exact hv.below
   have HBW:Hid (Below w.heap.size w w2):=Lib.hid (HB1.out.trans (hbl.mono HB1.out.size))
   obtain⟨ro,tv,vo,vc,op,hx,hsl,hkL⟩:=RdS.row hs2
   obtain⟨g0,g1,g2,g3,g4,gf⟩:=box5 hx
   have HSL:=Lib.hid hsl
   clear hbl hs2 hx hsl
   go_wp2_with (fail)
   go_loop [15,70] (fun v i=>∃j:Nat,i= .int .i64 j∧j≤n∧v= .int .i64 (sumN L j)) (fun _ i=>n-(intOf i).toNat)
   case atStart=>exact⟨0,rfl,by omega,by rw[sumN_zero]⟩
   case round=>
    obtain⟨j,rfl,hj,rfl⟩:=hrel
    by_cases hlt:j<n
    ·have gj:(j:Int)<(n:Int):=by omega
     have gk:(j:Int)<(k2:Int):=by omega
     have hjL:j<L.length:=by omega
     have hel:(L.take k2)[j]?=some (ptC L j):=by rw[List.getElem?_take,if_pos (by omega)];exact ptC_in hjL
     obtain⟨bb,oo,hao,hce⟩:=HSL.out.elem Pt.enc_len (by omega) hel
     subst hao
     have d2:=hce 2 _ rfl
     have HNX:=Lib.hid (sumN_next hjL)
     have hb0:=HSB.out j
     have hb1:=HSB.out (j+1)
     rw[HNX.out]at hb1
     obtain⟨sv,hsv⟩:∃sv,sumN L j=sv:=⟨_,rfl⟩
     obtain⟨pn,hpn⟩:∃pn,(ptC L j).n=pn:=⟨_,rfl⟩
     rw[hsv,hpn]at hb1 HNX
     rw[hsv]at hb0 ⊢
     rw[hpn]at d2
     obtain⟨x0,x1⟩:=hb0
     obtain⟨y0,y1⟩:=hb1
     clear hel hce hsv hpn hjL
     go_wp2_with (fail)
     go_round
     case rel=>exact⟨j+1,by go_num,by omega,by rw[HNX.out]⟩
     case measure=>simp[intOf];omega
    ·obtain rfl:j=n:=by omega
     go_wp2_with (fail)
     refine bodyPost_ret (v:=nextV 1 T b true) ?_ rfl ⟨rfl,HBW.out⟩
     rw[HNV2.out]
     simp[results,Tryz.results93,go_sem]
  | false=>
   have h3:=sure_calls rc w2 hs2 HT.out hrL
   rw[HSU.out]at h3
   obtain⟨s,hs⟩:∃s,decide (rc≤sureN (pts T b))=s:=⟨_,rfl⟩
   rw[hs]at h3 HNV
   clear hs
   cases s with
   | false=>
    have HNV2:Hid (nextV 1 T b false= .tuple #[.int .i64 (sumN (pts T b) n), .bool false]):=Lib.hid (by rw[HNV.out];rfl)
    clear hs2
    go_wp2_with (fail)
    refine h3.mono ?_
    rintro e w3 ⟨rfl,k3,hs3,hk3,_⟩
    clear h3
    obtain⟨L,hL⟩:∃L,pts T b=L:=⟨_,rfl⟩
    rw[hL]at HNV2 hs3 hk2 hnL HLP
    have HSB:Hid (∀i,0≤sumN L i∧sumN L i≤1048575):=Lib.hid (fun i=>by rw[←hL];have:=sumN_le (t:=T) b i;have:=HLB.out;omega)
    clear hL
    have hkn:n≤k3:=by omega
    have hn20:n≤1048576:=by have:=HLP.out;omega
    have hbl:Below w1.heap.size w1 w3:=by
     obtain⟨v,hv⟩:=hs3
     exact hv.below
    have HBW:Hid (Below w.heap.size w w3):=Lib.hid (HB1.out.trans (hbl.mono HB1.out.size))
    obtain⟨ro,tv,vo,vc,op,hx,hsl,hkL⟩:=RdS.row hs3
    obtain⟨g0,g1,g2,g3,g4,gf⟩:=box5 hx
    have HSL:=Lib.hid hsl
    clear hbl hs3 hx hsl
    go_wp2_with (fail)
    go_loop [15,70] (fun v i=>∃j:Nat,i= .int .i64 j∧j≤n∧v= .int .i64 (sumN L j)) (fun _ i=>n-(intOf i).toNat)
    case atStart=>exact⟨0,rfl,by omega,by rw[sumN_zero]⟩
    case round=>
     obtain⟨j,rfl,hj,rfl⟩:=hrel
     by_cases hlt:j<n
     ·have gj:(j:Int)<(n:Int):=by omega
      have gk:(j:Int)<(k3:Int):=by omega
      have hjL:j<L.length:=by omega
      have hel:(L.take k3)[j]?=some (ptC L j):=by rw[List.getElem?_take,if_pos (by omega)];exact ptC_in hjL
      obtain⟨bb,oo,hao,hce⟩:=HSL.out.elem Pt.enc_len (by omega) hel
      subst hao
      have d2:=hce 2 _ rfl
      have HNX:=Lib.hid (sumN_next hjL)
      have hb0:=HSB.out j
      have hb1:=HSB.out (j+1)
      rw[HNX.out]at hb1
      obtain⟨sv,hsv⟩:∃sv,sumN L j=sv:=⟨_,rfl⟩
      obtain⟨pn,hpn⟩:∃pn,(ptC L j).n=pn:=⟨_,rfl⟩
      rw[hsv,hpn]at hb1 HNX
      rw[hsv]at hb0 ⊢
      rw[hpn]at d2
      obtain⟨x0,x1⟩:=hb0
      obtain⟨y0,y1⟩:=hb1
      clear hel hce hsv hpn hjL
      go_wp2_with (fail)
      go_round
      case rel=>exact⟨j+1,by go_num,by omega,by rw[HNX.out]⟩
      case measure=>simp[intOf];omega
     ·obtain rfl:j=n:=by omega
      go_wp2_with (fail)
      refine bodyPost_ret (v:=nextV 1 T b false) ?_ rfl ⟨rfl,HBW.out⟩
      rw[HNV2.out]
      simp[results,Tryz.results93,go_sem]
   | true=>
    have HNV2:Hid (nextV 1 T b false= .tuple #[.int .i64 (sumN (pts T b) n), .bool true]):=Lib.hid (by rw[HNV.out];rfl)
    clear hs2
    go_wp2_with (fail)
    refine h3.mono ?_
    rintro e w3 ⟨rfl,k3,hs3,hk3,_⟩
    clear h3
    obtain⟨L,hL⟩:∃L,pts T b=L:=⟨_,rfl⟩
    rw[hL]at HNV2 hs3 hk2 hnL HLP
    have HSB:Hid (∀i,0≤sumN L i∧sumN L i≤1048575):=Lib.hid (fun i=>by rw[←hL];have:=sumN_le (t:=T) b i;have:=HLB.out;omega)
    clear hL
    have hkn:n≤k3:=by omega
    have hn20:n≤1048576:=by have:=HLP.out;omega
    have hbl:Below w1.heap.size w1 w3:=by
     obtain⟨v,hv⟩:=hs3
     exact hv.below
    have HBW:Hid (Below w.heap.size w w3):=Lib.hid (HB1.out.trans (hbl.mono HB1.out.size))
    obtain⟨ro,tv,vo,vc,op,hx,hsl,hkL⟩:=RdS.row hs3
    obtain⟨g0,g1,g2,g3,g4,gf⟩:=box5 hx
    have HSL:=Lib.hid hsl
    clear hbl hs3 hx hsl
    go_wp2_with (fail)
    go_loop [15,70] (fun v i=>∃j:Nat,i= .int .i64 j∧j≤n∧v= .int .i64 (sumN L j)) (fun _ i=>n-(intOf i).toNat)
    case atStart=>exact⟨0,rfl,by omega,by rw[sumN_zero]⟩
    case round=>
     obtain⟨j,rfl,hj,rfl⟩:=hrel
     by_cases hlt:j<n
     ·have gj:(j:Int)<(n:Int):=by omega
      have gk:(j:Int)<(k3:Int):=by omega
      have hjL:j<L.length:=by omega
      have hel:(L.take k3)[j]?=some (ptC L j):=by rw[List.getElem?_take,if_pos (by omega)];exact ptC_in hjL
      obtain⟨bb,oo,hao,hce⟩:=HSL.out.elem Pt.enc_len (by omega) hel
      subst hao
      have d2:=hce 2 _ rfl
      have HNX:=Lib.hid (sumN_next hjL)
      have hb0:=HSB.out j
      have hb1:=HSB.out (j+1)
      rw[HNX.out]at hb1
      obtain⟨sv,hsv⟩:∃sv,sumN L j=sv:=⟨_,rfl⟩
      obtain⟨pn,hpn⟩:∃pn,(ptC L j).n=pn:=⟨_,rfl⟩
      rw[hsv,hpn]at hb1 HNX
      rw[hsv]at hb0 ⊢
      rw[hpn]at d2
      obtain⟨x0,x1⟩:=hb0
      obtain⟨y0,y1⟩:=hb1
      clear hel hce hsv hpn hjL
      go_wp2_with (fail)
      go_round
      case rel=>exact⟨j+1,by go_num,by omega,by rw[HNX.out]⟩
      case measure=>simp[intOf];omega
     ·obtain rfl:j=n:=by omega
      go_wp2_with (fail)
      refine bodyPost_ret (v:=nextV 1 T b false) ?_ rfl ⟨rfl,HBW.out⟩
      rw[HNV2.out]
      simp[results,Tryz.results93,go_sem]
 by_cases hk2:kind=2
 ·subst hk2
  obtain⟨W,hW⟩:∃W,w1.alloc (.cells #[.slice bo bn bc, .slice to_ tn tc, .slice none 0 0, .bool false, .bool false] 194)=W:=⟨_,rfl⟩
  have hn0:=mk false
  rw[hW]at hn0
  have HW:=Lib.hid hW
  clear mk hW
  have hcut:=plain_calls W hn0 HT.out
  rw[show plainF (pts T b)=cutF 2 (pts T b) from rfl]at hcut
  unfold CutPost at hcut
  obtain⟨n,hn⟩:∃n,(cutF 2 (pts T b)).1=n:=⟨_,rfl⟩
  obtain⟨rc,hrc⟩:∃n,(cutF 2 (pts T b)).2=n:=⟨_,rfl⟩
  have HNV:Hid (nextV 2 T b final= .tuple #[.int .i64 (sumN (pts T b) n), .bool (final || (decide (rc≤sureN (pts T b)) && (decide ((2:Int)=1) || !decide (pendF (pts T b) false))))]):=Lib.hid (by
   unfold nextV nextF
   rw[if_neg (by omega),hn,hrc]
   rfl)
  have hnL:n≤(pts T b).length:=by rw[←hn];exact(cutF_le 2 (pts T b)).1
  have hrL:rc≤1048576:=by have:=reach_small 2 (pts T b);have:=HLP.out;omega
  have HSU:Hid (sureC (pts T b) (rc-1)=decide (rc≤sureN (pts T b))):=Lib.hid (by rw[←hrc];exact reach_iff 2 T b)
  rw[hn,hrc]at hcut
  clear hn hrc hn0
  go_wp2_with (fail)
  rw[HW.out]
  refine hcut.mono ?_
  rintro e w2 ⟨rfl,k2,hs2,_,hk2⟩
  clear hcut
  cases final with
  | true=>
   obtain⟨L,hL⟩:∃L,pts T b=L:=⟨_,rfl⟩
   rw[hL]at HNV hs2 hk2 hnL HLP
   have HNV2:Hid (nextV 2 T b true= .tuple #[.int .i64 (sumN L n), .bool true]):=Lib.hid (by rw[HNV.out];rfl)
   have HSB:Hid (∀i,0≤sumN L i∧sumN L i≤1048575):=Lib.hid (fun i=>by rw[←hL];have:=sumN_le (t:=T) b i;have:=HLB.out;omega)
   clear hL
   have hkn:n≤k2:=by omega
   have hn20:n≤1048576:=by have:=HLP.out;omega
   have hbl:Below w1.heap.size w1 w2:=by
    obtain⟨v,hv⟩:=hs2
    exact hv.below
   have HBW:Hid (Below w.heap.size w w2):=Lib.hid (HB1.out.trans (hbl.mono HB1.out.size))
   obtain⟨ro,tv,vo,vc,op,hx,hsl,hkL⟩:=RdS.row hs2
   obtain⟨g0,g1,g2,g3,g4,gf⟩:=box5 hx
   have HSL:=Lib.hid hsl
   clear hbl hs2 hx hsl
   go_wp2_with (fail)
   go_loop [15,70] (fun v i=>∃j:Nat,i= .int .i64 j∧j≤n∧v= .int .i64 (sumN L j)) (fun _ i=>n-(intOf i).toNat)
   case atStart=>exact⟨0,rfl,by omega,by rw[sumN_zero]⟩
   case round=>
    obtain⟨j,rfl,hj,rfl⟩:=hrel
    by_cases hlt:j<n
    ·have gj:(j:Int)<(n:Int):=by omega
     have gk:(j:Int)<(k2:Int):=by omega
     have hjL:j<L.length:=by omega
     have hel:(L.take k2)[j]?=some (ptC L j):=by rw[List.getElem?_take,if_pos (by omega)];exact ptC_in hjL
     obtain⟨bb,oo,hao,hce⟩:=HSL.out.elem Pt.enc_len (by omega) hel
     subst hao
     have d2:=hce 2 _ rfl
     have HNX:=Lib.hid (sumN_next hjL)
     have hb0:=HSB.out j
     have hb1:=HSB.out (j+1)
     rw[HNX.out]at hb1
     obtain⟨sv,hsv⟩:∃sv,sumN L j=sv:=⟨_,rfl⟩
     obtain⟨pn,hpn⟩:∃pn,(ptC L j).n=pn:=⟨_,rfl⟩
     rw[hsv,hpn]at hb1 HNX
     rw[hsv]at hb0 ⊢
     rw[hpn]at d2
     obtain⟨x0,x1⟩:=hb0
     obtain⟨y0,y1⟩:=hb1
     clear hel hce hsv hpn hjL
     go_wp2_with (fail)
     go_round
     case rel=>exact⟨j+1,by go_num,by omega,by rw[HNX.out]⟩
     case measure=>simp[intOf];omega
    ·obtain rfl:j=n:=by omega
     go_wp2_with (fail)
     refine bodyPost_ret (v:=nextV 2 T b true) ?_ rfl ⟨rfl,HBW.out⟩
     rw[HNV2.out]
     simp[results,Tryz.results93,go_sem]
  | false=>
   have h3:=sure_calls rc w2 hs2 HT.out hrL
   rw[HSU.out]at h3
   obtain⟨s,hs⟩:∃s,decide (rc≤sureN (pts T b))=s:=⟨_,rfl⟩
   rw[hs]at h3 HNV
   clear hs
   cases s with
   | false=>
    have HNV2:Hid (nextV 2 T b false= .tuple #[.int .i64 (sumN (pts T b) n), .bool false]):=Lib.hid (by rw[HNV.out];rfl)
    clear hs2
    go_wp2_with (fail)
    refine h3.mono ?_
    rintro e w3 ⟨rfl,k3,hs3,hk3,_⟩
    clear h3
    obtain⟨L,hL⟩:∃L,pts T b=L:=⟨_,rfl⟩
    rw[hL]at HNV2 hs3 hk2 hnL HLP
    have HSB:Hid (∀i,0≤sumN L i∧sumN L i≤1048575):=Lib.hid (fun i=>by rw[←hL];have:=sumN_le (t:=T) b i;have:=HLB.out;omega)
    clear hL
    have hkn:n≤k3:=by omega
    have hn20:n≤1048576:=by have:=HLP.out;omega
    have hbl:Below w1.heap.size w1 w3:=by
     obtain⟨v,hv⟩:=hs3
     exact hv.below
    have HBW:Hid (Below w.heap.size w w3):=Lib.hid (HB1.out.trans (hbl.mono HB1.out.size))
    obtain⟨ro,tv,vo,vc,op,hx,hsl,hkL⟩:=RdS.row hs3
    obtain⟨g0,g1,g2,g3,g4,gf⟩:=box5 hx
    have HSL:=Lib.hid hsl
    clear hbl hs3 hx hsl
    go_wp2_with (fail)
    go_loop [15,70] (fun v i=>∃j:Nat,i= .int .i64 j∧j≤n∧v= .int .i64 (sumN L j)) (fun _ i=>n-(intOf i).toNat)
    case atStart=>exact⟨0,rfl,by omega,by rw[sumN_zero]⟩
    case round=>
     obtain⟨j,rfl,hj,rfl⟩:=hrel
     by_cases hlt:j<n
     ·have gj:(j:Int)<(n:Int):=by omega
      have gk:(j:Int)<(k3:Int):=by omega
      have hjL:j<L.length:=by omega
      have hel:(L.take k3)[j]?=some (ptC L j):=by rw[List.getElem?_take,if_pos (by omega)];exact ptC_in hjL
      obtain⟨bb,oo,hao,hce⟩:=HSL.out.elem Pt.enc_len (by omega) hel
      subst hao
      have d2:=hce 2 _ rfl
      have HNX:=Lib.hid (sumN_next hjL)
      have hb0:=HSB.out j
      have hb1:=HSB.out (j+1)
      rw[HNX.out]at hb1
      obtain⟨sv,hsv⟩:∃sv,sumN L j=sv:=⟨_,rfl⟩
      obtain⟨pn,hpn⟩:∃pn,(ptC L j).n=pn:=⟨_,rfl⟩
      rw[hsv,hpn]at hb1 HNX
      rw[hsv]at hb0 ⊢
      rw[hpn]at d2
      obtain⟨x0,x1⟩:=hb0
      obtain⟨y0,y1⟩:=hb1
      clear hel hce hsv hpn hjL
      go_wp2_with (fail)
      go_round
      case rel=>exact⟨j+1,by go_num,by omega,by rw[HNX.out]⟩
      case measure=>simp[intOf];omega
     ·obtain rfl:j=n:=by omega
      go_wp2_with (fail)
      refine bodyPost_ret (v:=nextV 2 T b false) ?_ rfl ⟨rfl,HBW.out⟩
      rw[HNV2.out]
      simp[results,Tryz.results93,go_sem]
   | true=>
    clear hs2
    go_wp2_with (fail)
    refine h3.mono ?_
    rintro e w3 ⟨rfl,k3,hs3,hk3,_⟩
    have h4:=pending_calls w3 hs3 HT.out (s2:=sureC (pts T b) 1) (s3:=sureC (pts T b) 2) (pd:=decide (pendF (pts T b) false)) rfl rfl (pend_iff T b false).symm
    obtain⟨pd,hpd⟩:∃s,decide (pendF (pts T b) false)=s:=⟨_,rfl⟩
    rw[hpd]at h4 HNV
    have HNV2:Hid (nextV 2 T b false= .tuple #[.int .i64 (sumN (pts T b) n), .bool (!pd)]):=Lib.hid (by rw[HNV.out];rfl)
    clear h3 hpd hs3
    go_wp2_with (fail)
    refine h4.mono ?_
    rintro e w4 ⟨rfl,k4,hs4,hk4,_⟩
    clear h4
    obtain⟨L,hL⟩:∃L,pts T b=L:=⟨_,rfl⟩
    rw[hL]at HNV2 hs4 hk2 hnL HLP
    have HSB:Hid (∀i,0≤sumN L i∧sumN L i≤1048575):=Lib.hid (fun i=>by rw[←hL];have:=sumN_le (t:=T) b i;have:=HLB.out;omega)
    clear hL
    have hkn:n≤k4:=by omega
    have hn20:n≤1048576:=by have:=HLP.out;omega
    have hbl:Below w1.heap.size w1 w4:=by
     obtain⟨v,hv⟩:=hs4
     exact hv.below
    have HBW:Hid (Below w.heap.size w w4):=Lib.hid (HB1.out.trans (hbl.mono HB1.out.size))
    obtain⟨ro,tv,vo,vc,op,hx,hsl,hkL⟩:=RdS.row hs4
    obtain⟨g0,g1,g2,g3,g4,gf⟩:=box5 hx
    have HSL:=Lib.hid hsl
    clear hbl hs4 hx hsl
    go_wp2_with (fail)
    go_loop [15,70] (fun v i=>∃j:Nat,i= .int .i64 j∧j≤n∧v= .int .i64 (sumN L j)) (fun _ i=>n-(intOf i).toNat)
    case atStart=>exact⟨0,rfl,by omega,by rw[sumN_zero]⟩
    case round=>
     obtain⟨j,rfl,hj,rfl⟩:=hrel
     by_cases hlt:j<n
     ·have gj:(j:Int)<(n:Int):=by omega
      have gk:(j:Int)<(k4:Int):=by omega
      have hjL:j<L.length:=by omega
      have hel:(L.take k4)[j]?=some (ptC L j):=by rw[List.getElem?_take,if_pos (by omega)];exact ptC_in hjL
      obtain⟨bb,oo,hao,hce⟩:=HSL.out.elem Pt.enc_len (by omega) hel
      subst hao
      have d2:=hce 2 _ rfl
      have HNX:=Lib.hid (sumN_next hjL)
      have hb0:=HSB.out j
      have hb1:=HSB.out (j+1)
      rw[HNX.out]at hb1
      obtain⟨sv,hsv⟩:∃sv,sumN L j=sv:=⟨_,rfl⟩
      obtain⟨pn,hpn⟩:∃pn,(ptC L j).n=pn:=⟨_,rfl⟩
      rw[hsv,hpn]at hb1 HNX
      rw[hsv]at hb0 ⊢
      rw[hpn]at d2
      obtain⟨x0,x1⟩:=hb0
      obtain⟨y0,y1⟩:=hb1
      clear hel hce hsv hpn hjL
      go_wp2_with (fail)
      go_round
      case rel=>exact⟨j+1,by go_num,by omega,by rw[HNX.out]⟩
      case measure=>simp[intOf];omega
     ·obtain rfl:j=n:=by omega
      go_wp2_with (fail)
      refine bodyPost_ret (v:=nextV 2 T b false) ?_ rfl ⟨rfl,HBW.out⟩
      rw[HNV2.out]
      simp[results,Tryz.results93,go_sem]
 ·obtain rfl:kind=3:=by omega
  obtain⟨W,hW⟩:∃W,w1.alloc (.cells #[.slice bo bn bc, .slice to_ tn tc, .slice none 0 0, .bool false, .bool true] 194)=W:=⟨_,rfl⟩
  have hn0:=mk true
  rw[hW]at hn0
  have HW:=Lib.hid hW
  clear mk hW
  have hcut:=broad_calls W hn0 HT.out
  rw[show wideF (pts T b)=cutF 3 (pts T b) from rfl]at hcut
  unfold CutPost at hcut
  obtain⟨n,hn⟩:∃n,(cutF 3 (pts T b)).1=n:=⟨_,rfl⟩
  obtain⟨rc,hrc⟩:∃n,(cutF 3 (pts T b)).2=n:=⟨_,rfl⟩
  have HNV:Hid (nextV 3 T b final= .tuple #[.int .i64 (sumN (pts T b) n), .bool (final || (decide (rc≤sureN (pts T b)) && (decide ((3:Int)=1) || !decide (pendF (pts T b) true))))]):=Lib.hid (by
   unfold nextV nextF
   rw[if_neg (by omega),hn,hrc]
   rfl)
  have hnL:n≤(pts T b).length:=by rw[←hn];exact(cutF_le 3 (pts T b)).1
  have hrL:rc≤1048576:=by have:=reach_small 3 (pts T b);have:=HLP.out;omega
  have HSU:Hid (sureC (pts T b) (rc-1)=decide (rc≤sureN (pts T b))):=Lib.hid (by rw[←hrc];exact reach_iff 3 T b)
  rw[hn,hrc]at hcut
  clear hn hrc hn0
  go_wp2_with (fail)
  rw[HW.out]
  refine hcut.mono ?_
  rintro e w2 ⟨rfl,k2,hs2,_,hk2⟩
  clear hcut
  cases final with
  | true=>
   obtain⟨L,hL⟩:∃L,pts T b=L:=⟨_,rfl⟩
   rw[hL]at HNV hs2 hk2 hnL HLP
   have HNV2:Hid (nextV 3 T b true= .tuple #[.int .i64 (sumN L n), .bool true]):=Lib.hid (by rw[HNV.out];rfl)
   have HSB:Hid (∀i,0≤sumN L i∧sumN L i≤1048575):=Lib.hid (fun i=>by rw[←hL];have:=sumN_le (t:=T) b i;have:=HLB.out;omega)
   clear hL
   have hkn:n≤k2:=by omega
   have hn20:n≤1048576:=by have:=HLP.out;omega
   have hbl:Below w1.heap.size w1 w2:=by
    obtain⟨v,hv⟩:=hs2
    exact hv.below
   have HBW:Hid (Below w.heap.size w w2):=Lib.hid (HB1.out.trans (hbl.mono HB1.out.size))
   obtain⟨ro,tv,vo,vc,op,hx,hsl,hkL⟩:=RdS.row hs2
   obtain⟨g0,g1,g2,g3,g4,gf⟩:=box5 hx
   have HSL:=Lib.hid hsl
   clear hbl hs2 hx hsl
   go_wp2_with (fail)
   go_loop [15,70] (fun v i=>∃j:Nat,i= .int .i64 j∧j≤n∧v= .int .i64 (sumN L j)) (fun _ i=>n-(intOf i).toNat)
   case atStart=>exact⟨0,rfl,by omega,by rw[sumN_zero]⟩
   case round=>
    obtain⟨j,rfl,hj,rfl⟩:=hrel
    by_cases hlt:j<n
    ·have gj:(j:Int)<(n:Int):=by omega
     have gk:(j:Int)<(k2:Int):=by omega
     have hjL:j<L.length:=by omega
     have hel:(L.take k2)[j]?=some (ptC L j):=by rw[List.getElem?_take,if_pos (by omega)];exact ptC_in hjL
     obtain⟨bb,oo,hao,hce⟩:=HSL.out.elem Pt.enc_len (by omega) hel
     subst hao
     have d2:=hce 2 _ rfl
     have HNX:=Lib.hid (sumN_next hjL)
     have hb0:=HSB.out j
     have hb1:=HSB.out (j+1)
     rw[HNX.out]at hb1
     obtain⟨sv,hsv⟩:∃sv,sumN L j=sv:=⟨_,rfl⟩
     obtain⟨pn,hpn⟩:∃pn,(ptC L j).n=pn:=⟨_,rfl⟩
     rw[hsv,hpn]at hb1 HNX
     rw[hsv]at hb0 ⊢
     rw[hpn]at d2
     obtain⟨x0,x1⟩:=hb0
     obtain⟨y0,y1⟩:=hb1
     clear hel hce hsv hpn hjL
     go_wp2_with (fail)
     go_round
     case rel=>exact⟨j+1,by go_num,by omega,by rw[HNX.out]⟩
     case measure=>simp[intOf];omega
    ·obtain rfl:j=n:=by omega
     go_wp2_with (fail)
     refine bodyPost_ret (v:=nextV 3 T b true) ?_ rfl ⟨rfl,HBW.out⟩
     rw[HNV2.out]
     simp[results,Tryz.results93,go_sem]
  | false=>
   have h3:=sure_calls rc w2 hs2 HT.out hrL
   rw[HSU.out]at h3
   obtain⟨s,hs⟩:∃s,decide (rc≤sureN (pts T b))=s:=⟨_,rfl⟩
   rw[hs]at h3 HNV
   clear hs
   cases s with
   | false=>
    have HNV2:Hid (nextV 3 T b false= .tuple #[.int .i64 (sumN (pts T b) n), .bool false]):=Lib.hid (by rw[HNV.out];rfl)
    clear hs2
    go_wp2_with (fail)
    refine h3.mono ?_
    rintro e w3 ⟨rfl,k3,hs3,hk3,_⟩
    clear h3
    obtain⟨L,hL⟩:∃L,pts T b=L:=⟨_,rfl⟩
    rw[hL]at HNV2 hs3 hk2 hnL HLP
    have HSB:Hid (∀i,0≤sumN L i∧sumN L i≤1048575):=Lib.hid (fun i=>by rw[←hL];have:=sumN_le (t:=T) b i;have:=HLB.out;omega)
    clear hL
    have hkn:n≤k3:=by omega
    have hn20:n≤1048576:=by have:=HLP.out;omega
    have hbl:Below w1.heap.size w1 w3:=by
     obtain⟨v,hv⟩:=hs3
     exact hv.below
    have HBW:Hid (Below w.heap.size w w3):=Lib.hid (HB1.out.trans (hbl.mono HB1.out.size))
    obtain⟨ro,tv,vo,vc,op,hx,hsl,hkL⟩:=RdS.row hs3
    obtain⟨g0,g1,g2,g3,g4,gf⟩:=box5 hx
    have HSL:=Lib.hid hsl
    clear hbl hs3 hx hsl
    go_wp2_with (fail)
    go_loop [15,70] (fun v i=>∃j:Nat,i= .int .i64 j∧j≤n∧v= .int .i64 (sumN L j)) (fun _ i=>n-(intOf i).toNat)
    case atStart=>exact⟨0,rfl,by omega,by rw[sumN_zero]⟩
    case round=>
     obtain⟨j,rfl,hj,rfl⟩:=hrel
     by_cases hlt:j<n
     ·have gj:(j:Int)<(n:Int):=by omega
      have gk:(j:Int)<(k3:Int):=by omega
      have hjL:j<L.length:=by omega
      have hel:(L.take k3)[j]?=some (ptC L j):=by rw[List.getElem?_take,if_pos (by omega)];exact ptC_in hjL
      obtain⟨bb,oo,hao,hce⟩:=HSL.out.elem Pt.enc_len (by omega) hel
      subst hao
      have d2:=hce 2 _ rfl
      have HNX:=Lib.hid (sumN_next hjL)
      have hb0:=HSB.out j
      have hb1:=HSB.out (j+1)
      rw[HNX.out]at hb1
      obtain⟨sv,hsv⟩:∃sv,sumN L j=sv:=⟨_,rfl⟩
      obtain⟨pn,hpn⟩:∃pn,(ptC L j).n=pn:=⟨_,rfl⟩
      rw[hsv,hpn]at hb1 HNX
      rw[hsv]at hb0 ⊢
      rw[hpn]at d2
      obtain⟨x0,x1⟩:=hb0
      obtain⟨y0,y1⟩:=hb1
      clear hel hce hsv hpn hjL
      go_wp2_with (fail)
      go_round
      case rel=>exact⟨j+1,by go_num,by omega,by rw[HNX.out]⟩
      case measure=>simp[intOf];omega
     ·obtain rfl:j=n:=by omega
      go_wp2_with (fail)
      refine bodyPost_ret (v:=nextV 3 T b false) ?_ rfl ⟨rfl,HBW.out⟩
      rw[HNV2.out]
      simp[results,Tryz.results93,go_sem]
   | true=>
    clear hs2
    go_wp2_with (fail)
    refine h3.mono ?_
    rintro e w3 ⟨rfl,k3,hs3,hk3,_⟩
    have h4:=pending_calls w3 hs3 HT.out (s2:=sureC (pts T b) 1) (s3:=sureC (pts T b) 2) (pd:=decide (pendF (pts T b) true)) rfl rfl (pend_iff T b true).symm
    obtain⟨pd,hpd⟩:∃s,decide (pendF (pts T b) true)=s:=⟨_,rfl⟩
    rw[hpd]at h4 HNV
    have HNV2:Hid (nextV 3 T b false= .tuple #[.int .i64 (sumN (pts T b) n), .bool (!pd)]):=Lib.hid (by rw[HNV.out];rfl)
    clear h3 hpd hs3
    go_wp2_with (fail)
    refine h4.mono ?_
    rintro e w4 ⟨rfl,k4,hs4,hk4,_⟩
    clear h4
    obtain⟨L,hL⟩:∃L,pts T b=L:=⟨_,rfl⟩
    rw[hL]at HNV2 hs4 hk2 hnL HLP
    have HSB:Hid (∀i,0≤sumN L i∧sumN L i≤1048575):=Lib.hid (fun i=>by rw[←hL];have:=sumN_le (t:=T) b i;have:=HLB.out;omega)
    clear hL
    have hkn:n≤k4:=by omega
    have hn20:n≤1048576:=by have:=HLP.out;omega
    have hbl:Below w1.heap.size w1 w4:=by
     obtain⟨v,hv⟩:=hs4
     exact hv.below
    have HBW:Hid (Below w.heap.size w w4):=Lib.hid (HB1.out.trans (hbl.mono HB1.out.size))
    obtain⟨ro,tv,vo,vc,op,hx,hsl,hkL⟩:=RdS.row hs4
    obtain⟨g0,g1,g2,g3,g4,gf⟩:=box5 hx
    have HSL:=Lib.hid hsl
    clear hbl hs4 hx hsl
    go_wp2_with (fail)
    go_loop [15,70] (fun v i=>∃j:Nat,i= .int .i64 j∧j≤n∧v= .int .i64 (sumN L j)) (fun _ i=>n-(intOf i).toNat)
    case atStart=>exact⟨0,rfl,by omega,by rw[sumN_zero]⟩
    case round=>
     obtain⟨j,rfl,hj,rfl⟩:=hrel
     by_cases hlt:j<n
     ·have gj:(j:Int)<(n:Int):=by omega
      have gk:(j:Int)<(k4:Int):=by omega
      have hjL:j<L.length:=by omega
      have hel:(L.take k4)[j]?=some (ptC L j):=by rw[List.getElem?_take,if_pos (by omega)];exact ptC_in hjL
      obtain⟨bb,oo,hao,hce⟩:=HSL.out.elem Pt.enc_len (by omega) hel
      subst hao
      have d2:=hce 2 _ rfl
      have HNX:=Lib.hid (sumN_next hjL)
      have hb0:=HSB.out j
      have hb1:=HSB.out (j+1)
      rw[HNX.out]at hb1
      obtain⟨sv,hsv⟩:∃sv,sumN L j=sv:=⟨_,rfl⟩
      obtain⟨pn,hpn⟩:∃pn,(ptC L j).n=pn:=⟨_,rfl⟩
      rw[hsv,hpn]at hb1 HNX
      rw[hsv]at hb0 ⊢
      rw[hpn]at d2
      obtain⟨x0,x1⟩:=hb0
      obtain⟨y0,y1⟩:=hb1
      clear hel hce hsv hpn hjL
      go_wp2_with (fail)
      go_round
      case rel=>exact⟨j+1,by go_num,by omega,by rw[HNX.out]⟩
      case measure=>simp[intOf];omega
     ·obtain rfl:j=n:=by omega
      go_wp2_with (fail)
      refine bodyPost_ret (v:=nextV 3 T b false) ?_ rfl ⟨rfl,HBW.out⟩
      rw[HNV2.out]
      simp[results,Tryz.results93,go_sem]
end Go.Proofs.YtimkkkdabmhedaaGreatDoor
