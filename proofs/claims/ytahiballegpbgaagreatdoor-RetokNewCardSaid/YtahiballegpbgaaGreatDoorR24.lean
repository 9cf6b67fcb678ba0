/- Walks of the reader: is, space, sure, small, run, blanks. -/
import Derived.Test.YtahiballegpbgaaGreatDoorR23
import Derived.Test.YtahiballegpbgaaGreatDoorR4
set_option linter.unusedVariables false
set_option maxHeartbeats 1000000
set_option maxRecDepth 100000
namespace Go.Proofs.YtahiballegpbgaaGreatDoor
open Go.RowKit
theorem oB.stay {w0 w w':World} {g:Nat} {T:List Rg} {wide:Bool} {L:List Pt} {k n:Nat} (h:oB w0 w g T wide L k n) (hb:Below w.heap.size w w'):oB w0 w' g T wide L k n:=by
 obtain⟨k',h1,h2,h3⟩:=h;exact⟨k',h1.stay hb,h2,h3⟩
theorem isC_in {L:List Pt} {i:Nat} {c:Int} (h:i<L.length):isC L i c=decide ((ptC L i).cls=c):=by
 unfold isC ptC;simp[h]
theorem isC_out {L:List Pt} {i:Nat} {c:Int} (h:¬i<L.length):isC L i c=false:=by
 unfold isC;rw[List.getElem?_eq_none (by omega)]
theorem spC_in {L:List Pt} {i:Nat} (h:i<L.length):spC L i=aBl (ptC L i):=by
 unfold spC ptC;simp[h]
theorem spC_out {L:List Pt} {i:Nat} (h:¬i<L.length):spC L i=false:=by
 unfold spC;rw[List.getElem?_eq_none (by omega)]
theorem yX {L:List Pt} {i:Nat} (h:i<L.length):qE L i=(ptC L i).sure:=by
 unfold qE ptC;simp[h]
theorem rU {L:List Pt} {i:Nat} (h:¬i<L.length):qE L i=false:=by
 unfold qE;rw[List.getElem?_eq_none (by omega)]
theorem cdC_in {L:List Pt} {i:Nat} {wide:Bool} (h:i<L.length):cdC L wide i=cdOf wide (ptC L i):=by
 unfold cdC ptC;simp[h]
theorem cdC_out {L:List Pt} {i:Nat} {wide:Bool} (h:¬i<L.length):cdC L wide i= -1:=by
 unfold cdC;rw[List.getElem?_eq_none (by omega)]
section
variable {w0:World} {g:Nat} {T:List Rg} {wide:Bool} {L:List Pt} {k:Nat}
theorem pM (i:Nat) (c:Int) (w:World) (h:RdS w0 w g T wide L k) (hT:oA T) (hi:i<=1048576):
  Calls Tryz.prog 234 #[.pointer (some ⟨g,0,none⟩), .int .i64 i, .int .i64 c] w fun e w'=>e= .returned (.bool (isC L i c))/\oB w0 w' g T wide L k (i+1):=by
 have hat:=F3 i w h hT hi;clear h;go_enter Tryz.func234,Tryz.ntmps234;go_wp2_with (fail);refine hat.mono ?_
 rintro e w1 ⟨rfl,hr⟩;have hr2:=hr.stay (aA w1 (.cells #[.int .i64 (ptC L i).code, .int .i64 (ptC L i).cls, .int .i64 (ptC L i).n, .bool (ptC L i).sure] 273));have HR:=hW_ hr2;clear hr hr2 hat;unfold ptV
 by_cases hl:i<L.length
 ·have hd:decide (i<L.length)=true:=by simpa using hl
  have HI:Hid (isC L i c=decide ((ptC L i).cls=c)):=hW_ (isC_in hl);obtain⟨p,hp⟩:∃p,ptC L i=p:=⟨_,rfl⟩;rw[hp]at HR HI |-;rw[hd];clear hl hd hp
  by_cases hc:p.cls=c
  ·have hb:(p.cls==c)=true:=by simpa using hc
   rw[decide_eq_true hc]at HI;clear hc;go_wp2_with (fail);go_ret;exact⟨sA HI.out.symm,HR.out⟩
  ·have hb:(p.cls==c)=false:=by simpa using hc
   rw[decide_eq_false hc]at HI;clear hc;go_wp2_with (fail);go_ret;exact⟨sA HI.out.symm,HR.out⟩
 ·have hd:decide (i<L.length)=false:=by simpa using hl
  have HI:Hid (isC L i c=false):=hW_ (isC_out hl);obtain⟨p,hp⟩:∃p,ptC L i=p:=⟨_,rfl⟩;rw[hp]at HR |-;rw[hd];clear hl hd hp;go_wp2_with (fail);go_ret;exact⟨sA HI.out.symm,HR.out⟩
theorem zT (c:Int) (w:World):Calls Tryz.prog 247 #[.int .i64 c] w fun e w'=>e= .returned (.bool (decide (c=3) || decide (c=4)))/\w=w':=by
 go_enter Tryz.func247,Tryz.ntmps247
 by_cases h3:c=3
 ·subst h3;go_wp2_with (fail);go_ret;exact⟨rfl,rfl⟩
 ·by_cases h4:c=4
  ·subst h4;go_wp2_with (fail);go_ret;exact⟨rfl,rfl⟩
  ·have b3:(c==3)=false:=by simpa using h3
   have b4:(c==4)=false:=by simpa using h4
   go_wp2_with (fail);go_ret;exact⟨by simp[h3,h4],rfl⟩
theorem qP (i:Nat) (w:World) (h:RdS w0 w g T wide L k) (hT:oA T) (hi:i<=1048576):
  Calls Tryz.prog 228 #[.pointer (some ⟨g,0,none⟩), .int .i64 i] w fun e w'=>e= .returned (.bool (spC L i))/\oB w0 w' g T wide L k (i+1):=by
 have hat:=F3 i w h hT hi;clear h;go_enter Tryz.func228,Tryz.ntmps228;go_wp2_with (fail);refine hat.mono ?_
 rintro e w1 ⟨rfl,hr⟩;have hr2:=hr.stay (aA w1 (.cells #[.int .i64 (ptC L i).code, .int .i64 (ptC L i).cls, .int .i64 (ptC L i).n, .bool (ptC L i).sure] 273));have HR:=hW_ hr2;clear hr hr2 hat;unfold ptV
 by_cases hl:i<L.length
 ·have hd:decide (i<L.length)=true:=by simpa using hl
  have HI:Hid (spC L i=aBl (ptC L i)):=hW_ (spC_in hl);obtain⟨p,hp⟩:∃p,ptC L i=p:=⟨_,rfl⟩;rw[hp]at HR HI |-;rw[hd];clear hl hd hp;go_wp2_with (fail);refine(zT p.cls _).mono ?_
  rintro e w2 ⟨rfl,rfl⟩;have hb:(decide (p.cls=3) || decide (p.cls=4))=aBl p:=rfl;rw[hb];clear hb;go_wp2_with (fail);go_ret;exact⟨sA HI.out.symm,HR.out⟩
 ·have hd:decide (i<L.length)=false:=by simpa using hl
  have HI:Hid (spC L i=false):=hW_ (spC_out hl);obtain⟨p,hp⟩:∃p,ptC L i=p:=⟨_,rfl⟩;rw[hp]at HR |-;rw[hd];clear hl hd hp;go_wp2_with (fail);go_ret;exact⟨sA HI.out.symm,HR.out⟩
theorem nG (n:Nat) (w:World) (h:RdS w0 w g T wide L k) (hT:oA T) (hi:n<=1048576):
  Calls Tryz.prog 207 #[.pointer (some ⟨g,0,none⟩), .int .i64 n] w fun e w'=>e= .returned (.bool (qE L (n-1)))/\oB w0 w' g T wide L k (n-1+1):=by
 have hat:=F3 (n-1) w h hT (by omega);have hmx:max (0:Int) ((n:Int)-1)=((n-1:Nat):Int):=by omega
 obtain⟨i,hi2⟩:∃i,n-1=i:=⟨_,rfl⟩;rw[hi2]at hat hmx |-;clear h hi2;go_enter Tryz.func207,Tryz.ntmps207;go_wp2_with (fail);refine hat.mono ?_
 rintro e w1 ⟨rfl,hr⟩;have hr2:=hr.stay (aA w1 (.cells #[.int .i64 (ptC L i).code, .int .i64 (ptC L i).cls, .int .i64 (ptC L i).n, .bool (ptC L i).sure] 273));have HR:=hW_ hr2;clear hr hr2 hat hmx;unfold ptV
 by_cases hl:i<L.length
 ·have hd:decide (i<L.length)=true:=by simpa using hl
  have HI:Hid (qE L i=(ptC L i).sure):=hW_ (yX hl);obtain⟨p,hp⟩:∃p,ptC L i=p:=⟨_,rfl⟩;rw[hp]at HR HI |-;rw[hd];clear hl hd hp;go_wp2_with (fail);go_ret;exact⟨sA HI.out.symm,HR.out⟩
 ·have hd:decide (i<L.length)=false:=by simpa using hl
  have HI:Hid (qE L i=false):=hW_ (rU hl);obtain⟨p,hp⟩:∃p,ptC L i=p:=⟨_,rfl⟩;rw[hp]at HR |-;rw[hd];clear hl hd hp;go_wp2_with (fail);go_ret;exact⟨sA HI.out.symm,HR.out⟩
theorem qH (i:Nat) (w:World) (h:RdS w0 w g T wide L k) (hT:oA T) (hi:i<=1048576):
  Calls Tryz.prog 235 #[.pointer (some ⟨g,0,none⟩), .int .i64 i] w fun e w'=>e= .returned (.int .i64 (cdC L wide i))/\oB w0 w' g T wide L k (i+1):=by
 have hat:=F3 i w h hT hi;clear h;go_enter Tryz.func235,Tryz.ntmps235;go_wp2_with (fail);refine hat.mono ?_
 rintro e w1 ⟨rfl,hr⟩;have hr2:=hr.stay (aA w1 (.cells #[.int .i64 (ptC L i).code, .int .i64 (ptC L i).cls, .int .i64 (ptC L i).n, .bool (ptC L i).sure] 273));have HR:=hW_ hr2;obtain⟨k',⟨v,hv⟩,_⟩:=hr;obtain⟨ro,rn,rc,rest,op,to_,tn,tc,hx,_⟩:=hv.ex;have hx2:=(Below.heap_alloc _ (.cells #[.int .i64 (ptC L i).code, .int .i64 (ptC L i).cls, .int .i64 (ptC L i).n, .bool (ptC L i).sure] 273) _ hv.lt).trans hx;obtain⟨_,_,_,_,g4,_⟩:=aF hx2;clear hr2 hat hx hx2 hv;unfold ptV
 by_cases hl:i<L.length
 ·have hd:decide (i<L.length)=true:=by simpa using hl
  have HI:Hid (cdC L wide i=cdOf wide (ptC L i)):=hW_ (cdC_in hl);obtain⟨p,hp⟩:∃p,ptC L i=p:=⟨_,rfl⟩;rw[hp]at HR HI g4 |-;rw[hd];clear hl hd hp
  by_cases hc:wide=true/\65<=p.code/\p.code<=90
  ·obtain⟨rfl,h1,h2⟩:=hc;have HE:Hid (cdC L true i=p.code+32):=hW_ (by rw[HI.out];simp[cdOf,h1,h2]);go_wp2_with (fail);refine bodyPost_ret (v:= .int .i64 (cdC L true i)) ?_ rfl ⟨rfl,HR.out⟩
   rw[HE.out];simp[results,Tryz.results235,go_sem];omega
  ·have HE:Hid (cdC L wide i=p.code):=hW_ (by rw[HI.out];unfold cdOf;rw[if_neg hc])
   cases wide with
   | false=>
    go_wp2_with (fail);refine bodyPost_ret (v:= .int .i64 (cdC L false i)) ?_ rfl ⟨rfl,HR.out⟩
    rw[HE.out];simp[results,Tryz.results235,go_sem]
   | true=>
    by_cases h1:65<=p.code
    ·have h2:¬p.code<=90:=fun h=>hc ⟨rfl,h1,h⟩
     clear hc;go_wp2_with (fail);refine bodyPost_ret (v:= .int .i64 (cdC L true i)) ?_ rfl ⟨rfl,HR.out⟩
     rw[HE.out];simp[results,Tryz.results235,go_sem]
    ·clear hc;go_wp2_with (fail);refine bodyPost_ret (v:= .int .i64 (cdC L true i)) ?_ rfl ⟨rfl,HR.out⟩
     rw[HE.out];simp[results,Tryz.results235,go_sem]
 ·have hd:decide (i<L.length)=false:=by simpa using hl
  have HI:Hid (cdC L wide i= -1):=hW_ (cdC_out hl);obtain⟨p,hp⟩:∃p,ptC L i=p:=⟨_,rfl⟩;rw[hp]at HR g4 |-;rw[hd];clear hl hd hp;go_wp2_with (fail);refine bodyPost_ret (v:= .int .i64 (cdC L wide i)) ?_ rfl ⟨rfl,HR.out⟩
  rw[HI.out];simp[results,Tryz.results235,go_sem]
end
theorem RdS.small {w0 w:World} {g:Nat} {T:List Rg} {wide:Bool} {L:List Pt} {k:Nat} (h:RdS w0 w g T wide L k):L.length<=1048576:=by
 obtain⟨v,hv⟩:=h;exact hv.small
theorem oB.trans {w0 w':World} {g:Nat} {T:List Rg} {wide:Bool} {L:List Pt} {k n k' m:Nat} (h:oB w0 w' g T wide L k' m) (hk:k<=k') (hn:min n L.length<=k'):oB w0 w' g T wide L k (max n m):=by
 obtain⟨k2,h1,h2,h3⟩:=h;exact⟨k2,h1,by omega,by omega⟩
theorem oB.le {w0 w':World} {g:Nat} {T:List Rg} {wide:Bool} {L:List Pt} {k n m:Nat} (h:oB w0 w' g T wide L k n) (hm:m<=n):oB w0 w' g T wide L k m:=by
 obtain⟨k2,h1,h2,h3⟩:=h;exact⟨k2,h1,h2,by omega⟩
theorem RdS.row {w0 w:World} {g:Nat} {T:List Rg} {wide:Bool} {L:List Pt} {k:Nat} (h:RdS w0 w g T wide L k):
  ∃ro tv vo vc op,w.heap[g]?=some (.cells #[ro,tv, .slice vo k vc, .bool op, .bool wide] 270)/\SlF 4 w vo k vc (flat Pt.enc (L.take k))/\k<=L.length:=by
 obtain⟨v,hv⟩:=h;obtain⟨ro,rn,rc,rest,op,to_,tn,tc,hx,_⟩:=hv.ex;obtain⟨vo,vc,rfl,hsl⟩:=hv.own.sl;have hvl:(L.take k).length=k:=by rw[List.length_take];have:=hv.le;omega
 rw[hvl]at hx hsl;exact⟨_,_,vo,vc,op,hx,hsl,hv.le⟩
section
variable {w0:World} {g:Nat} {T:List Rg} {wide:Bool} {L:List Pt} {k:Nat}
theorem zO (i:Nat) (c:Int) (w:World) (h:RdS w0 w g T wide L k) (hT:oA T) (hi:i<=1048576):
  Calls Tryz.prog 232 #[.pointer (some ⟨g,0,none⟩), .int .i64 i, .int .i64 c] w fun e w'=>e= .returned (.int .i64 ((i+bB L i c:Nat):Int))/\oB w0 w' g T wide L k (i+bB L i c+1):=by
 have hsm:=h.small;have HR0:Hid (oB w0 w g T wide L k 0):=hW_ ⟨k,h,Nat.le_refl _,by omega⟩;clear h;go_enter Tryz.func232,Tryz.ntmps232;go_wp2_with (fail);go_loopw [1] (fun v wr=>∃j:Nat,i<=j/\v= .int .i64 j/\j<=1048577/\Hid (i+bB L i c=j+bB L j c)/\Hid (j<=i\/j<=L.length)/\Hid (oB w0 wr g T wide L k 0)) (fun v _=>L.length-(intOf v).toNat)
 case atStart=>exact⟨i,Nat.le_refl _,rfl,by omega,hW_ rfl,hW_ (.inl (Nat.le_refl _)),HR0⟩
 case round=>
  obtain⟨j,hij,rfl,hjm,HJ,HJL,HR⟩:=hrel;obtain⟨k',hs,hk',_⟩:=HR.out;have hj2:j<=1048576:=by have:=HJL.out;omega
  have hcall:=pM j c wr hs hT hj2;clear hs
  cases hc:isC L j c with
  | true=>
   have hy:=bK hc;have HY:=hW_ hy;rw[hc]at hcall;clear hc hy;go_wp2_with (fail);refine hcall.mono ?_
   rintro e w2 ⟨rfl,hr2⟩;have HR2:Hid (oB w0 w2 g T wide L k 0):=hW_ ((hr2.trans hk' (n:=0) (by omega)).le (Nat.zero_le _));clear hcall hr2;go_wp2_with (fail);go_roundw
   case rel=>exact⟨j+1,by omega,by go_num,by omega,hW_ (by rw[HJ.out,HY.out.1];omega),hW_ (.inr (by have:=HY.out.2;omega)),HR2⟩
   case measure=>have:=HY.out.2;simp[intOf];omega
  | false=>
   have HN:Hid (i+bB L i c=j):=hW_ (by rw[HJ.out,aBV hc];rfl);rw[hc]at hcall;clear hc;go_wp2_with (fail);refine hcall.mono ?_
   rintro e w2 ⟨rfl,hr2⟩;have HR2:Hid (oB w0 w2 g T wide L k (j+1)):=hW_ ((hr2.trans hk' (n:=0) (by omega)).le (by omega));clear hcall hr2;go_wp2_with (fail);go_ret;exact⟨by rw[HN.out];rfl,by rw[HN.out];exact HR2.out⟩
theorem nJ (w:World) (h:RdS w0 w g T wide L k) (hT:oA T):
  Calls Tryz.prog 226 #[.pointer (some ⟨g,0,none⟩)] w fun e w'=>e= .returned (.tuple #[.int .i64 (spN L 0:Nat), .int .i64 (cD L (spN L 0):Nat)])/\oB w0 w' g T wide L k (spN L 0+1):=by
 have hsm:=h.small;have HR0:Hid (oB w0 w g T wide L k 0):=hW_ ⟨k,h,Nat.le_refl _,by omega⟩;clear h;go_enter Tryz.func226,Tryz.ntmps226;go_wp2_with (fail);go_loopw [4,5] (fun v l wr=>∃j:Nat,v= .int .i64 j/\l= .int .i64 (cD L j:Nat)/\j<=L.length/\Hid (spN L 0=j+spN L j)/\Hid (oB w0 wr g T wide L k 0)) (fun v _ _=>L.length-(intOf v).toNat)
 case atStart=>exact⟨0,rfl,rfl,by omega,hW_ (by omega),HR0⟩
 case round=>
  obtain⟨j,rfl,rfl,hjm,HJ,HR⟩:=hrel;obtain⟨k',hs,hk',_⟩:=HR.out;have hcall:=qP j wr hs hT (by omega);clear hs
  cases hc:spC L j with
  | true=>
   have hy:=V4 hc;have HY:=hW_ hy;rw[hc]at hcall;clear hc;go_wp2_with (fail);refine hcall.mono ?_
   rintro e w2 ⟨rfl,hr2⟩;have HR2:Hid (oB w0 w2 g T wide L k 0):=hW_ ((hr2.trans hk' (n:=0) (by omega)).le (Nat.zero_le _));obtain⟨k2,hs2,_,hk2⟩:=hr2;have hjk:j<k2:=by have:=hy.2;omega
   obtain⟨ro,tv,vo,vc,op,hx,hsl,_⟩:=hs2.row;obtain⟨g0,g1,g2,g3,g4,gf⟩:=aF hx;have hel:(L.take k2)[j]?=some (ptC L j):=by rw[List.getElem?_take,if_pos hjk];exact mF hy.2
   obtain⟨b,o,hao,hce⟩:=hsl.elem Pt.enc_len (by omega) hel;subst hao;have HIC:Hid (isC L j 4=decide ((ptC L j).cls=4)):=hW_ (isC_in hy.2);obtain⟨p,hp⟩:∃p,ptC L j=p:=⟨_,rfl⟩;rw[hp]at hce HIC;have d1:=hce 1 _ rfl;have gj:(j:Int)<(k2:Int):=by omega
   have gw:IntKind.i64.wrap ((j:Int)+1-1)=(j:Int):=by rw[IntKind.wrap_i64];omega
   have gs:(j:Int)+1-1=(j:Int):=by omega
   have gj0:(0:Int)<=(j:Int):=by omega
   clear hcall hs2 hx hsl hel hce hp hy
   by_cases h4:p.cls=4
   ·have hb:(p.cls==4)=true:=by simpa using h4
    rw[decide_eq_true h4]at HIC;clear h4;go_wp2_with (fail);go_roundw
    case rel=>exact⟨j+1,by go_num,by simp[cD,HIC.out],by have:=HY.out.2;omega,hW_ (by rw[HJ.out,HY.out.1];omega),HR2⟩
    case measure=>have:=HY.out.2;simp[intOf];omega
   ·have hb:(p.cls==4)=false:=by simpa using h4
    rw[decide_eq_false h4]at HIC;clear h4;go_wp2_with (fail);go_roundw
    case rel=>exact⟨j+1,by go_num,by simp[cD,HIC.out],by have:=HY.out.2;omega,hW_ (by rw[HJ.out,HY.out.1];omega),HR2⟩
    case measure=>have:=HY.out.2;simp[intOf];omega
  | false=>
   have HN:Hid (spN L 0=j):=hW_ (by rw[HJ.out,spN_no hc];rfl);rw[hc]at hcall;clear hc;go_wp2_with (fail);refine hcall.mono ?_
   rintro e w2 ⟨rfl,hr2⟩;have HR2:Hid (oB w0 w2 g T wide L k (j+1)):=hW_ ((hr2.trans hk' (n:=0) (by omega)).le (by omega));clear hcall hr2;go_wp2_with (fail);refine bodyPost_ret (v:= .tuple #[.int .i64 (spN L 0:Nat), .int .i64 (cD L (spN L 0):Nat)]) ?_ rfl ⟨rfl,by rw[HN.out];exact HR2.out⟩
   rw[HN.out];simp[results,Tryz.results226,go_sem]
theorem U7 (c:Int) (w:World) (h:RdS w0 w g T wide L k) (hT:oA T):
  Calls Tryz.prog 230 #[.pointer (some ⟨g,0,none⟩), .int .i64 c] w fun e w'=>e= .returned (.int .i64 (A7 L c:Nat))/\oB w0 w' g T wide L k (A7 L c+1):=by
 have hat:=F3 0 w h hT (by omega);clear h;go_enter Tryz.func230,Tryz.ntmps230;go_wp2_with (fail);refine hat.mono ?_
 rintro e w1 ⟨rfl,hr⟩;have hr2:=hr.stay (aA w1 (.cells #[.int .i64 (ptC L 0).code, .int .i64 (ptC L 0).cls, .int .i64 (ptC L 0).n, .bool (ptC L 0).sure] 273));obtain⟨k1,hs1,hk1,_⟩:=hr2;have HLED:Hid (A7 L c=if(ptC L 0).code=32/\isC L 1 c=true then 1+bB L 1 c else bB L 0 c):=hW_ rfl;have hris:=pM 1 c _ hs1 hT (by omega);have hrun0:=fun W (k':Nat) (h:RdS w0 W g T wide L k')=>zO 0 c W h hT (by omega)
 have hrun1:=fun W (k':Nat) (h:RdS w0 W g T wide L k')=>zO 1 c W h hT (by omega)
 obtain⟨p,hp⟩:∃p,ptC L 0=p:=⟨_,rfl⟩;unfold ptV;obtain⟨W1,hW1⟩:∃W1,w1.alloc (.cells #[.int .i64 p.code, .int .i64 p.cls, .int .i64 p.n, .bool p.sure] 273)=W1:=⟨_,rfl⟩;rw[hp]at hris hs1 HLED |-;rw[hW1]at hris hs1;have HS1:=hW_ hs1;have HW1:=hW_ hW1;clear hat hr hp hs1 hW1
 by_cases h32:p.code=32
 ·have hb:(p.code==32)=true:=by simpa using h32
  have HL2:Hid (A7 L c=if isC L 1 c=true then 1+bB L 1 c else bB L 0 c):=hW_ (by rw[HLED.out];simp[h32]);clear h32;go_wp2_with (fail);rw[HW1.out];refine hris.mono ?_
  rintro e w2 ⟨rfl,k2,hs2,hk2,_⟩
  cases hc:isC L 1 c with
  | true=>
   have HL3:Hid (A7 L c=1+bB L 1 c):=hW_ (by rw[HL2.out,hc];simp);have h1:=hrun1 w2 k2 hs2;clear hc hris hs2 hrun0 hrun1;go_wp2_with (fail);refine h1.mono ?_
   rintro e w3 ⟨rfl,hr3⟩;have HR3:Hid (oB w0 w3 g T wide L k (A7 L c+1)):=hW_ ((hr3.trans (k:=k) (by omega) (n:=0) (by omega)).le (by rw[HL3.out];omega));rw[<-HL3.out];clear h1 hr3;go_wp2_with (fail);go_ret;exact⟨rfl,HR3.out⟩
  | false=>
   have HL3:Hid (A7 L c=0+bB L 0 c):=hW_ (by rw[HL2.out,hc];simp);have h1:=hrun0 w2 k2 hs2;clear hc hris hs2 hrun0 hrun1;go_wp2_with (fail);refine h1.mono ?_
   rintro e w3 ⟨rfl,hr3⟩;have HR3:Hid (oB w0 w3 g T wide L k (A7 L c+1)):=hW_ ((hr3.trans (k:=k) (by omega) (n:=0) (by omega)).le (by rw[HL3.out];omega));rw[<-HL3.out];clear h1 hr3;go_wp2_with (fail);go_ret;exact⟨rfl,HR3.out⟩
 ·have hb:(p.code==32)=false:=by simpa using h32
  have HL3:Hid (A7 L c=0+bB L 0 c):=hW_ (by rw[HLED.out,if_neg (fun h=>h32 h.1)];omega);have h1:=hrun0 W1 k1 HS1.out;clear hris hrun0 hrun1 h32;go_wp2_with (fail);rw[HW1.out];refine h1.mono ?_
  rintro e w3 ⟨rfl,hr3⟩;have HR3:Hid (oB w0 w3 g T wide L k (A7 L c+1)):=hW_ ((hr3.trans (k:=k) (by omega) (n:=0) (by omega)).le (by rw[HL3.out];omega));rw[<-HL3.out];clear h1 hr3;go_wp2_with (fail);go_ret;exact⟨rfl,HR3.out⟩
theorem bN (w:World) (h:RdS w0 w g T wide L k) (hT:oA T):
  Calls Tryz.prog 231 #[.pointer (some ⟨g,0,none⟩)] w fun e w'=>e= .returned (.tuple #[.int .i64 ((qA L).1:Nat), .int .i64 ((qA L).2:Nat)])/\oB w0 w' g T wide L k ((qA L).1):=by
 have hsm:=h.small;have hbl:=nJ w h hT;have hle:=aJ L 0;have hat:∀W (k':Nat),RdS w0 W g T wide L k'->Calls Tryz.prog 227 #[.pointer (some ⟨g,0,none⟩), .int .i64 (spN L 0:Nat)] W (aBK w0 g T wide L k' (spN L 0)):=fun W k' h=>F3 (spN L 0) W h hT (by omega)
 have HF:Hid (qA L=if spN L 0<L.length/\1<spN L 0 then(spN L 0-1,spN L 0+1)else(spN L 0,spN L 0+1)):=hW_ rfl;obtain⟨n,hn⟩:∃n,spN L 0=n:=⟨_,rfl⟩;obtain⟨ln,hln⟩:∃ln,cD L (spN L 0)=ln:=⟨_,rfl⟩;rw[hln]at hbl;rw[hn]at hbl hat HF hle;have hnm:n<=1048576:=by omega
 clear h hn hln hle;go_enter Tryz.func231,Tryz.ntmps231;go_wp2_with (fail);refine hbl.mono ?_
 rintro e w1 ⟨rfl,k1,hs1,hk1,_⟩;have h1:=hat w1 k1 hs1;clear hbl hs1 hat;go_wp2_with (fail);refine h1.mono ?_
 rintro e w2 ⟨rfl,hr⟩;have hr2:=hr.stay (aA w2 (.cells #[.int .i64 (ptC L n).code, .int .i64 (ptC L n).cls, .int .i64 (ptC L n).n, .bool (ptC L n).sure] 273));have HR2:Hid (oB w0 (w2.alloc (.cells #[.int .i64 (ptC L n).code, .int .i64 (ptC L n).cls, .int .i64 (ptC L n).n, .bool (ptC L n).sure] 273)) g T wide L k (n+1)):=hW_ ((hr2.trans (k:=k) hk1 (n:=0) (by omega)).le (by omega));unfold ptV;obtain⟨p,hp⟩:∃p,ptC L n=p:=⟨_,rfl⟩;rw[hp]at HR2 |-;clear hr hr2 h1 hp
 by_cases hl:n<L.length
 ·have hd:decide (n<L.length)=true:=by simpa using hl
  rw[hd]
  by_cases h1n:1<n
  ·have HF2:Hid (qA L=(n-1,n+1)):=hW_ (by rw[HF.out,if_pos ⟨hl,h1n⟩]);have g1:(1:Int)<(n:Int):=by omega
   have gs:(n:Int)-1=((n-1:Nat):Int):=by omega
   clear hl hd;go_wp2_with (fail);refine bodyPost_ret (v:= .tuple #[.int .i64 ((qA L).1:Nat), .int .i64 ((qA L).2:Nat)]) ?_ rfl ⟨rfl,by rw[HF2.out];exact HR2.out.le (by first | (show n-1<=n+1;omega) | (show n<=n+1;omega))⟩
   rw[HF2.out];simp[results,Tryz.results231,go_sem]
  ·have HF2:Hid (qA L=(n,n+1)):=hW_ (by rw[HF.out,if_neg (fun h=>h1n h.2)]);have g1:¬(1:Int)<(n:Int):=by omega
   clear hl hd;go_wp2_with (fail);refine bodyPost_ret (v:= .tuple #[.int .i64 ((qA L).1:Nat), .int .i64 ((qA L).2:Nat)]) ?_ rfl ⟨rfl,by rw[HF2.out];exact HR2.out.le (by first | (show n-1<=n+1;omega) | (show n<=n+1;omega))⟩
   rw[HF2.out];simp[results,Tryz.results231,go_sem]
 ·have hd:decide (n<L.length)=false:=by simpa using hl
  have HF2:Hid (qA L=(n,n+1)):=hW_ (by rw[HF.out,if_neg (fun h=>hl h.1)]);rw[hd];clear hl hd;go_wp2_with (fail);refine bodyPost_ret (v:= .tuple #[.int .i64 ((qA L).1:Nat), .int .i64 ((qA L).2:Nat)]) ?_ rfl ⟨rfl,by rw[HF2.out];exact HR2.out.le (by first | (show n-1<=n+1;omega) | (show n<=n+1;omega))⟩
  rw[HF2.out];simp[results,Tryz.results231,go_sem]
end
end Go.Proofs.YtahiballegpbgaaGreatDoor
