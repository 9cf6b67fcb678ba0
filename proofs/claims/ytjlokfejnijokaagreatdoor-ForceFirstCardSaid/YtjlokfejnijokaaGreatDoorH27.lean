/- Walks of the reader: at, is, space, sure, small. -/
import Derived.Test.YtjlokfejnijokaaGreatDoorH26
import Derived.Test.YtjlokfejnijokaaGreatDoorH20
import Derived.Deep.LoopGhost
import Derived.Test.YtjlokfejnijokaaGreatDoorH5
set_option linter.unusedVariables false
set_option maxHeartbeats 2000000
set_option maxRecDepth 100000
namespace Go.Proofs.YtjlokfejnijokaaGreatDoor
open Go.RowKit
def ptV (p:Pt):Value:= .agg #[.int .i64 p.code, .int .i64 p.cls, .int .i64 p.n, .bool p.sure]
structure RdS (w0 w:World) (g:Nat) (T:List Rg) (wide:Bool) (L:List Pt) (k:Nat):Prop where
 ex:∃v,RdV w0 w g T wide L k v
theorem RdS.stay {w0 w w':World} {g:Nat} {T:List Rg} {wide:Bool} {L:List Pt} {k:Nat} (h:RdS w0 w g T wide L k) (hb:Below w.heap.size w w'):RdS w0 w' g T wide L k:=by
 obtain⟨v,h⟩:=h;exact⟨v,h.stay hb⟩
def A7 (w0 w':World) (g:Nat) (T:List Rg) (wide:Bool) (L:List Pt) (k n:Nat):Prop:=∃k',RdS w0 w' g T wide L k'/\k<=k'/\min n L.length<=k'
theorem E2 {L:List Pt} {i:Nat} (h:i<L.length):L[i]?=some (ptC L i):=by simp[ptC,h]
theorem ptC_out {L:List Pt} {i:Nat} (h:¬i<L.length):ptC L i=⟨0,0,0,false⟩:=by
 unfold ptC;rw[List.getElem?_eq_none (by omega)]
theorem box4r {w:World} {g:Nat} {a b c d:Value} {t:TypeId} (h:w.heap[g]?=some (.cells #[a,b,c,d] t)):
  w.cell? ⟨g,0,none⟩=some a/\w.cell? ⟨g,1,none⟩=some b/\w.cell? ⟨g,2,none⟩=some c/\w.cell? ⟨g,3,none⟩=some d/\∀o,w.frozen? ⟨g,o,none⟩=false:=by
 simp[World.cell?,World.frozen?,h]
def aAq (w0:World) (g:Nat) (T:List Rg) (wide:Bool) (L:List Pt) (k i:Nat) (e:Ending) (w':World):Prop:=
 e= .returned (.tuple #[ptV (ptC L i), .bool (decide (i<L.length))])/\A7 w0 w' g T wide L k (i+1)
theorem jF {w0:World} {g:Nat} {T:List Rg} {wide:Bool} {L:List Pt} {k:Nat} (i:Nat) (w:World) (h:RdS w0 w g T wide L k) (hT:mA T) (hi:i<=1048576):
  Calls Tryz.prog 220 #[.pointer (some ⟨g,0,none⟩), .int .i64 i] w (aAq w0 g T wide L k i):=by
 obtain⟨v,h⟩:=h;obtain⟨W,hW⟩:∃W,w.alloc (.cells #[.int .i64 0, .int .i64 0, .int .i64 0, .bool false] 263)=W:=⟨_,rfl⟩;have hbW:Below w.heap.size w W:=hW▸aA w _;have HV0:=hW_ (h.stay hbW);have hxW:W.heap[w.heap.size]?=some (.cells #[.int .i64 0, .int .i64 0, .int .i64 0, .bool false] 263):=by rw[<-hW];exact heap_alloc_new w _
 have HXW:=hW_ hxW;have hglt:=h.lt;have HR0:Hid (w0.heap.size<=w.heap.size):=hW_ h.below.size;have HAP0:Hid (v.ownBlock≠some w.heap.size):=hW_ (fun e=>by have:=(World.ownsRow.lt h.own _ e).2;omega);have HT:=hW_ hT;have HW:=hW_ hW;have hsW:w.heap.size<W.heap.size:=by rw[<-hW];simp
 have hsm:=h.small;clear h hxW hT hW hbW;go_enter Tryz.func220,Tryz.ntmps220;go_wp2_with (fail);rw[HW.out]
 go_loopg [] (L.length-k) (fun m wr=>∃(k':Nat) (v':Value),m=L.length-k'/\k<=k'/\Hid (RdV w0 wr g T wide L k' v')/\Hid (v'.ownBlock≠some w.heap.size)/\Hid (wr.heap[w.heap.size]?=some (.cells #[.int .i64 0, .int .i64 0, .int .i64 0, .bool false] 263))/\w.heap.size<wr.heap.size)
 case atStart=>exact⟨k,v,rfl,Nat.le_refl _,HV0,HAP0,HXW,hsW⟩
 case round=>
  obtain⟨k',v',rfl,hk,HV,HAP,HX,hsz⟩:=hrel;have hle:=HV.out.le;obtain⟨ro,rn,rc,rest,op,to_,tn,tc,hx,_⟩:=HV.out.ex;obtain⟨vo,vc,rfl,hsl⟩:=HV.out.own.sl;have hvl:(L.take k').length=k':=by rw[List.length_take];omega
  rw[hvl]at hx hsl HV HAP;obtain⟨g0,g1,g2,g3,g4,gf⟩:=mH hx;have HSL:=hW_ hsl;have hmore:=kZ wr HV.out HT.out;clear hx hsl hvl
  by_cases hlt:k'<=i
  ·have gk:(k':Int)<=(i:Int):=by omega
   go_wp2_with (fail);refine hmore.mono ?_
   rintro e w2 (⟨rfl,hkL,rfl⟩ | ⟨rfl,hkL,v2,hv2,hob,hfr⟩)
   ·obtain⟨c0,c1,c2,c3,cf⟩:=box4r HX.out;clear hmore;go_wp2_with (fail);have hni:¬i<L.length:=by omega
    refine bodyPost_ret (v:= .tuple #[ptV (ptC L i), .bool (decide (i<L.length))]) ?_ rfl ⟨rfl,k',⟨_,(((HV.out.set HR0.out (Ne.symm (Nat.ne_of_lt hglt)) HAP.out 0 (.int .i64 0)).set HR0.out (Ne.symm (Nat.ne_of_lt hglt)) HAP.out 1 (.int .i64 0)).set HR0.out (Ne.symm (Nat.ne_of_lt hglt)) HAP.out 2 (.int .i64 0)).set HR0.out (Ne.symm (Nat.ne_of_lt hglt)) HAP.out 3 (.bool false)⟩,hk,by omega⟩
    rw[ptC_out hni];simp[results,Tryz.results220,go_sem,ptV,hni,c0,c1,c2,c3]
   ·have HX2:=hW_ ((hfr w.heap.size hsz (Nat.ne_of_gt hglt) HAP.out).trans HX.out);have HV2:=hW_ hv2;have HAP2:Hid (v2.ownBlock≠some w.heap.size):=hW_ (by
     rcases hob with h | ⟨q,h1,h2⟩
     ·rw[h];exact HAP.out
     ·rw[h1];intro e;cases e;omega)
    have hsz2:w.heap.size<w2.heap.size:=(Array.getElem?_eq_some_iff.1 HX2.out).1;clear hmore hv2 hob hfr;go_wp2_with (fail)
    go_roundg (L.length-(k'+1))
    case measure=>omega
    case rel=>exact⟨k'+1,v2,rfl,by omega,HV2,HAP2,HX2,hsz2⟩
  ·have hiL:i<L.length:=by omega
   have hik:i<k':=by omega
   have gk:¬(k':Int)<=(i:Int):=by omega
   have gi:(i:Int)<(k':Int):=by omega
   have hel:(L.take k')[i]?=some (ptC L i):=by rw[List.getElem?_take,if_pos hik];exact E2 hiL
   obtain⟨b,o,hao,hce⟩:=HSL.out.elem Pt.enc_len (by omega) hel;subst hao;obtain⟨p,hp⟩:∃p,ptC L i=p:=⟨_,rfl⟩;rw[hp]at hce;have d0:=hce 0 _ rfl;have d1:=hce 1 _ rfl;have d2:=hce 2 _ rfl;have d3:=hce 3 _ rfl;rw[Nat.add_zero]at d0;obtain⟨c0,c1,c2,c3,cf⟩:=box4r HX.out;clear hmore hel hce;go_wp2_with (fail);refine bodyPost_ret (v:= .tuple #[ptV (ptC L i), .bool (decide (i<L.length))]) ?_ rfl ⟨rfl,k',⟨_,(((HV.out.set HR0.out (Ne.symm (Nat.ne_of_lt hglt)) HAP.out 0 (.int .i64 p.code)).set HR0.out (Ne.symm (Nat.ne_of_lt hglt)) HAP.out 1 (.int .i64 p.cls)).set HR0.out (Ne.symm (Nat.ne_of_lt hglt)) HAP.out 2 (.int .i64 p.n)).set HR0.out (Ne.symm (Nat.ne_of_lt hglt)) HAP.out 3 (.bool p.sure)⟩,hk,by omega⟩
   rw[hp];simp[results,Tryz.results220,go_sem,ptV,hiL,c0,c1,c2,c3]
theorem A7.stay {w0 w w':World} {g:Nat} {T:List Rg} {wide:Bool} {L:List Pt} {k n:Nat} (h:A7 w0 w g T wide L k n) (hb:Below w.heap.size w w'):A7 w0 w' g T wide L k n:=by
 obtain⟨k',h1,h2,h3⟩:=h;exact⟨k',h1.stay hb,h2,h3⟩
theorem isC_in {L:List Pt} {i:Nat} {c:Int} (h:i<L.length):isC L i c=decide ((ptC L i).cls=c):=by
 unfold isC ptC;simp[h]
theorem isC_out {L:List Pt} {i:Nat} {c:Int} (h:¬i<L.length):isC L i c=false:=by
 unfold isC;rw[List.getElem?_eq_none (by omega)]
theorem spC_in {L:List Pt} {i:Nat} (h:i<L.length):spC L i=uZ (ptC L i):=by
 unfold spC ptC;simp[h]
theorem spC_out {L:List Pt} {i:Nat} (h:¬i<L.length):spC L i=false:=by
 unfold spC;rw[List.getElem?_eq_none (by omega)]
theorem oV {L:List Pt} {i:Nat} (h:i<L.length):D7 L i=(ptC L i).sure:=by
 unfold D7 ptC;simp[h]
theorem oS {L:List Pt} {i:Nat} (h:¬i<L.length):D7 L i=false:=by
 unfold D7;rw[List.getElem?_eq_none (by omega)]
theorem cdC_in {L:List Pt} {i:Nat} {wide:Bool} (h:i<L.length):cdC L wide i=cdOf wide (ptC L i):=by
 unfold cdC ptC;simp[h]
theorem cdC_out {L:List Pt} {i:Nat} {wide:Bool} (h:¬i<L.length):cdC L wide i= -1:=by
 unfold cdC;rw[List.getElem?_eq_none (by omega)]
section
variable {w0:World} {g:Nat} {T:List Rg} {wide:Bool} {L:List Pt} {k:Nat}
theorem jL (i:Nat) (c:Int) (w:World) (h:RdS w0 w g T wide L k) (hT:mA T) (hi:i<=1048576):
  Calls Tryz.prog 227 #[.pointer (some ⟨g,0,none⟩), .int .i64 i, .int .i64 c] w fun e w'=>e= .returned (.bool (isC L i c))/\A7 w0 w' g T wide L k (i+1):=by
 have hat:=jF i w h hT hi;clear h;go_enter Tryz.func227,Tryz.ntmps227;go_wp2_with (fail);refine hat.mono ?_
 rintro e w1 ⟨rfl,hr⟩;have hr2:=hr.stay (aA w1 (.cells #[.int .i64 (ptC L i).code, .int .i64 (ptC L i).cls, .int .i64 (ptC L i).n, .bool (ptC L i).sure] 263));have HR:=hW_ hr2;clear hr hr2 hat;unfold ptV
 by_cases hl:i<L.length
 ·have hd:decide (i<L.length)=true:=by simpa using hl
  have HI:Hid (isC L i c=decide ((ptC L i).cls=c)):=hW_ (isC_in hl);obtain⟨p,hp⟩:∃p,ptC L i=p:=⟨_,rfl⟩;rw[hp]at HR HI |-;rw[hd];clear hl hd hp
  by_cases hc:p.cls=c
  ·have hb:(p.cls==c)=true:=by simpa using hc
   rw[decide_eq_true hc]at HI;clear hc;go_wp2_with (fail);go_ret;exact⟨lA HI.out.symm,HR.out⟩
  ·have hb:(p.cls==c)=false:=by simpa using hc
   rw[decide_eq_false hc]at HI;clear hc;go_wp2_with (fail);go_ret;exact⟨lA HI.out.symm,HR.out⟩
 ·have hd:decide (i<L.length)=false:=by simpa using hl
  have HI:Hid (isC L i c=false):=hW_ (isC_out hl);obtain⟨p,hp⟩:∃p,ptC L i=p:=⟨_,rfl⟩;rw[hp]at HR |-;rw[hd];clear hl hd hp;go_wp2_with (fail);go_ret;exact⟨lA HI.out.symm,HR.out⟩
theorem xR (c:Int) (w:World):Calls Tryz.prog 242 #[.int .i64 c] w fun e w'=>e= .returned (.bool (decide (c=3) || decide (c=4)))/\w=w':=by
 go_enter Tryz.func242,Tryz.ntmps242
 by_cases h3:c=3
 ·subst h3;go_wp2_with (fail);go_ret;exact⟨rfl,rfl⟩
 ·by_cases h4:c=4
  ·subst h4;go_wp2_with (fail);go_ret;exact⟨rfl,rfl⟩
  ·have b3:(c==3)=false:=by simpa using h3
   have b4:(c==4)=false:=by simpa using h4
   go_wp2_with (fail);go_ret;exact⟨by simp[h3,h4],rfl⟩
theorem N9 (i:Nat) (w:World) (h:RdS w0 w g T wide L k) (hT:mA T) (hi:i<=1048576):
  Calls Tryz.prog 221 #[.pointer (some ⟨g,0,none⟩), .int .i64 i] w fun e w'=>e= .returned (.bool (spC L i))/\A7 w0 w' g T wide L k (i+1):=by
 have hat:=jF i w h hT hi;clear h;go_enter Tryz.func221,Tryz.ntmps221;go_wp2_with (fail);refine hat.mono ?_
 rintro e w1 ⟨rfl,hr⟩;have hr2:=hr.stay (aA w1 (.cells #[.int .i64 (ptC L i).code, .int .i64 (ptC L i).cls, .int .i64 (ptC L i).n, .bool (ptC L i).sure] 263));have HR:=hW_ hr2;clear hr hr2 hat;unfold ptV
 by_cases hl:i<L.length
 ·have hd:decide (i<L.length)=true:=by simpa using hl
  have HI:Hid (spC L i=uZ (ptC L i)):=hW_ (spC_in hl);obtain⟨p,hp⟩:∃p,ptC L i=p:=⟨_,rfl⟩;rw[hp]at HR HI |-;rw[hd];clear hl hd hp;go_wp2_with (fail);refine(xR p.cls _).mono ?_
  rintro e w2 ⟨rfl,rfl⟩;have hb:(decide (p.cls=3) || decide (p.cls=4))=uZ p:=rfl;rw[hb];clear hb;go_wp2_with (fail);go_ret;exact⟨lA HI.out.symm,HR.out⟩
 ·have hd:decide (i<L.length)=false:=by simpa using hl
  have HI:Hid (spC L i=false):=hW_ (spC_out hl);obtain⟨p,hp⟩:∃p,ptC L i=p:=⟨_,rfl⟩;rw[hp]at HR |-;rw[hd];clear hl hd hp;go_wp2_with (fail);go_ret;exact⟨lA HI.out.symm,HR.out⟩
theorem F3 (n:Nat) (w:World) (h:RdS w0 w g T wide L k) (hT:mA T) (hi:n<=1048576):
  Calls Tryz.prog 201 #[.pointer (some ⟨g,0,none⟩), .int .i64 n] w fun e w'=>e= .returned (.bool (D7 L (n-1)))/\A7 w0 w' g T wide L k (n-1+1):=by
 have hat:=jF (n-1) w h hT (by omega);have hmx:max (0:Int) ((n:Int)-1)=((n-1:Nat):Int):=by omega
 obtain⟨i,hi2⟩:∃i,n-1=i:=⟨_,rfl⟩;rw[hi2]at hat hmx |-;clear h hi2;go_enter Tryz.func201,Tryz.ntmps201;go_wp2_with (fail);refine hat.mono ?_
 rintro e w1 ⟨rfl,hr⟩;have hr2:=hr.stay (aA w1 (.cells #[.int .i64 (ptC L i).code, .int .i64 (ptC L i).cls, .int .i64 (ptC L i).n, .bool (ptC L i).sure] 263));have HR:=hW_ hr2;clear hr hr2 hat hmx;unfold ptV
 by_cases hl:i<L.length
 ·have hd:decide (i<L.length)=true:=by simpa using hl
  have HI:Hid (D7 L i=(ptC L i).sure):=hW_ (oV hl);obtain⟨p,hp⟩:∃p,ptC L i=p:=⟨_,rfl⟩;rw[hp]at HR HI |-;rw[hd];clear hl hd hp;go_wp2_with (fail);go_ret;exact⟨lA HI.out.symm,HR.out⟩
 ·have hd:decide (i<L.length)=false:=by simpa using hl
  have HI:Hid (D7 L i=false):=hW_ (oS hl);obtain⟨p,hp⟩:∃p,ptC L i=p:=⟨_,rfl⟩;rw[hp]at HR |-;rw[hd];clear hl hd hp;go_wp2_with (fail);go_ret;exact⟨lA HI.out.symm,HR.out⟩
theorem rG (i:Nat) (w:World) (h:RdS w0 w g T wide L k) (hT:mA T) (hi:i<=1048576):
  Calls Tryz.prog 228 #[.pointer (some ⟨g,0,none⟩), .int .i64 i] w fun e w'=>e= .returned (.int .i64 (cdC L wide i))/\A7 w0 w' g T wide L k (i+1):=by
 have hat:=jF i w h hT hi;clear h;go_enter Tryz.func228,Tryz.ntmps228;go_wp2_with (fail);refine hat.mono ?_
 rintro e w1 ⟨rfl,hr⟩;have hr2:=hr.stay (aA w1 (.cells #[.int .i64 (ptC L i).code, .int .i64 (ptC L i).cls, .int .i64 (ptC L i).n, .bool (ptC L i).sure] 263));have HR:=hW_ hr2;obtain⟨k',⟨v,hv⟩,_⟩:=hr;obtain⟨ro,rn,rc,rest,op,to_,tn,tc,hx,_⟩:=hv.ex;have hx2:=(Below.heap_alloc _ (.cells #[.int .i64 (ptC L i).code, .int .i64 (ptC L i).cls, .int .i64 (ptC L i).n, .bool (ptC L i).sure] 263) _ hv.lt).trans hx;obtain⟨_,_,_,_,g4,_⟩:=mH hx2;clear hr2 hat hx hx2 hv;unfold ptV
 by_cases hl:i<L.length
 ·have hd:decide (i<L.length)=true:=by simpa using hl
  have HI:Hid (cdC L wide i=cdOf wide (ptC L i)):=hW_ (cdC_in hl);obtain⟨p,hp⟩:∃p,ptC L i=p:=⟨_,rfl⟩;rw[hp]at HR HI g4 |-;rw[hd];clear hl hd hp
  by_cases hc:wide=true/\65<=p.code/\p.code<=90
  ·obtain⟨rfl,h1,h2⟩:=hc;have HE:Hid (cdC L true i=p.code+32):=hW_ (by rw[HI.out];simp[cdOf,h1,h2]);go_wp2_with (fail);refine bodyPost_ret (v:= .int .i64 (cdC L true i)) ?_ rfl ⟨rfl,HR.out⟩
   rw[HE.out];simp[results,Tryz.results228,go_sem];omega
  ·have HE:Hid (cdC L wide i=p.code):=hW_ (by rw[HI.out];unfold cdOf;rw[if_neg hc])
   cases wide with
   | false=>
    go_wp2_with (fail);refine bodyPost_ret (v:= .int .i64 (cdC L false i)) ?_ rfl ⟨rfl,HR.out⟩
    rw[HE.out];simp[results,Tryz.results228,go_sem]
   | true=>
    by_cases h1:65<=p.code
    ·have h2:¬p.code<=90:=fun h=>hc ⟨rfl,h1,h⟩
     clear hc;go_wp2_with (fail);refine bodyPost_ret (v:= .int .i64 (cdC L true i)) ?_ rfl ⟨rfl,HR.out⟩
     rw[HE.out];simp[results,Tryz.results228,go_sem]
    ·clear hc;go_wp2_with (fail);refine bodyPost_ret (v:= .int .i64 (cdC L true i)) ?_ rfl ⟨rfl,HR.out⟩
     rw[HE.out];simp[results,Tryz.results228,go_sem]
 ·have hd:decide (i<L.length)=false:=by simpa using hl
  have HI:Hid (cdC L wide i= -1):=hW_ (cdC_out hl);obtain⟨p,hp⟩:∃p,ptC L i=p:=⟨_,rfl⟩;rw[hp]at HR g4 |-;rw[hd];clear hl hd hp;go_wp2_with (fail);refine bodyPost_ret (v:= .int .i64 (cdC L wide i)) ?_ rfl ⟨rfl,HR.out⟩
  rw[HI.out];simp[results,Tryz.results228,go_sem]
end
theorem RdS.small {w0 w:World} {g:Nat} {T:List Rg} {wide:Bool} {L:List Pt} {k:Nat} (h:RdS w0 w g T wide L k):L.length<=1048576:=by
 obtain⟨v,hv⟩:=h;exact hv.small
theorem A7.trans {w0 w':World} {g:Nat} {T:List Rg} {wide:Bool} {L:List Pt} {k n k' m:Nat} (h:A7 w0 w' g T wide L k' m) (hk:k<=k') (hn:min n L.length<=k'):A7 w0 w' g T wide L k (max n m):=by
 obtain⟨k2,h1,h2,h3⟩:=h;exact⟨k2,h1,by omega,by omega⟩
theorem A7.le {w0 w':World} {g:Nat} {T:List Rg} {wide:Bool} {L:List Pt} {k n m:Nat} (h:A7 w0 w' g T wide L k n) (hm:m<=n):A7 w0 w' g T wide L k m:=by
 obtain⟨k2,h1,h2,h3⟩:=h;exact⟨k2,h1,h2,by omega⟩
theorem RdS.row {w0 w:World} {g:Nat} {T:List Rg} {wide:Bool} {L:List Pt} {k:Nat} (h:RdS w0 w g T wide L k):
  ∃ro tv vo vc op,w.heap[g]?=some (.cells #[ro,tv, .slice vo k vc, .bool op, .bool wide] 260)/\SlF 4 w vo k vc (flat Pt.enc (L.take k))/\k<=L.length:=by
 obtain⟨v,hv⟩:=h;obtain⟨ro,rn,rc,rest,op,to_,tn,tc,hx,_⟩:=hv.ex;obtain⟨vo,vc,rfl,hsl⟩:=hv.own.sl;have hvl:(L.take k).length=k:=by rw[List.length_take];have:=hv.le;omega
 rw[hvl]at hx hsl;exact⟨_,_,vo,vc,op,hx,hsl,hv.le⟩
section
variable {w0:World} {g:Nat} {T:List Rg} {wide:Bool} {L:List Pt} {k:Nat}
theorem fN (i:Nat) (c:Int) (w:World) (h:RdS w0 w g T wide L k) (hT:mA T) (hi:i<=1048576):
  Calls Tryz.prog 225 #[.pointer (some ⟨g,0,none⟩), .int .i64 i, .int .i64 c] w fun e w'=>e= .returned (.int .i64 ((i+eB L i c:Nat):Int))/\A7 w0 w' g T wide L k (i+eB L i c+1):=by
 have hsm:=h.small;have HR0:Hid (A7 w0 w g T wide L k 0):=hW_ ⟨k,h,Nat.le_refl _,by omega⟩;clear h;go_enter Tryz.func225,Tryz.ntmps225;go_wp2_with (fail);go_loopw [1] (fun v wr=>∃j:Nat,i<=j/\v= .int .i64 j/\j<=1048577/\Hid (i+eB L i c=j+eB L j c)/\Hid (j<=i\/j<=L.length)/\Hid (A7 w0 wr g T wide L k 0)) (fun v _=>L.length-(intOf v).toNat)
 case atStart=>exact⟨i,Nat.le_refl _,rfl,by omega,hW_ rfl,hW_ (.inl (Nat.le_refl _)),HR0⟩
 case round=>
  obtain⟨j,hij,rfl,hjm,HJ,HJL,HR⟩:=hrel;obtain⟨k',hs,hk',_⟩:=HR.out;have hj2:j<=1048576:=by have:=HJL.out;omega
  have hcall:=jL j c wr hs hT hj2;clear hs
  cases hc:isC L j c with
  | true=>
   have hy:=I8 hc;have HY:=hW_ hy;rw[hc]at hcall;clear hc hy;go_wp2_with (fail);refine hcall.mono ?_
   rintro e w2 ⟨rfl,hr2⟩;have HR2:Hid (A7 w0 w2 g T wide L k 0):=hW_ ((hr2.trans hk' (n:=0) (by omega)).le (Nat.zero_le _));clear hcall hr2;go_wp2_with (fail);go_roundw
   case rel=>exact⟨j+1,by omega,by go_num,by omega,hW_ (by rw[HJ.out,HY.out.1];omega),hW_ (.inr (by have:=HY.out.2;omega)),HR2⟩
   case measure=>have:=HY.out.2;simp[intOf];omega
  | false=>
   have HN:Hid (i+eB L i c=j):=hW_ (by rw[HJ.out,aAy hc];rfl);rw[hc]at hcall;clear hc;go_wp2_with (fail);refine hcall.mono ?_
   rintro e w2 ⟨rfl,hr2⟩;have HR2:Hid (A7 w0 w2 g T wide L k (j+1)):=hW_ ((hr2.trans hk' (n:=0) (by omega)).le (by omega));clear hcall hr2;go_wp2_with (fail);go_ret;exact⟨by rw[HN.out];rfl,by rw[HN.out];exact HR2.out⟩
theorem jI (w:World) (h:RdS w0 w g T wide L k) (hT:mA T):
  Calls Tryz.prog 219 #[.pointer (some ⟨g,0,none⟩)] w fun e w'=>e= .returned (.tuple #[.int .i64 (spN L 0:Nat), .int .i64 (rF L (spN L 0):Nat)])/\A7 w0 w' g T wide L k (spN L 0+1):=by
 have hsm:=h.small;have HR0:Hid (A7 w0 w g T wide L k 0):=hW_ ⟨k,h,Nat.le_refl _,by omega⟩;clear h;go_enter Tryz.func219,Tryz.ntmps219;go_wp2_with (fail);go_loopw [4,5] (fun v l wr=>∃j:Nat,v= .int .i64 j/\l= .int .i64 (rF L j:Nat)/\j<=L.length/\Hid (spN L 0=j+spN L j)/\Hid (A7 w0 wr g T wide L k 0)) (fun v _ _=>L.length-(intOf v).toNat)
 case atStart=>exact⟨0,rfl,rfl,by omega,hW_ (by omega),HR0⟩
 case round=>
  obtain⟨j,rfl,rfl,hjm,HJ,HR⟩:=hrel;obtain⟨k',hs,hk',_⟩:=HR.out;have hcall:=N9 j wr hs hT (by omega);clear hs
  cases hc:spC L j with
  | true=>
   have hy:=T3 hc;have HY:=hW_ hy;rw[hc]at hcall;clear hc;go_wp2_with (fail);refine hcall.mono ?_
   rintro e w2 ⟨rfl,hr2⟩;have HR2:Hid (A7 w0 w2 g T wide L k 0):=hW_ ((hr2.trans hk' (n:=0) (by omega)).le (Nat.zero_le _));obtain⟨k2,hs2,_,hk2⟩:=hr2;have hjk:j<k2:=by have:=hy.2;omega
   obtain⟨ro,tv,vo,vc,op,hx,hsl,_⟩:=hs2.row;obtain⟨g0,g1,g2,g3,g4,gf⟩:=mH hx;have hel:(L.take k2)[j]?=some (ptC L j):=by rw[List.getElem?_take,if_pos hjk];exact E2 hy.2
   obtain⟨b,o,hao,hce⟩:=hsl.elem Pt.enc_len (by omega) hel;subst hao;have HIC:Hid (isC L j 4=decide ((ptC L j).cls=4)):=hW_ (isC_in hy.2);obtain⟨p,hp⟩:∃p,ptC L j=p:=⟨_,rfl⟩;rw[hp]at hce HIC;have d1:=hce 1 _ rfl;have gj:(j:Int)<(k2:Int):=by omega
   have gw:IntKind.i64.wrap ((j:Int)+1-1)=(j:Int):=by rw[IntKind.wrap_i64];omega
   have gs:(j:Int)+1-1=(j:Int):=by omega
   have gj0:(0:Int)<=(j:Int):=by omega
   clear hcall hs2 hx hsl hel hce hp hy
   by_cases h4:p.cls=4
   ·have hb:(p.cls==4)=true:=by simpa using h4
    rw[decide_eq_true h4]at HIC;clear h4;go_wp2_with (fail);go_roundw
    case rel=>exact⟨j+1,by go_num,by simp[rF,HIC.out],by have:=HY.out.2;omega,hW_ (by rw[HJ.out,HY.out.1];omega),HR2⟩
    case measure=>have:=HY.out.2;simp[intOf];omega
   ·have hb:(p.cls==4)=false:=by simpa using h4
    rw[decide_eq_false h4]at HIC;clear h4;go_wp2_with (fail);go_roundw
    case rel=>exact⟨j+1,by go_num,by simp[rF,HIC.out],by have:=HY.out.2;omega,hW_ (by rw[HJ.out,HY.out.1];omega),HR2⟩
    case measure=>have:=HY.out.2;simp[intOf];omega
  | false=>
   have HN:Hid (spN L 0=j):=hW_ (by rw[HJ.out,spN_no hc];rfl);rw[hc]at hcall;clear hc;go_wp2_with (fail);refine hcall.mono ?_
   rintro e w2 ⟨rfl,hr2⟩;have HR2:Hid (A7 w0 w2 g T wide L k (j+1)):=hW_ ((hr2.trans hk' (n:=0) (by omega)).le (by omega));clear hcall hr2;go_wp2_with (fail);refine bodyPost_ret (v:= .tuple #[.int .i64 (spN L 0:Nat), .int .i64 (rF L (spN L 0):Nat)]) ?_ rfl ⟨rfl,by rw[HN.out];exact HR2.out⟩
   rw[HN.out];simp[results,Tryz.results219,go_sem]
theorem S5 (c:Int) (w:World) (h:RdS w0 w g T wide L k) (hT:mA T):
  Calls Tryz.prog 223 #[.pointer (some ⟨g,0,none⟩), .int .i64 c] w fun e w'=>e= .returned (.int .i64 (gB L c:Nat))/\A7 w0 w' g T wide L k (gB L c+1):=by
 have hat:=jF 0 w h hT (by omega);clear h;go_enter Tryz.func223,Tryz.ntmps223;go_wp2_with (fail);refine hat.mono ?_
 rintro e w1 ⟨rfl,hr⟩;have hr2:=hr.stay (aA w1 (.cells #[.int .i64 (ptC L 0).code, .int .i64 (ptC L 0).cls, .int .i64 (ptC L 0).n, .bool (ptC L 0).sure] 263));obtain⟨k1,hs1,hk1,_⟩:=hr2;have HLED:Hid (gB L c=if(ptC L 0).code=32/\isC L 1 c=true then 1+eB L 1 c else eB L 0 c):=hW_ rfl;have hris:=jL 1 c _ hs1 hT (by omega);have hrun0:=fun W (k':Nat) (h:RdS w0 W g T wide L k')=>fN 0 c W h hT (by omega)
 have hrun1:=fun W (k':Nat) (h:RdS w0 W g T wide L k')=>fN 1 c W h hT (by omega)
 obtain⟨p,hp⟩:∃p,ptC L 0=p:=⟨_,rfl⟩;unfold ptV;obtain⟨W1,hW1⟩:∃W1,w1.alloc (.cells #[.int .i64 p.code, .int .i64 p.cls, .int .i64 p.n, .bool p.sure] 263)=W1:=⟨_,rfl⟩;rw[hp]at hris hs1 HLED |-;rw[hW1]at hris hs1;have HS1:=hW_ hs1;have HW1:=hW_ hW1;clear hat hr hp hs1 hW1
 by_cases h32:p.code=32
 ·have hb:(p.code==32)=true:=by simpa using h32
  have HL2:Hid (gB L c=if isC L 1 c=true then 1+eB L 1 c else eB L 0 c):=hW_ (by rw[HLED.out];simp[h32]);clear h32;go_wp2_with (fail);rw[HW1.out];refine hris.mono ?_
  rintro e w2 ⟨rfl,k2,hs2,hk2,_⟩
  cases hc:isC L 1 c with
  | true=>
   have HL3:Hid (gB L c=1+eB L 1 c):=hW_ (by rw[HL2.out,hc];simp);have h1:=hrun1 w2 k2 hs2;clear hc hris hs2 hrun0 hrun1;go_wp2_with (fail);refine h1.mono ?_
   rintro e w3 ⟨rfl,hr3⟩;have HR3:Hid (A7 w0 w3 g T wide L k (gB L c+1)):=hW_ ((hr3.trans (k:=k) (by omega) (n:=0) (by omega)).le (by rw[HL3.out];omega));rw[<-HL3.out];clear h1 hr3;go_wp2_with (fail);go_ret;exact⟨rfl,HR3.out⟩
  | false=>
   have HL3:Hid (gB L c=0+eB L 0 c):=hW_ (by rw[HL2.out,hc];simp);have h1:=hrun0 w2 k2 hs2;clear hc hris hs2 hrun0 hrun1;go_wp2_with (fail);refine h1.mono ?_
   rintro e w3 ⟨rfl,hr3⟩;have HR3:Hid (A7 w0 w3 g T wide L k (gB L c+1)):=hW_ ((hr3.trans (k:=k) (by omega) (n:=0) (by omega)).le (by rw[HL3.out];omega));rw[<-HL3.out];clear h1 hr3;go_wp2_with (fail);go_ret;exact⟨rfl,HR3.out⟩
 ·have hb:(p.code==32)=false:=by simpa using h32
  have HL3:Hid (gB L c=0+eB L 0 c):=hW_ (by rw[HLED.out,if_neg (fun h=>h32 h.1)];omega);have h1:=hrun0 W1 k1 HS1.out;clear hris hrun0 hrun1 h32;go_wp2_with (fail);rw[HW1.out];refine h1.mono ?_
  rintro e w3 ⟨rfl,hr3⟩;have HR3:Hid (A7 w0 w3 g T wide L k (gB L c+1)):=hW_ ((hr3.trans (k:=k) (by omega) (n:=0) (by omega)).le (by rw[HL3.out];omega));rw[<-HL3.out];clear h1 hr3;go_wp2_with (fail);go_ret;exact⟨rfl,HR3.out⟩
theorem L1 (w:World) (h:RdS w0 w g T wide L k) (hT:mA T):
  Calls Tryz.prog 224 #[.pointer (some ⟨g,0,none⟩)] w fun e w'=>e= .returned (.tuple #[.int .i64 ((tA L).1:Nat), .int .i64 ((tA L).2:Nat)])/\A7 w0 w' g T wide L k ((tA L).1):=by
 have hsm:=h.small;have hbl:=jI w h hT;have hle:=H9 L 0;have hat:∀W (k':Nat),RdS w0 W g T wide L k'->Calls Tryz.prog 220 #[.pointer (some ⟨g,0,none⟩), .int .i64 (spN L 0:Nat)] W (aAq w0 g T wide L k' (spN L 0)):=fun W k' h=>jF (spN L 0) W h hT (by omega)
 have HF:Hid (tA L=if spN L 0<L.length/\1<spN L 0 then(spN L 0-1,spN L 0+1)else(spN L 0,spN L 0+1)):=hW_ rfl;obtain⟨n,hn⟩:∃n,spN L 0=n:=⟨_,rfl⟩;obtain⟨ln,hln⟩:∃ln,rF L (spN L 0)=ln:=⟨_,rfl⟩;rw[hln]at hbl;rw[hn]at hbl hat HF hle;have hnm:n<=1048576:=by omega
 clear h hn hln hle;go_enter Tryz.func224,Tryz.ntmps224;go_wp2_with (fail);refine hbl.mono ?_
 rintro e w1 ⟨rfl,k1,hs1,hk1,_⟩;have h1:=hat w1 k1 hs1;clear hbl hs1 hat;go_wp2_with (fail);refine h1.mono ?_
 rintro e w2 ⟨rfl,hr⟩;have hr2:=hr.stay (aA w2 (.cells #[.int .i64 (ptC L n).code, .int .i64 (ptC L n).cls, .int .i64 (ptC L n).n, .bool (ptC L n).sure] 263));have HR2:Hid (A7 w0 (w2.alloc (.cells #[.int .i64 (ptC L n).code, .int .i64 (ptC L n).cls, .int .i64 (ptC L n).n, .bool (ptC L n).sure] 263)) g T wide L k (n+1)):=hW_ ((hr2.trans (k:=k) hk1 (n:=0) (by omega)).le (by omega));unfold ptV;obtain⟨p,hp⟩:∃p,ptC L n=p:=⟨_,rfl⟩;rw[hp]at HR2 |-;clear hr hr2 h1 hp
 by_cases hl:n<L.length
 ·have hd:decide (n<L.length)=true:=by simpa using hl
  rw[hd]
  by_cases h1n:1<n
  ·have HF2:Hid (tA L=(n-1,n+1)):=hW_ (by rw[HF.out,if_pos ⟨hl,h1n⟩]);have g1:(1:Int)<(n:Int):=by omega
   have gs:(n:Int)-1=((n-1:Nat):Int):=by omega
   clear hl hd;go_wp2_with (fail);refine bodyPost_ret (v:= .tuple #[.int .i64 ((tA L).1:Nat), .int .i64 ((tA L).2:Nat)]) ?_ rfl ⟨rfl,by rw[HF2.out];exact HR2.out.le (by first | (show n-1<=n+1;omega) | (show n<=n+1;omega))⟩
   rw[HF2.out];simp[results,Tryz.results224,go_sem]
  ·have HF2:Hid (tA L=(n,n+1)):=hW_ (by rw[HF.out,if_neg (fun h=>h1n h.2)]);have g1:¬(1:Int)<(n:Int):=by omega
   clear hl hd;go_wp2_with (fail);refine bodyPost_ret (v:= .tuple #[.int .i64 ((tA L).1:Nat), .int .i64 ((tA L).2:Nat)]) ?_ rfl ⟨rfl,by rw[HF2.out];exact HR2.out.le (by first | (show n-1<=n+1;omega) | (show n<=n+1;omega))⟩
   rw[HF2.out];simp[results,Tryz.results224,go_sem]
 ·have hd:decide (n<L.length)=false:=by simpa using hl
  have HF2:Hid (tA L=(n,n+1)):=hW_ (by rw[HF.out,if_neg (fun h=>hl h.1)]);rw[hd];clear hl hd;go_wp2_with (fail);refine bodyPost_ret (v:= .tuple #[.int .i64 ((tA L).1:Nat), .int .i64 ((tA L).2:Nat)]) ?_ rfl ⟨rfl,by rw[HF2.out];exact HR2.out.le (by first | (show n-1<=n+1;omega) | (show n<=n+1;omega))⟩
  rw[HF2.out];simp[results,Tryz.results224,go_sem]
end
end Go.Proofs.YtjlokfejnijokaaGreatDoor
