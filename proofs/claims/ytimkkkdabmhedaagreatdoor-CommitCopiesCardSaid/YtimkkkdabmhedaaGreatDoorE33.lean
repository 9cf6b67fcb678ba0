/- Plain law: pieces that are decided stay, whatever comes behind the text. No program here. -/
import Derived.Test.YtimkkkdabmhedaaGreatDoorE32
import Derived.Test.YtimkkkdabmhedaaGreatDoorE29
set_option linter.unusedVariables false
set_option maxHeartbeats 1000000
namespace Go.Proofs.YtimkkkdabmhedaaGreatDoor
open Go
theorem gU {n:Int} {m:List Int}:∀{k:Nat} {p lo hi:Int} {l:List Int},(jB false n k p lo hi l).2.2=false->jB false n k p lo hi (l++m)=jB false n k p lo hi l
 | 0,p,lo,hi,l,_=>rfl
 | k+1,p,lo,hi,[],h=>by simp[jB]at h
 | k+1,p,lo,hi,x::l,h=>by
  rw[List.cons_append];simp only[jB]at h |-;split
  ·rfl
  ·next g=>
   rw[if_neg g]at h;exact gU h
theorem dec_app {b m:List Int} (hb:b≠[]) (h:(dec false b).2.2=false):dec false (b++m)=dec false b:=by
 cases b with
 | nil=>exact absurd rfl hb
 | cons c l=>
  rw[List.cons_append];simp only[dec]at h |-;split
  ·rfl
  ·next g=>
   rw[if_neg g]at h;exact gU h
theorem kZ {p:Pt} {L:List Pt} (h:p.sure=true):nA (p::L)=nA L+1:=by unfold nA;simp[h]
theorem pts_app {t:List Rg} (m b:List Int):∀i,i<nA (pts t b)->(pts t (b++m))[i]?=(pts t b)[i]? :=by
 refine kN (P:=fun b L=>∀i,i<nA L->(pts t (b++m))[i]?=L[i]?) (fun i hi=>by simp[nA]at hi) ?_ ?_ b
 ·intro b hb _ i hi;have:nA (b.map (fun _=>A4))=0:=by
   unfold nA
   cases b<;>simp[A4]
  omega
 ·intro b hb hm ih i hi;have hn:=(eM (final:=false) hb).2 hm;have e:=dec_app (m:=m) hb hm;rw[eE t hb hm]at hi |-;rw[kZ rfl]at hi;rw[eE t (by simp[hb]) (by rw[e];exact hm),e,List.drop_append_of_le_length (by omega)]
  cases i with
  | zero=>rfl
  | succ i=>
   rw[List.getElem?_cons_succ,List.getElem?_cons_succ];exact ih i (by omega)
structure Agr (L M:List Pt) (s:Nat):Prop where
 at_:∀i,i<s->M[i]?=L[i]?
 l:s<=L.length
 m:s<=M.length
section
variable {L M:List Pt} {s:Nat}
theorem Agr.tw (h:Agr L M s) (p:Pt->Bool):∀(d i:Nat),s-i=d->i<=s->min (i+((L.drop i).takeWhile p).length) s=min (i+((M.drop i).takeWhile p).length) s
 | 0,i,e,hi=>by omega
 | d+1,i,e,hi=>by
  have hl:=h.l;have hlt:i<s:=by omega
  obtain⟨x,hx⟩:∃x,L[i]?=some x:=⟨_,List.getElem?_eq_getElem (by omega)⟩
  have hy:M[i]?=some x:=(h.at_ i hlt).trans hx
  rw[wH hx,wH hy];have ih:=Agr.tw h p d (i+1) (by omega) (by omega)
  by_cases hp:p x=true
  ·rw[if_pos hp,if_pos hp];omega
  ·rw[if_neg hp,if_neg hp]
theorem Agr.row (h:Agr L M s) (c:Int) {i:Nat} (hi:i<=s):min (i+A5 L i c) s=min (i+A5 M i c) s:=h.tw _ _ i rfl hi
theorem Agr.sp (h:Agr L M s) {i:Nat} (hi:i<=s):min (i+spN L i) s=min (i+spN M i) s:=h.tw _ _ i rfl hi
theorem Agr.ns (h:Agr L M s) {i:Nat} (hi:i<=s):min (i+nsN L i) s=min (i+nsN M i) s:=h.tw _ _ i rfl hi
theorem Agr.isC (h:Agr L M s) {i:Nat} (hi:i<s) (c:Int):isC M i c=isC L i c:=by unfold Go.Proofs.YtimkkkdabmhedaaGreatDoor.isC;rw[h.at_ i hi]
theorem Agr.cdC (h:Agr L M s) {i:Nat} (hi:i<s) (w:Bool):cdC M w i=cdC L w i:=by unfold Go.Proofs.YtimkkkdabmhedaaGreatDoor.cdC;rw[h.at_ i hi]
theorem Agr.ptC (h:Agr L M s) {i:Nat} (hi:i<s):ptC M i=ptC L i:=by unfold Go.Proofs.YtimkkkdabmhedaaGreatDoor.ptC;rw[h.at_ i hi]
theorem Agr.line (h:Agr L M s):∀{n:Nat},n<=s->rB M n=rB L n
 | 0,_=>rfl
 | n+1,hn=>by
  simp only[rB];rw[h.isC (by omega),h.line (by omega)]
theorem Agr.led (h:Agr L M s) (h2:2<=s) (c:Int):min (A7 L c) s=min (A7 M c) s:=by
 have r1:=h.row c (i:=1) (by omega);have r0:=h.row c (i:=0) (by omega);unfold A7;rw[h.ptC (by omega),h.isC (by omega)];split
 ·exact r1
 ·simpa using r0
theorem Agr.end_ (h:Agr L M s) (h2:2<=s) {w:Bool} (hp:¬kC L w) (hs:s=nA L):B4 M w=B4 L w:=by
 unfold kC at hp;unfold B4;rw[h.cdC (by omega),h.cdC (by omega)]
 by_cases h0:Go.Proofs.YtimkkkdabmhedaaGreatDoor.cdC L w 0≠39
 ·rw[if_pos h0,if_pos h0]
 ·rw[if_neg h0,if_neg h0]
  by_cases h1:vI (Go.Proofs.YtimkkkdabmhedaaGreatDoor.cdC L w 1)
  ·rw[if_pos h1,if_pos h1]
  ·rw[if_neg h1,if_neg h1]
   by_cases h3:3<=s
   ·rw[h.cdC (by omega)]
   ·have hf:¬nL (Go.Proofs.YtimkkkdabmhedaaGreatDoor.cdC L w 1):=fun g=>hp ⟨by simpa using h0,by omega, .inr g⟩
    have hno:∀d,¬xJ (Go.Proofs.YtimkkkdabmhedaaGreatDoor.cdC L w 1) d:=fun d g=>hf (by unfold xJ at g;unfold nL;omega)
    rw[if_neg (hno _),if_neg (hno _)]
theorem fY {w:Bool} (h:0<B4 L w):2<=B4 L w:=by
 unfold B4 at h |-
 repeat' split at h
 all_goals simp_all
theorem mZ (h:1<=(mA L).1):2<=(mA L).2:=by
 unfold mA at h |-
 by_cases g:spN L 0<L.length/\1<spN L 0
 ·rw[if_pos g];simp only;omega
 ·rw[if_neg g]at h |-;simp only at h |-;omega
theorem aCc {kind:Int} (h:1<=(eD kind L).1):2<=(eD kind L).2:=by
 have hsp:=mZ (L:=L);unfold eD at h |-
 by_cases k1:kind=1
 ·rw[if_pos k1]at h |-;unfold sD at h |-;simp only at h |-;omega
 rw[if_neg k1]at h |-
 by_cases k2:kind=2
 ·rw[if_pos k2]at h |-;unfold C0 at h |-
  by_cases g0:0<B4 L false
  ·rw[if_pos g0];exact fY g0
  rw[if_neg g0]at h |-
  by_cases g1:0<A7 L 1
  ·rw[if_pos g1];simp only;omega
  rw[if_neg g1]at h |-
  by_cases g2:0<A7 L 2
  ·rw[if_pos g2];simp only;omega
  rw[if_neg g2]at h |-
  by_cases g3:0<A7 L 0
  ·rw[if_pos g3];simp only;omega
  rw[if_neg g3]at h |-;exact hsp h
 ·rw[if_neg k2]at h |-;unfold C7 at h |-
  by_cases g0:0<B4 L true
  ·rw[if_pos g0];exact fY g0
  rw[if_neg g0]at h |-
  by_cases g1:0<A5 L 0 1
  ·rw[if_pos g1];simp only;omega
  rw[if_neg g1]at h |-
  by_cases g2:dE L=true/\isC L 1 1=true
  ·rw[if_pos g2];simp only;omega
  rw[if_neg g2]at h |-
  by_cases g3:0<A5 L 0 2
  ·rw[if_pos g3];simp only;omega
  rw[if_neg g3]at h |-
  by_cases g4:0<A7 L 0
  ·rw[if_pos g4];simp only;omega
  rw[if_neg g4]at h |-
  by_cases g5:0<rB L (spN L 0)
  ·rw[if_pos g5]at h |-;have:=mH L (spN L 0);simp only at h |-;omega
  rw[if_neg g5]at h |-;exact hsp h
theorem Agr.spaces (h:Agr L M s) (hr:(mA L).2<=s):mA M=mA L:=by
 have r:=h.sp (i:=0) (by omega);have h1:=h.l;have h2:=h.m;have hx:spN L 0+1<=s:=by
  unfold mA at hr;split at hr<;>exact hr
 have e:spN M 0=spN L 0:=by omega
 unfold mA;rw[e]
 by_cases g:1<spN L 0
 ·rw[if_pos ⟨by omega,g⟩,if_pos ⟨by omega,g⟩]
 ·rw[if_neg (fun x=>g x.2),if_neg (fun x=>g x.2)]
theorem Agr.plain (h:Agr L M s) (h2:2<=s) (hs:s=nA L) (hp:¬kC L false) (hr:(C0 L).2<=s):C0 M=C0 L:=by
 have e0:=h.end_ h2 hp hs;have l0:=h.led h2 0;have l1:=h.led h2 1;have l2:=h.led h2 2;unfold C0 at hr |-;rw[e0]
 by_cases g0:0<B4 L false
 ·rw[if_pos g0,if_pos g0]
 rw[if_neg g0]at hr |-;rw[if_neg g0]
 by_cases g1:0<A7 L 1
 ·rw[if_pos g1]at hr |-;simp only at hr;rw[if_pos (by omega),show A7 M 1=A7 L 1 by omega]
 rw[if_neg g1]at hr |-;rw[if_neg (by omega)]
 by_cases g2:0<A7 L 2
 ·rw[if_pos g2]at hr |-;simp only at hr;rw[if_pos (by omega),show A7 M 2=A7 L 2 by omega]
 rw[if_neg g2]at hr |-;rw[if_neg (by omega)]
 by_cases g3:0<A7 L 0
 ·rw[if_pos g3]at hr |-;simp only at hr;rw[if_pos (by omega),show A7 M 0=A7 L 0 by omega]
 rw[if_neg g3]at hr |-;rw[if_neg (by omega)];exact h.spaces hr
theorem Agr.wide (h:Agr L M s) (h2:2<=s) (hs:s=nA L) (hp:¬kC L true) (hr:(C7 L).2<=s):C7 M=C7 L:=by
 have e0:=h.end_ h2 hp hs;have l0:=h.led h2 0;have r1:=h.row 1 (i:=0) (by omega);have r11:=h.row 1 (i:=1) (by omega);have r2:=h.row 2 (i:=0) (by omega);have ld:dE M=dE L:=by unfold dE;rw[h.ptC (by omega)]
 have sp0:=h.sp (i:=0) (by omega);unfold C7 at hr |-;rw[e0,ld,h.isC (by omega)]
 by_cases g0:0<B4 L true
 ·rw[if_pos g0,if_pos g0]
 rw[if_neg g0]at hr |-;rw[if_neg g0]
 by_cases g1:0<A5 L 0 1
 ·rw[if_pos g1]at hr |-;simp only at hr;rw[if_pos (by omega),show A5 M 0 1=A5 L 0 1 by omega]
 rw[if_neg g1]at hr |-;rw[if_neg (by omega)]
 by_cases g2:dE L=true/\Go.Proofs.YtimkkkdabmhedaaGreatDoor.isC L 1 1=true
 ·rw[if_pos g2]at hr |-;simp only at hr;rw[if_pos g2,show A5 M 1 1=A5 L 1 1 by omega]
 rw[if_neg g2]at hr |-;rw[if_neg g2]
 by_cases g3:0<A5 L 0 2
 ·rw[if_pos g3]at hr |-;simp only at hr;have g3':0<A5 M 0 2:=by omega
  have em:min (A5 M 0 2) 3=min (A5 L 0 2) 3:=by omega
  rw[if_pos g3',em]
 rw[if_neg g3]at hr |-;rw[if_neg (by omega)]
 by_cases g4:0<A7 L 0
 ·rw[if_pos g4]at hr |-;simp only at hr;have r4:=h.row 4 (i:=A7 L 0) (by omega);have e4:A7 M 0=A7 L 0:=by omega
  have e5:A5 M (A7 L 0) 4=A5 L (A7 L 0) 4:=by omega
  rw[e4,if_pos g4,e5]
 rw[if_neg g4]at hr |-;rw[if_neg (by omega)]
 by_cases g5:0<rB L (spN L 0)
 ·rw[if_pos g5]at hr |-;simp only at hr;have es:spN M 0=spN L 0:=by omega
  have el:rB M (spN L 0)=rB L (spN L 0):=h.line (by omega);rw[es,el,if_pos g5]
 rw[if_neg g5]at hr;have hx:spN L 0+1<=s:=by
  unfold mA at hr;split at hr<;>exact hr
 have es:spN M 0=spN L 0:=by omega
 have el:rB M (spN L 0)=rB L (spN L 0):=h.line (by omega);rw[es,el,if_neg g5,if_neg g5];exact h.spaces hr
theorem Agr.cut (h:Agr L M s) (kind:Int) (h2:2<=s) (hs:s=nA L) (hp:kind=1\/¬kC L (decide (kind=3))) (hk:kind=1\/kind=2\/kind=3) (hr:(eD kind L).2<=s):eD kind M=eD kind L:=by
 unfold eD at hr |-
 by_cases g1:kind=1
 ·rw[if_pos g1]at hr |-;rw[if_pos g1];have a:=h.sp (i:=0) (by omega);unfold sD at hr |-;simp only at hr;have b:=h.ns (i:=spN L 0) (by omega);rw[show spN M 0=spN L 0 by omega,show nsN M (spN L 0)=nsN L (spN L 0) by omega]
 ·have hp:=hp.resolve_left g1;rw[if_neg g1]at hr |-;rw[if_neg g1]
  by_cases g2:kind=2
  ·subst g2;rw[if_pos rfl]at hr |-;rw[if_pos rfl];exact h.plain h2 hs (by simpa using hp) hr
  ·obtain rfl:kind=3:=by omega
   rw[if_neg g2]at hr |-;rw[if_neg g2];exact h.wide h2 hs (by simpa using hp) hr
end
theorem sure_agr {L M:List Pt} (h:∀i,i<nA L->M[i]?=L[i]?) (hm:∀(i:Nat) (p:Pt),M[i]?=some p->(p.sure=true↔i<nA M)) (hl:∀(i:Nat) (p:Pt),L[i]?=some p->(p.sure=true↔i<nA L)):Agr L M (nA L)/\nA L<=nA M:=by
 have hs:=yQ L;have key:∀i,i<nA L->i<nA M:=fun i hi=>by
  obtain⟨x,hx⟩:∃x,L[i]?=some x:=⟨_,List.getElem?_eq_getElem (by omega)⟩
  exact(hm i x ((h i hi).trans hx)).1 ((hl i x hx).2 hi)
 have h2:nA L<=nA M:=by
  rcases Nat.lt_or_ge (nA M) (nA L)with g | g
  ·exact absurd (key _ g) (Nat.lt_irrefl _)
  ·exact g
 exact⟨⟨h,hs,Nat.le_trans h2 (yQ M)⟩,h2⟩
theorem sum_agr {L M:List Pt} {s n:Nat} (h:Agr L M s) (hn:n<=s):fB M n=fB L n:=by
 unfold fB;have e:M.take n=L.take n:=by
  refine List.ext_getElem? fun i=> ?_
  rw[List.getElem?_take,List.getElem?_take];split
  ·exact h.at_ i (by omega)
  ·rfl
 rw[e]
theorem aCK (kind:Int) (L:List Pt):(eD kind L).1<=(eD kind L).2:=by
 have hsp:(mA L).1<=(mA L).2:=by unfold mA;split<;>(simp only;omega)
 have hl:=mH L (spN L 0);unfold eD;split
 ·unfold sD;simp only;omega
 ·split
  ·unfold C0
   repeat' split
   all_goals first | (simp only;omega) | exact hsp
  ·unfold C7
   repeat' split
   all_goals first | (simp only;omega) | exact hsp
theorem aCg {kind:Int} {t:List Rg} (ht:kA t) (hk:0<=kind/\kind<=3) {b:List Int} (hb:∀x∈b,0<=x/\x<256) (h0:b≠[]) (m:List Int) (hd:(zA kind t b false).2=true):zA kind t (b++m) false=zA kind t b false:=by
 by_cases k0:kind=0
 ·unfold zA at hd;rw[if_pos k0]at hd
  cases hd
 ·obtain⟨ha,hle⟩:=sure_agr (pts_app (t:=t) m b) (jN (b++m)) (jN b);have hpos:=pY (kind:=kind) (jV (t:=t) h0) (cR ht hb);have h2:=aCc hpos;unfold zA at hd |-;rw[if_neg k0]at hd |-;rw[if_neg k0];simp only[Bool.false_or,Bool.and_eq_true,decide_eq_true_eq,Bool.or_eq_true,Bool.not_eq_true',decide_eq_false_iff_not]at hd;obtain⟨hr,hp⟩:=hd;have hc:=ha.cut kind (by omega) rfl hp (by omega) hr;have hcl:(eD kind (pts t b)).1<=(eD kind (pts t b)).2:=aCK kind (pts t b);have e:fB (pts t (b++m)) (eD kind (pts t b)).1=fB (pts t b) (eD kind (pts t b)).1:=sum_agr ha (by omega);rw[hc,e];congr 1;have e1:decide ((eD kind (pts t b)).2<=nA (pts t (b++m)))=true:=decide_eq_true (by omega);have e2:decide ((eD kind (pts t b)).2<=nA (pts t b))=true:=decide_eq_true hr;have e3:(decide (kind=1) || !decide (kC (pts t b) (decide (kind=3))))=true:=by
   rcases hp with h | h
   ·simp[h]
   ·simp[h]
  have e4:(decide (kind=1) || !decide (kC (pts t (b++m)) (decide (kind=3))))=true:=by
   rcases hp with h | h
   ·simp[h]
   ·have:¬kC (pts t (b++m)) (decide (kind=3)):=fun g=>h (by
     unfold kC at g |-;rw[ha.cdC (by omega),ha.cdC (by omega)]at g;exact⟨g.1,by omega,g.2.2.imp (fun x=>by omega) id⟩)
    simp[this]
  rw[e1,e2,e3,e4]
def B9 (ps:List (Int×Bool)):List (Int×Bool):=ps.takeWhile (fun p=>p.2)
def cE (ps:List (Int×Bool)):Nat:=(ps.map (fun x=>x.1.toNat)).sum
theorem tO (a b:List Int):lA (a++b)=if(lA a).length=a.length then a++lA b else lA a:=by
 unfold lA;rw[List.takeWhile_append]
theorem U6 {kind:Int} {t:List Rg} (ht:kA t) (hk:0<=kind/\kind<=3) (f:Bool) (more:List Int):∀{k:Nat} {text:List Int},text.length<=k->
  uA kind t f (k+more.length) (text++more) false=B9 (uA kind t false k text false)++uA kind t f (k+more.length) ((text++more).drop (cE (B9 (uA kind t false k text false)))) false
 | 0,text,h=>by
  obtain rfl:text= []:=List.eq_nil_of_length_eq_zero (by omega);rfl
 | k+1,text,h=>by
  by_cases h0:text= []
  ·subst h0;rw[cC];rfl
  ·have hl:=List.length_pos_iff.2 h0;rw[show k+1+more.length=(k+more.length)+1 by omega]
   by_cases hr:lA text= []
   ·cases text with
    | nil=>exact absurd rfl h0
    | cons x l=>
     have hx:isB x=false:=by
      cases hb:isB x with
      | false=>rfl
      | true=>simp[lA,hb]at hr
     simp only[List.length_cons]at h;rw[List.cons_append,tC hx,tC hx];have hd:B9 ((1,true)::uA kind t false k l false)=(1,true)::B9 (uA kind t false k l false):=rfl;have hsm:cE ((1,true)::B9 (uA kind t false k l false))=cE (B9 (uA kind t false k l false))+1:=by
      show 1+cE _=_;omega
     rw[hd,U6 ht hk f more (k:=k) (text:=l) (by omega),hsm,List.drop_succ_cons,List.cons_append];rw[cD ht (k:=k+more.length) (j:=k+more.length+1) (text:=(l++more).drop _) (by simp;omega) (by simp;omega)]
   ·obtain⟨⟨n,d⟩,hn⟩:∃x,zA kind t (lA text) (false || decide ((lA text).length<text.length))=x:=⟨_,rfl⟩;have hle:=gF (kind:=kind) ht uG hr (false || decide ((lA text).length<text.length));rw[hn]at hle;simp only at hle;have hrl:=cH text;rw[sC (text:=text) hr hn]
    cases d with
    | false=>
     have hd:∀X,B9 ((n,!(false || !false))::X)= []:=fun X=>rfl
     rw[hd];rfl
    | true=>
     have hd:∀X,B9 ((n,!(false || !true))::X)=(n,true)::B9 X:=fun X=>rfl
     have hrun2:lA (text++more)≠[]:=by
      rw[tO];split
      ·simp[h0]
      ·exact hr
     have hn2:zA kind t (lA (text++more)) (f || decide ((lA (text++more)).length<(text++more).length))=(n,true):=by
      have hlen:=cH more
      by_cases hf:(lA text).length=text.length
      ·have hrt:lA text=text:=(List.takeWhile_prefix isB (l:=text)).eq_of_length hf;rw[hrt]at hn;rw[show(false || decide (text.length<text.length))=false by simp]at hn;have hst:=aCg ht hk (b:=text) (by rw[<-hrt];exact uG) h0 (lA more) (by rw[hn]);rw[tO,if_pos hf]
       cases hg:(f || decide ((text++lA more).length<(text++more).length))with
       | false=>rw[hst,hn]
       | true=>exact Prod.ext ((nextF_n _ _ _ _ false).trans (by rw[hst,hn])) (H4 _ _ _)
      ·have e1:decide ((lA text).length<text.length)=true:=decide_eq_true (by omega);have e2:decide ((lA text).length<(text++more).length)=true:=decide_eq_true (by rw[List.length_append];omega);rw[e1,Bool.or_true]at hn;rw[tO,if_neg hf,e2,Bool.or_true,hn]
     rw[sC (text:=text++more) hrun2 hn2,hd];have e9:(false || !true)=false:=rfl;rw[e9,List.drop_append_of_le_length (by omega),U6 ht hk f more (k:=k) (text:=text.drop n.toNat) (by simp only[List.length_drop];omega)];have hsm:cE ((n,true)::B9 (uA kind t false k (text.drop n.toNat) false))=n.toNat+cE (B9 (uA kind t false k (text.drop n.toNat) false)):=rfl;rw[hsm,<-List.drop_drop,List.drop_append_of_le_length (i:=n.toNat) (by omega),List.cons_append];rw[cD ht (k:=k+more.length) (j:=k+more.length+1) (text:=(text.drop n.toNat++more).drop _) (by simp;omega) (by simp;omega)];rfl
theorem stay {kind:Int} {t:List Rg} (ht:kA t) (hk:0<=kind/\kind<=3) (f:Bool) (text more:List Int):
  dB kind t (text++more) f=B9 (dB kind t text false)++dB kind t ((text++more).drop (cE (B9 (dB kind t text false)))) f:=by
 have h:=U6 ht hk f more (k:=text.length) (text:=text) (Nat.le_refl _);unfold dB;rw[List.length_append,h];congr 1;exact cD ht (by simp) (Nat.le_refl _)
end Go.Proofs.YtimkkkdabmhedaaGreatDoor
