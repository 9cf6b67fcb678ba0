/- Plain law: each piece of a text that has no fault is a mark, or bytes. No program here. -/
import Derived.Test.YtahiballegpbgaaGreatDoorR30
import Derived.Test.YtahiballegpbgaaGreatDoorR27
set_option linter.unusedVariables false
set_option maxHeartbeats 1000000
namespace Go.Proofs.YtahiballegpbgaaGreatDoor
open Go
def jD:List (Int×Bool)->List Int->Prop
 | [],A=>A= []
 | p::ps,A=>1<=p.1/\p.1<=A.length/\aCM (A.take p.1.toNat)/\jD ps (A.drop p.1.toNat)
theorem run_take {text:List Int} {n:Int} (h1:1<=n) (h2:n<=(pA text).length):text.take n.toNat=(pA text).take n.toNat:=by
 obtain⟨r,hr⟩:pA text <+:text:=List.takeWhile_prefix isB;rw[<-hr,List.take_append_of_le_length (by omega)];have:pA (pA text++r)=pA text:=by rw[hr]
 rw[this]
theorem lM {kind:Int} {t:List Rg} {final:Bool} (ht:oA t):∀{k:Nat} {text:List Int} {op:Bool},text.length<=k->(∀y∈text,0<=y)->jD (xA kind t final k text op) text
 | 0,text,op,h,_=>by
  have:text= []:=List.eq_nil_of_length_eq_zero (by omega);subst this;rfl
 | k+1,text,op,h,hp=>by
  by_cases h0:text= []
  ·subst h0;rw[xC];rfl
  ·have hl:=List.length_pos_iff.2 h0
   by_cases hr:pA text= []
   ·cases text with
    | nil=>exact absurd rfl h0
    | cons m l=>
     have hm:isB m=false:=by
      cases hb:isB m with
      | false=>rfl
      | true=>simp[pA,hb]at hr
     rw[zC hm];have hm2:256<=m:=by
      have h1:=hp m (by simp);rcases Int.lt_or_le m 256 with h2 | h2
      ·rw[C6.2 ⟨h1,h2⟩]at hm;cases hm
      ·exact h2
     refine⟨by simp,by simp;omega, .inl ⟨m,by simp,hm2⟩,?_⟩;exact lM ht (by simp only[List.length_cons]at h;show l.length<=k;omega) (fun y hy=>hp y (List.mem_of_mem_drop (i:=(1:Int).toNat) hy))
   ·obtain⟨⟨n,d⟩,hn⟩:∃x,A5 kind t (pA text) (final || decide ((pA text).length<text.length))=x:=⟨_,rfl⟩;have hle:=F1 (kind:=kind) ht bJ hr (final || decide ((pA text).length<text.length));rw[hn]at hle;simp only at hle;have hrl:=fN text;rw[wC hr hn];refine⟨hle.1,by simp only;omega, .inr ⟨?_,?_⟩,?_⟩
    ·simp only;intro e;have h9:=congrArg List.length e;rw[List.length_take,List.length_nil]at h9;omega
    ·simp only;rw[run_take hle.1 hle.2];intro y hy;exact bJ y (List.mem_of_mem_take hy)
    ·exact lM ht (by simp only[List.length_drop];omega) (fun y hy=>hp y (List.mem_of_mem_drop hy))
theorem jS {V:Vc} {N:List ByteArray} {s:Int} (h:nB V N s=0):0<=s/\s<256+(N.length:Int):=by
 unfold nB at h
 by_cases h1:s<0\/256+(N.length:Int)<=s
 ·rw[if_pos h1]at h;cases h
 ·omega
theorem pG {V:Vc} {N:List ByteArray} {kind:Int} {t:List Rg} {final:Bool} (ht:oA t) {A:List Int} (hc:mA V N A=0):jD (zA kind t A final) A:=
 lM ht (Nat.le_refl _) (fun y hy=>(jS (eB.1 hc y hy)).1)
theorem nA {V:Vc} {N:List ByteArray} {A:List Int} (hc:mA V N A=0) (k:Nat):mA V N (A.take k)=0/\mA V N (A.drop k)=0:=
 ⟨eB.2 (fun s hs=>eB.1 hc s (List.mem_of_mem_take hs)),eB.2 (fun s hs=>eB.1 hc s (List.mem_of_mem_drop hs))⟩
theorem cV {n:Int} {m:List Int}:∀{k:Nat} {p lo hi:Int} {l:List Int},(tE false n k p lo hi l).2.2=false->tE false n k p lo hi (l++m)=tE false n k p lo hi l
 | 0,p,lo,hi,l,_=>rfl
 | k+1,p,lo,hi,[],h=>by simp[tE]at h
 | k+1,p,lo,hi,x::l,h=>by
  rw[List.cons_append];simp only[tE]at h |-;split
  ·rfl
  ·next g=>
   rw[if_neg g]at h;exact cV h
theorem dec_app {b m:List Int} (hb:b≠[]) (h:(dec false b).2.2=false):dec false (b++m)=dec false b:=by
 cases b with
 | nil=>exact absurd rfl hb
 | cons c l=>
  rw[List.cons_append];simp only[dec]at h |-;split
  ·rfl
  ·next g=>
   rw[if_neg g]at h;exact cV h
theorem aAx {p:Pt} {L:List Pt} (h:p.sure=true):A8 (p::L)=A8 L+1:=by unfold A8;simp[h]
theorem pts_app {t:List Rg} (m b:List Int):∀i,i<A8 (pts t b)->(pts t (b++m))[i]?=(pts t b)[i]? :=by
 refine nN (P:=fun b L=>∀i,i<A8 L->(pts t (b++m))[i]?=L[i]?) (fun i hi=>by simp[A8]at hi) ?_ ?_ b
 ·intro b hb _ i hi;have:A8 (b.map (fun _=>pB))=0:=by
   unfold A8
   cases b<;>simp[pB]
  omega
 ·intro b hb hm ih i hi;have hn:=(lS (final:=false) hb).2 hm;have e:=dec_app (m:=m) hb hm;rw[F0 t hb hm]at hi |-;rw[aAx rfl]at hi;rw[F0 t (by simp[hb]) (by rw[e];exact hm),e,List.drop_append_of_le_length (by omega)]
  cases i with
  | zero=>rfl
  | succ i=>
   rw[List.getElem?_cons_succ,List.getElem?_cons_succ];exact ih i (by omega)
structure Agr (L M:List Pt) (s:Nat):Prop where
 at_:∀i,i<s->M[i]?=L[i]?
 l:s<=L.length
 m:s<=M.length
section
variable {L M:List Pt} {s:Nat}
theorem Agr.tw (h:Agr L M s) (p:Pt->Bool):∀(d i:Nat),s-i=d->i<=s->min (i+((L.drop i).takeWhile p).length) s=min (i+((M.drop i).takeWhile p).length) s
 | 0,i,e,hi=>by omega
 | d+1,i,e,hi=>by
  have hl:=h.l;have hlt:i<s:=by omega
  obtain⟨x,hx⟩:∃x,L[i]?=some x:=⟨_,List.getElem?_eq_getElem (by omega)⟩
  have hy:M[i]?=some x:=(h.at_ i hlt).trans hx
  rw[oH hx,oH hy];have ih:=Agr.tw h p d (i+1) (by omega) (by omega)
  by_cases hp:p x=true
  ·rw[if_pos hp,if_pos hp];omega
  ·rw[if_neg hp,if_neg hp]
theorem Agr.row (h:Agr L M s) (c:Int) {i:Nat} (hi:i<=s):min (i+bB L i c) s=min (i+bB M i c) s:=h.tw _ _ i rfl hi
theorem Agr.sp (h:Agr L M s) {i:Nat} (hi:i<=s):min (i+spN L i) s=min (i+spN M i) s:=h.tw _ _ i rfl hi
theorem Agr.ns (h:Agr L M s) {i:Nat} (hi:i<=s):min (i+nsN L i) s=min (i+nsN M i) s:=h.tw _ _ i rfl hi
theorem Agr.isC (h:Agr L M s) {i:Nat} (hi:i<s) (c:Int):isC M i c=isC L i c:=by unfold Go.Proofs.YtahiballegpbgaaGreatDoor.isC;rw[h.at_ i hi]
theorem Agr.cdC (h:Agr L M s) {i:Nat} (hi:i<s) (w:Bool):cdC M w i=cdC L w i:=by unfold Go.Proofs.YtahiballegpbgaaGreatDoor.cdC;rw[h.at_ i hi]
theorem Agr.ptC (h:Agr L M s) {i:Nat} (hi:i<s):ptC M i=ptC L i:=by unfold Go.Proofs.YtahiballegpbgaaGreatDoor.ptC;rw[h.at_ i hi]
theorem Agr.line (h:Agr L M s):∀{n:Nat},n<=s->cD M n=cD L n
 | 0,_=>rfl
 | n+1,hn=>by
  simp only[cD];rw[h.isC (by omega),h.line (by omega)]
theorem Agr.led (h:Agr L M s) (h2:2<=s) (c:Int):min (A7 L c) s=min (A7 M c) s:=by
 have r1:=h.row c (i:=1) (by omega);have r0:=h.row c (i:=0) (by omega);unfold A7;rw[h.ptC (by omega),h.isC (by omega)];split
 ·exact r1
 ·simpa using r0
theorem Agr.end_ (h:Agr L M s) (h2:2<=s) {w:Bool} (hp:¬D9 L w) (hs:s=A8 L):kD M w=kD L w:=by
 unfold D9 at hp;unfold kD;rw[h.cdC (by omega),h.cdC (by omega)]
 by_cases h0:Go.Proofs.YtahiballegpbgaaGreatDoor.cdC L w 0≠39
 ·rw[if_pos h0,if_pos h0]
 ·rw[if_neg h0,if_neg h0]
  by_cases h1:R7 (Go.Proofs.YtahiballegpbgaaGreatDoor.cdC L w 1)
  ·rw[if_pos h1,if_pos h1]
  ·rw[if_neg h1,if_neg h1]
   by_cases h3:3<=s
   ·rw[h.cdC (by omega)]
   ·have hf:¬N8 (Go.Proofs.YtahiballegpbgaaGreatDoor.cdC L w 1):=fun g=>hp ⟨by simpa using h0,by omega, .inr g⟩
    have hno:∀d,¬rO (Go.Proofs.YtahiballegpbgaaGreatDoor.cdC L w 1) d:=fun d g=>hf (by unfold rO at g;unfold N8;omega)
    rw[if_neg (hno _),if_neg (hno _)]
theorem oZ {w:Bool} (h:0<kD L w):2<=kD L w:=by
 unfold kD at h |-
 repeat' split at h
 all_goals simp_all
theorem aAA (h:1<=(qA L).1):2<=(qA L).2:=by
 unfold qA at h |-
 by_cases g:spN L 0<L.length/\1<spN L 0
 ·rw[if_pos g];simp only;omega
 ·rw[if_neg g]at h |-;simp only at h |-;omega
theorem aDn {kind:Int} (h:1<=(iD kind L).1):2<=(iD kind L).2:=by
 have hsp:=aAA (L:=L);unfold iD at h |-
 by_cases k1:kind=1
 ·rw[if_pos k1]at h |-;unfold J8 at h |-;simp only at h |-;omega
 rw[if_neg k1]at h |-
 by_cases k2:kind=2
 ·rw[if_pos k2]at h |-;unfold E4 at h |-
  by_cases g0:0<kD L false
  ·rw[if_pos g0];exact oZ g0
  rw[if_neg g0]at h |-
  by_cases g1:0<A7 L 1
  ·rw[if_pos g1];simp only;omega
  rw[if_neg g1]at h |-
  by_cases g2:0<A7 L 2
  ·rw[if_pos g2];simp only;omega
  rw[if_neg g2]at h |-
  by_cases g3:0<A7 L 0
  ·rw[if_pos g3];simp only;omega
  rw[if_neg g3]at h |-;exact hsp h
 ·rw[if_neg k2]at h |-;unfold nH at h |-
  by_cases g0:0<kD L true
  ·rw[if_pos g0];exact oZ g0
  rw[if_neg g0]at h |-
  by_cases g1:0<bB L 0 1
  ·rw[if_pos g1];simp only;omega
  rw[if_neg g1]at h |-
  by_cases g2:E6 L=true/\isC L 1 1=true
  ·rw[if_pos g2];simp only;omega
  rw[if_neg g2]at h |-
  by_cases g3:0<bB L 0 2
  ·rw[if_pos g3];simp only;omega
  rw[if_neg g3]at h |-
  by_cases g4:0<A7 L 0
  ·rw[if_pos g4];simp only;omega
  rw[if_neg g4]at h |-
  by_cases g5:0<cD L (spN L 0)
  ·rw[if_pos g5]at h |-;have:=I1 L (spN L 0);simp only at h |-;omega
  rw[if_neg g5]at h |-;exact hsp h
theorem Agr.spaces (h:Agr L M s) (hr:(qA L).2<=s):qA M=qA L:=by
 have r:=h.sp (i:=0) (by omega);have h1:=h.l;have h2:=h.m;have hx:spN L 0+1<=s:=by
  unfold qA at hr;split at hr<;>exact hr
 have e:spN M 0=spN L 0:=by omega
 unfold qA;rw[e]
 by_cases g:1<spN L 0
 ·rw[if_pos ⟨by omega,g⟩,if_pos ⟨by omega,g⟩]
 ·rw[if_neg (fun x=>g x.2),if_neg (fun x=>g x.2)]
theorem Agr.plain (h:Agr L M s) (h2:2<=s) (hs:s=A8 L) (hp:¬D9 L false) (hr:(E4 L).2<=s):E4 M=E4 L:=by
 have e0:=h.end_ h2 hp hs;have l0:=h.led h2 0;have l1:=h.led h2 1;have l2:=h.led h2 2;unfold E4 at hr |-;rw[e0]
 by_cases g0:0<kD L false
 ·rw[if_pos g0,if_pos g0]
 rw[if_neg g0]at hr |-;rw[if_neg g0]
 by_cases g1:0<A7 L 1
 ·rw[if_pos g1]at hr |-;simp only at hr;rw[if_pos (by omega),show A7 M 1=A7 L 1 by omega]
 rw[if_neg g1]at hr |-;rw[if_neg (by omega)]
 by_cases g2:0<A7 L 2
 ·rw[if_pos g2]at hr |-;simp only at hr;rw[if_pos (by omega),show A7 M 2=A7 L 2 by omega]
 rw[if_neg g2]at hr |-;rw[if_neg (by omega)]
 by_cases g3:0<A7 L 0
 ·rw[if_pos g3]at hr |-;simp only at hr;rw[if_pos (by omega),show A7 M 0=A7 L 0 by omega]
 rw[if_neg g3]at hr |-;rw[if_neg (by omega)];exact h.spaces hr
theorem Agr.wide (h:Agr L M s) (h2:2<=s) (hs:s=A8 L) (hp:¬D9 L true) (hr:(nH L).2<=s):nH M=nH L:=by
 have e0:=h.end_ h2 hp hs;have l0:=h.led h2 0;have r1:=h.row 1 (i:=0) (by omega);have r11:=h.row 1 (i:=1) (by omega);have r2:=h.row 2 (i:=0) (by omega);have ld:E6 M=E6 L:=by unfold E6;rw[h.ptC (by omega)]
 have sp0:=h.sp (i:=0) (by omega);unfold nH at hr |-;rw[e0,ld,h.isC (by omega)]
 by_cases g0:0<kD L true
 ·rw[if_pos g0,if_pos g0]
 rw[if_neg g0]at hr |-;rw[if_neg g0]
 by_cases g1:0<bB L 0 1
 ·rw[if_pos g1]at hr |-;simp only at hr;rw[if_pos (by omega),show bB M 0 1=bB L 0 1 by omega]
 rw[if_neg g1]at hr |-;rw[if_neg (by omega)]
 by_cases g2:E6 L=true/\Go.Proofs.YtahiballegpbgaaGreatDoor.isC L 1 1=true
 ·rw[if_pos g2]at hr |-;simp only at hr;rw[if_pos g2,show bB M 1 1=bB L 1 1 by omega]
 rw[if_neg g2]at hr |-;rw[if_neg g2]
 by_cases g3:0<bB L 0 2
 ·rw[if_pos g3]at hr |-;simp only at hr;have g3':0<bB M 0 2:=by omega
  have em:min (bB M 0 2) 3=min (bB L 0 2) 3:=by omega
  rw[if_pos g3',em]
 rw[if_neg g3]at hr |-;rw[if_neg (by omega)]
 by_cases g4:0<A7 L 0
 ·rw[if_pos g4]at hr |-;simp only at hr;have r4:=h.row 4 (i:=A7 L 0) (by omega);have e4:A7 M 0=A7 L 0:=by omega
  have e5:bB M (A7 L 0) 4=bB L (A7 L 0) 4:=by omega
  rw[e4,if_pos g4,e5]
 rw[if_neg g4]at hr |-;rw[if_neg (by omega)]
 by_cases g5:0<cD L (spN L 0)
 ·rw[if_pos g5]at hr |-;simp only at hr;have es:spN M 0=spN L 0:=by omega
  have el:cD M (spN L 0)=cD L (spN L 0):=h.line (by omega);rw[es,el,if_pos g5]
 rw[if_neg g5]at hr;have hx:spN L 0+1<=s:=by
  unfold qA at hr;split at hr<;>exact hr
 have es:spN M 0=spN L 0:=by omega
 have el:cD M (spN L 0)=cD L (spN L 0):=h.line (by omega);rw[es,el,if_neg g5,if_neg g5];exact h.spaces hr
theorem Agr.cut (h:Agr L M s) (kind:Int) (h2:2<=s) (hs:s=A8 L) (hp:kind=1\/¬D9 L (decide (kind=3))) (hk:kind=1\/kind=2\/kind=3) (hr:(iD kind L).2<=s):iD kind M=iD kind L:=by
 unfold iD at hr |-
 by_cases g1:kind=1
 ·rw[if_pos g1]at hr |-;rw[if_pos g1];have a:=h.sp (i:=0) (by omega);unfold J8 at hr |-;simp only at hr;have b:=h.ns (i:=spN L 0) (by omega);rw[show spN M 0=spN L 0 by omega,show nsN M (spN L 0)=nsN L (spN L 0) by omega]
 ·have hp:=hp.resolve_left g1;rw[if_neg g1]at hr |-;rw[if_neg g1]
  by_cases g2:kind=2
  ·subst g2;rw[if_pos rfl]at hr |-;rw[if_pos rfl];exact h.plain h2 hs (by simpa using hp) hr
  ·obtain rfl:kind=3:=by omega
   rw[if_neg g2]at hr |-;rw[if_neg g2];exact h.wide h2 hs (by simpa using hp) hr
end
theorem sure_agr {L M:List Pt} (h:∀i,i<A8 L->M[i]?=L[i]?) (hm:∀(i:Nat) (p:Pt),M[i]?=some p->(p.sure=true↔i<A8 M)) (hl:∀(i:Nat) (p:Pt),L[i]?=some p->(p.sure=true↔i<A8 L)):Agr L M (A8 L)/\A8 L<=A8 M:=by
 have hs:=jR L;have key:∀i,i<A8 L->i<A8 M:=fun i hi=>by
  obtain⟨x,hx⟩:∃x,L[i]?=some x:=⟨_,List.getElem?_eq_getElem (by omega)⟩
  exact(hm i x ((h i hi).trans hx)).1 ((hl i x hx).2 hi)
 have h2:A8 L<=A8 M:=by
  rcases Nat.lt_or_ge (A8 M) (A8 L)with g | g
  ·exact absurd (key _ g) (Nat.lt_irrefl _)
  ·exact g
 exact⟨⟨h,hs,Nat.le_trans h2 (jR M)⟩,h2⟩
theorem sum_agr {L M:List Pt} {s n:Nat} (h:Agr L M s) (hn:n<=s):jB M n=jB L n:=by
 unfold jB;have e:M.take n=L.take n:=by
  refine List.ext_getElem? fun i=> ?_
  rw[List.getElem?_take,List.getElem?_take];split
  ·exact h.at_ i (by omega)
  ·rfl
 rw[e]
theorem aEd (kind:Int) (L:List Pt):(iD kind L).1<=(iD kind L).2:=by
 have hsp:(qA L).1<=(qA L).2:=by unfold qA;split<;>(simp only;omega)
 have hl:=I1 L (spN L 0);unfold iD;split
 ·unfold J8;simp only;omega
 ·split
  ·unfold E4
   repeat' split
   all_goals first | (simp only;omega) | exact hsp
  ·unfold nH
   repeat' split
   all_goals first | (simp only;omega) | exact hsp
theorem aDs {kind:Int} {t:List Rg} (ht:oA t) (hk:0<=kind/\kind<=3) {b:List Int} (hb:∀x∈b,0<=x/\x<256) (h0:b≠[]) (m:List Int) (hd:(A5 kind t b false).2=true):A5 kind t (b++m) false=A5 kind t b false:=by
 by_cases k0:kind=0
 ·unfold A5 at hd;rw[if_pos k0]at hd
  cases hd
 ·obtain⟨ha,hle⟩:=sure_agr (pts_app (t:=t) m b) (wR (b++m)) (wR b);have hpos:=uZ (kind:=kind) (aBY (t:=t) h0) (cY ht hb);have h2:=aDn hpos;unfold A5 at hd |-;rw[if_neg k0]at hd |-;rw[if_neg k0];simp only[Bool.false_or,Bool.and_eq_true,decide_eq_true_eq,Bool.or_eq_true,Bool.not_eq_true',decide_eq_false_iff_not]at hd;obtain⟨hr,hp⟩:=hd;have hc:=ha.cut kind (by omega) rfl hp (by omega) hr;have hcl:(iD kind (pts t b)).1<=(iD kind (pts t b)).2:=aEd kind (pts t b);have e:jB (pts t (b++m)) (iD kind (pts t b)).1=jB (pts t b) (iD kind (pts t b)).1:=sum_agr ha (by omega);rw[hc,e];congr 1;have e1:decide ((iD kind (pts t b)).2<=A8 (pts t (b++m)))=true:=decide_eq_true (by omega);have e2:decide ((iD kind (pts t b)).2<=A8 (pts t b))=true:=decide_eq_true hr;have e3:(decide (kind=1) || !decide (D9 (pts t b) (decide (kind=3))))=true:=by
   rcases hp with h | h
   ·simp[h]
   ·simp[h]
  have e4:(decide (kind=1) || !decide (D9 (pts t (b++m)) (decide (kind=3))))=true:=by
   rcases hp with h | h
   ·simp[h]
   ·have:¬D9 (pts t (b++m)) (decide (kind=3)):=fun g=>h (by
     unfold D9 at g |-;rw[ha.cdC (by omega),ha.cdC (by omega)]at g;exact⟨g.1,by omega,g.2.2.imp (fun x=>by omega) id⟩)
    simp[this]
  rw[e1,e2,e3,e4]
def zB (ps:List (Int×Bool)):List (Int×Bool):=ps.takeWhile (fun p=>p.2)
def kC (ps:List (Int×Bool)):Nat:=(ps.map (fun x=>x.1.toNat)).sum
theorem O0 (a b:List Int):pA (a++b)=if(pA a).length=a.length then a++pA b else pA a:=by
 unfold pA;rw[List.takeWhile_append]
theorem V2 {kind:Int} {t:List Rg} (ht:oA t) (hk:0<=kind/\kind<=3) (f:Bool) (more:List Int):∀{k:Nat} {text:List Int},text.length<=k->
  xA kind t f (k+more.length) (text++more) false=zB (xA kind t false k text false)++xA kind t f (k+more.length) ((text++more).drop (kC (zB (xA kind t false k text false)))) false
 | 0,text,h=>by
  obtain rfl:text= []:=List.eq_nil_of_length_eq_zero (by omega);rfl
 | k+1,text,h=>by
  by_cases h0:text= []
  ·subst h0;rw[xC];rfl
  ·have hl:=List.length_pos_iff.2 h0;rw[show k+1+more.length=(k+more.length)+1 by omega]
   by_cases hr:pA text= []
   ·cases text with
    | nil=>exact absurd rfl h0
    | cons x l=>
     have hx:isB x=false:=by
      cases hb:isB x with
      | false=>rfl
      | true=>simp[pA,hb]at hr
     simp only[List.length_cons]at h;rw[List.cons_append,zC hx,zC hx];have hd:zB ((1,true)::xA kind t false k l false)=(1,true)::zB (xA kind t false k l false):=rfl;have hsm:kC ((1,true)::zB (xA kind t false k l false))=kC (zB (xA kind t false k l false))+1:=by
      show 1+kC _=_;omega
     rw[hd,V2 ht hk f more (k:=k) (text:=l) (by omega),hsm,List.drop_succ_cons,List.cons_append];rw[yC ht (k:=k+more.length) (j:=k+more.length+1) (text:=(l++more).drop _) (by simp;omega) (by simp;omega)]
   ·obtain⟨⟨n,d⟩,hn⟩:∃x,A5 kind t (pA text) (false || decide ((pA text).length<text.length))=x:=⟨_,rfl⟩;have hle:=F1 (kind:=kind) ht bJ hr (false || decide ((pA text).length<text.length));rw[hn]at hle;simp only at hle;have hrl:=fN text;rw[wC (text:=text) hr hn]
    cases d with
    | false=>
     have hd:∀X,zB ((n,!(false || !false))::X)= []:=fun X=>rfl
     rw[hd];rfl
    | true=>
     have hd:∀X,zB ((n,!(false || !true))::X)=(n,true)::zB X:=fun X=>rfl
     have hrun2:pA (text++more)≠[]:=by
      rw[O0];split
      ·simp[h0]
      ·exact hr
     have hn2:A5 kind t (pA (text++more)) (f || decide ((pA (text++more)).length<(text++more).length))=(n,true):=by
      have hlen:=fN more
      by_cases hf:(pA text).length=text.length
      ·have hrt:pA text=text:=(List.takeWhile_prefix isB (l:=text)).eq_of_length hf;rw[hrt]at hn;rw[show(false || decide (text.length<text.length))=false by simp]at hn;have hst:=aDs ht hk (b:=text) (by rw[<-hrt];exact bJ) h0 (pA more) (by rw[hn]);rw[O0,if_pos hf]
       cases hg:(f || decide ((text++pA more).length<(text++more).length))with
       | false=>rw[hst,hn]
       | true=>exact Prod.ext ((aCl _ _ _ _ false).trans (by rw[hst,hn])) (uH _ _ _)
      ·have e1:decide ((pA text).length<text.length)=true:=decide_eq_true (by omega);have e2:decide ((pA text).length<(text++more).length)=true:=decide_eq_true (by rw[List.length_append];omega);rw[e1,Bool.or_true]at hn;rw[O0,if_neg hf,e2,Bool.or_true,hn]
     rw[wC (text:=text++more) hrun2 hn2,hd];have e9:(false || !true)=false:=rfl;rw[e9,List.drop_append_of_le_length (by omega),V2 ht hk f more (k:=k) (text:=text.drop n.toNat) (by simp only[List.length_drop];omega)];have hsm:kC ((n,true)::zB (xA kind t false k (text.drop n.toNat) false))=n.toNat+kC (zB (xA kind t false k (text.drop n.toNat) false)):=rfl;rw[hsm,<-List.drop_drop,List.drop_append_of_le_length (i:=n.toNat) (by omega),List.cons_append];rw[yC ht (k:=k+more.length) (j:=k+more.length+1) (text:=(text.drop n.toNat++more).drop _) (by simp;omega) (by simp;omega)];rfl
theorem stay {kind:Int} {t:List Rg} (ht:oA t) (hk:0<=kind/\kind<=3) (f:Bool) (text more:List Int):
  zA kind t (text++more) f=zB (zA kind t text false)++zA kind t ((text++more).drop (kC (zB (zA kind t text false)))) f:=by
 have h:=V2 ht hk f more (k:=text.length) (text:=text) (Nat.le_refl _);unfold zA;rw[List.length_append,h];congr 1;exact yC ht (by simp) (Nat.le_refl _)
end Go.Proofs.YtahiballegpbgaaGreatDoor
