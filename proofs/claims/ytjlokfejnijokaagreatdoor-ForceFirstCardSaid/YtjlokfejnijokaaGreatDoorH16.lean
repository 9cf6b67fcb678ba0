/- Plain law: the chain of places, its links, and what waits: no program here. -/
import Derived.Test.YtjlokfejnijokaaGreatDoorH14
import Derived.Test.YtjlokfejnijokaaGreatDoorH15
import Derived.Test.YtjlokfejnijokaaGreatDoorH8
set_option linter.unusedVariables false
set_option maxHeartbeats 2000000
set_option maxRecDepth 100000
namespace Go.Proofs.YtjlokfejnijokaaGreatDoor
open Go
def cJ (C:Ch) (i:Nat):Int:=match C[i+1]? with | some c=>(c.1:Int) | none=> -1
def kG (C:Ch) (i:Nat):Int:=if i=0 then -1 else match C[i-1]? with | some c=>(c.1:Int) | none=> -1
structure Lnk (n:Nat) (C:Ch) (Rw Lf Rt:List Int):Prop where
 ok:zH C
 lt:∀c∈C,c.1<n
 lw:Rw.length=n
 ll:Lf.length=n
 lr:Rt.length=n
 row:∀(i p:Nat) (a:Int),C[i]?=some (p,a)->Rw[p]?=some a
 left:∀(i p:Nat) (a:Int),C[i]?=some (p,a)->Lf[p]?=some (kG C i)
 right:∀(i p:Nat) (a:Int),C[i]?=some (p,a)->Rt[p]?=some (cJ C i)
def agI (M:List Mg) (C:Ch) (x:Int):Option (Int×Int):=if 0<=x then agF M C x.toNat else none
theorem lI (M:List Mg) (C:Ch) (p:Nat):agI M C (p:Int)=agF M C p:=by simp[agI]
def pO (Lf:List Int) (nx:Int) (p:Nat):List Int:=if nx= -1 then Lf else Lf.set nx.toNat p
theorem E8 {C:Ch} (hc:zH C) {i j:Nat} {c d:Nat×Int} (h1:C[i]?=some c) (h2:C[j]?=some d) (e:c.1=d.1):i=j:=by
 have hi:=(List.getElem?_eq_some_iff.1 h1).1;have hj:=(List.getElem?_eq_some_iff.1 h2).1;have g1:C[i]=c:=(List.getElem?_eq_some_iff.1 h1).2;have g2:C[j]=d:=(List.getElem?_eq_some_iff.1 h2).2;rcases Nat.lt_trichotomy i j with h | h | h
 ·have:=List.pairwise_iff_getElem.1 hc i j hi hj h;rw[g1,g2]at this;omega
 ·exact h
 ·have:=List.pairwise_iff_getElem.1 hc j i hj hi h;rw[g1,g2]at this;omega
theorem aBG {pre post:Ch} {p q:Nat} {a b o:Int} (i:Nat):(pre++(p,o)::post)[i]?=if i<pre.length then(pre++(p,a)::(q,b)::post)[i]? else if i=pre.length then some (p,o)else(pre++(p,a)::(q,b)::post)[i+1]? :=by
 by_cases h1:i<pre.length
 ·rw[if_pos h1,List.getElem?_append_left h1,List.getElem?_append_left h1]
 ·rw[if_neg h1,List.getElem?_append_right (by omega)]
  by_cases h2:i=pre.length
  ·rw[if_pos h2];subst h2;simp
  ·rw[if_neg h2,List.getElem?_append_right (by omega)];obtain⟨k,rfl⟩:∃k,i=pre.length+(k+1):=⟨i-pre.length-1,by omega⟩;rw[show pre.length+(k+1)-pre.length=k+1 by omega,show pre.length+(k+1)+1-pre.length=k+2 by omega];simp
section
variable {n:Nat} {pre post:Ch} {p q:Nat} {a b:Int} {Rw Lf Rt:List Int}
theorem Lnk.at0 (h:Lnk n (pre++(p,a)::(q,b)::post) Rw Lf Rt):Rw[p]?=some a/\Rt[p]?=some (q:Int)/\p<n/\q<n/\p<q/\Rt[q]?=some (cJ (pre++(p,a)::(q,b)::post) (pre.length+1))/\Lf[p]?=some (kG (pre++(p,a)::(q,b)::post) pre.length):=by
 have e0:(pre++(p,a)::(q,b)::post)[pre.length]?=some (p,a):=by simp
 have e1:(pre++(p,a)::(q,b)::post)[pre.length+1]?=some (q,b):=by
  rw[List.getElem?_append_right (by omega)];simp
 refine⟨h.row _ _ _ e0,?_,h.lt _ (List.mem_of_getElem? e0),h.lt _ (List.mem_of_getElem? e1),?_,h.right _ _ _ e1,h.left _ _ _ e0⟩
 ·rw[h.right _ _ _ e0];simp only[cJ,e1]
 ·have:=h.ok;unfold zH at this;rw[List.pairwise_append]at this;exact(List.pairwise_cons.1 this.2.1).1 (q,b) (by simp)
theorem Lnk.merged (h:Lnk n (pre++(p,a)::(q,b)::post) Rw Lf Rt) (o nx:Int) (hnx:nx=cJ (pre++(p,a)::(q,b)::post) (pre.length+1)):
  Lnk n (pre++(p,o)::post) (Rw.set p o) (pO Lf nx p) (Rt.set p nx):=by
 obtain⟨C,hC⟩:∃C,pre++(p,a)::(q,b)::post=C:=⟨_,rfl⟩;have hat:=fun i=>aBG (pre:=pre) (post:=post) (p:=p) (q:=q) (a:=a) (b:=b) (o:=o) i
 have hok':zH (pre++(p,o)::post):=S3 (o:=o) h.ok;have e0:C[pre.length]?=some (p,a):=by rw[<-hC];simp
 have e1:C[pre.length+1]?=some (q,b):=by rw[<-hC,List.getElem?_append_right (by omega)];simp
 rw[hC]at h hnx;have hpn:p<n:=h.lt _ (List.mem_of_getElem? e0);simp only[hC]at hat;have old:∀(i x:Nat) (c:Int),(pre++(p,o)::post)[i]?=some (x,c)->i≠pre.length->∃j,C[j]?=some (x,c)/\x≠p/\x≠q/\(i<pre.length->j=i)/\(pre.length<i->j=i+1):=fun i x c hi hne=>by
  rw[hat i]at hi
  by_cases h1:i<pre.length
  ·rw[if_pos h1]at hi;refine⟨i,hi,fun e=> ?_,fun e=> ?_,fun _=>rfl,fun h2=>by omega⟩
   ·have:=E8 h.ok hi e0 e;omega
   ·have:=E8 h.ok hi e1 e;omega
  ·rw[if_neg h1,if_neg hne]at hi;refine⟨i+1,hi,fun e=> ?_,fun e=> ?_,fun h2=>by omega,fun _=>rfl⟩
   ·have:=E8 h.ok hi e0 e;omega
   ·have:=E8 h.ok hi e1 e;omega
 have self:∀(x:Nat) (c:Int),(pre++(p,o)::post)[pre.length]?=some (x,c)->x=p/\c=o:=fun x c hi=>by
  rw[hat,if_neg (by omega),if_pos rfl]at hi;simp only[Option.some.injEq,Prod.mk.injEq]at hi;exact⟨hi.1.symm,hi.2.symm⟩
 refine⟨hok',fun c hc=> ?_,by rw[List.length_set];exact h.lw,?_,by rw[List.length_set];exact h.lr,fun i x c hi=> ?_,fun i x c hi=> ?_,fun i x c hi=> ?_⟩
 ·obtain⟨i,hi,rfl⟩:=List.getElem_of_mem hc;have hi':=List.getElem?_eq_getElem hi
  by_cases hne:i=pre.length
  ·subst hne;obtain⟨h1,_⟩:=self _ _ hi';exact Nat.lt_of_le_of_lt (Nat.le_of_eq h1) hpn
  ·obtain⟨j,h1,_⟩:=old i _ _ hi' hne;exact h.lt _ (List.mem_of_getElem? h1)
 ·unfold pO;split
  ·exact h.ll
  ·rw[List.length_set];exact h.ll
 ·by_cases hne:i=pre.length
  ·subst hne;obtain⟨rfl,rfl⟩:=self _ _ hi;rw[List.getElem?_set_self (by rw[h.lw];exact hpn)]
  ·obtain⟨j,h1,h2,_⟩:=old i _ _ hi hne;rw[List.getElem?_set_ne (by omega)];exact h.row _ _ _ h1
 ·
  have hprv:∀(j:Nat),0<j->∀(y:Nat) (d:Int),C[j-1]?=some (y,d)->kG C j=(y:Int):=fun j h0 y d hj=>by
   unfold kG;rw[if_neg (by omega),hj]
  by_cases hne:i=pre.length
  ·subst hne;obtain⟨rfl,rfl⟩:=self _ _ hi;have hp':kG (pre++(x,c)::post) pre.length=kG C pre.length:=by
    unfold kG
    by_cases h0:pre.length=0
    ·rw[if_pos h0,if_pos h0]
    ·rw[if_neg h0,if_neg h0,hat,if_pos (by omega)]
   rw[hp'];have h1:=h.left _ _ _ e0;unfold pO
   by_cases h2:nx= -1
   ·rw[if_pos h2];exact h1
   ·rw[if_neg h2];have h3:nx.toNat≠x:=fun e=>by
     rw[hnx]at h2 e;unfold cJ at h2 e
     cases h4:C[pre.length+1+1]? with
     | none=>rw[h4]at h2;exact h2 rfl
     | some c=>
      rw[h4]at e;have:=E8 h.ok h4 e0 (by simpa using e);omega
    rw[List.getElem?_set_ne h3];exact h1
  ·obtain⟨j,h1,h2,h2q,h3,h4⟩:=old i _ _ hi hne;have hl:=h.left _ _ _ h1
   by_cases h5:i<pre.length
   ·obtain rfl:=h3 h5;have h6:kG (pre++(p,o)::post) j=kG C j:=by
     unfold kG
     by_cases h0:j=0
     ·rw[if_pos h0,if_pos h0]
     ·rw[if_neg h0,if_neg h0,hat,if_pos (by omega)]
    rw[h6];unfold pO
    by_cases h7:nx= -1
    ·rw[if_pos h7];exact hl
    ·rw[if_neg h7];have h8:nx.toNat≠x:=fun e=>by
      rw[hnx]at h7 e;unfold cJ at h7 e
      cases h9:C[pre.length+1+1]? with
      | none=>rw[h9]at h7;exact h7 rfl
      | some c=>
       rw[h9]at e;have:=E8 h.ok h9 h1 (by simpa using e);omega
     rw[List.getElem?_set_ne h8];exact hl
   ·obtain rfl:=h4 (by omega)
    by_cases h6:i=pre.length+1
    ·subst h6;have hn2:nx=(x:Int):=by rw[hnx];unfold cJ;rw[h1]
     have hpv:kG (pre++(p,o)::post) (pre.length+1)=(p:Int):=by
      unfold kG;rw[if_neg (by omega),show pre.length+1-1=pre.length by omega,hat,if_neg (by omega),if_pos rfl]
     rw[hpv,hn2];unfold pO;rw[if_neg (by omega),Int.toNat_natCast,List.getElem?_set_self (by rw[h.ll];exact h.lt _ (List.mem_of_getElem? h1))]
    ·have hpv:kG (pre++(p,o)::post) i=kG C (i+1):=by
      unfold kG;rw[if_neg (by omega),if_neg (by omega),hat,if_neg (by omega),if_neg (by omega),show i-1+1=i+1-1 by omega]
     rw[hpv];unfold pO
     by_cases h7:nx= -1
     ·rw[if_pos h7];exact hl
     ·rw[if_neg h7];have h8:nx.toNat≠x:=fun e=>by
       rw[hnx]at h7 e;unfold cJ at h7 e
       cases h9:C[pre.length+1+1]? with
       | none=>rw[h9]at h7;exact h7 rfl
       | some c=>
        rw[h9]at e;have:=E8 h.ok h9 h1 (by simpa using e);omega
      rw[List.getElem?_set_ne h8];exact hl
 ·
  by_cases hne:i=pre.length
  ·subst hne;obtain⟨rfl,rfl⟩:=self _ _ hi;rw[List.getElem?_set_self (by rw[h.lr];exact hpn)];have:cJ (pre++(x,c)::post) pre.length=nx:=by
    rw[hnx];unfold cJ;rw[hat,if_neg (by omega),if_neg (by omega)]
   rw[this]
  ·obtain⟨j,h1,h2,h2q,h3,h4⟩:=old i _ _ hi hne;rw[List.getElem?_set_ne (by omega),h.right _ _ _ h1];congr 1
   by_cases h5:i<pre.length
   ·obtain rfl:=h3 h5;unfold cJ
    by_cases h6:j+1<pre.length
    ·rw[hat,if_pos h6]
    ·have h7:j+1=pre.length:=by omega
     rw[hat,if_neg h6,if_pos h7,h7,e0]
   ·obtain rfl:=h4 (by omega);unfold cJ;rw[hat,if_neg (by omega),if_neg (by omega)]
end
theorem aAi {M:List Mg} {pre post:Ch} {p q:Nat} {a b o:Int} (hc:zH (pre++(p,a)::(q,b)::post)) (x:Nat) (hp:x≠p) (hr:∀c,pre.getLast?=some c->c.1≠x):
  agF M (pre++(p,o)::post) x=if x=q then none else agF M (pre++(p,a)::(q,b)::post) x:=by
 have hc':=S3 (o:=o) hc
 by_cases hq:x=q
 ·rw[if_pos hq];subst hq;refine agF_no fun c hcm e=> ?_
  unfold zH at hc;rw[List.pairwise_append]at hc;obtain⟨h1,h2,h3⟩:=hc;rw[List.pairwise_cons,List.pairwise_cons]at h2;rcases List.mem_append.1 hcm with hm | hm
  ·have:=h3 c hm (x,b) (by simp);simp only at this;omega
  ·rcases List.mem_cons.1 hm with rfl | hm
   ·exact hp e.symm
   ·have:=h2.2.1 c hm;simp only at this;omega
 ·rw[if_neg hq]
  by_cases hm:∃c∈pre,c.1=x
  ·exact(aBd hc hr hm).symm
  ·have hm':∀c∈pre,c.1≠x:=fun c h1 h2=>hm ⟨c,h1,h2⟩
   rw[Q2 hm' (by simp),Q2 hm' (by simp),iD,if_neg hp]
   cases post with
   | nil=>simp[agF]
   | cons s post=>
    obtain⟨s,c⟩:=s;rw[iD,if_neg hp,iD,if_neg hq]
theorem aBP {R:List Int} (h0:0<R.length) (Lf Rt:List Int) (hl:Lf=(List.range R.length).map (fun(i:Nat)=>(i:Int)-1)) (hr:Rt=((List.range R.length).map (fun(i:Nat)=>(i:Int)+1)).set (R.length-1) (-1)):Lnk R.length (iI R) R Lf Rt:=by
 subst hl hr;have hat:∀(i p:Nat) (a:Int),(iI R)[i]?=some (p,a)->p=i/\R[i]?=some a/\i<R.length:=fun i p a h=>by
  have hi:=(List.getElem?_eq_some_iff.1 h).1;rw[wJ]at hi;rw[yM (List.getElem?_eq_getElem hi)]at h;simp only[Option.some.injEq,Prod.mk.injEq]at h;exact⟨h.1.symm,by rw[List.getElem?_eq_getElem hi,h.2],hi⟩
 refine⟨chOf_ok R,fun c hc=> ?_,rfl,by simp,by simp,fun i p a h=> ?_,fun i p a h=> ?_,fun i p a h=> ?_⟩
 ·obtain⟨i,hi,rfl⟩:=List.getElem_of_mem hc;obtain⟨h1,_,h2⟩:=hat i _ _ (List.getElem?_eq_getElem hi);exact Nat.lt_of_le_of_lt (Nat.le_of_eq h1) h2
 ·obtain⟨rfl,h1,_⟩:=hat i p a h;exact h1
 ·obtain⟨rfl,h1,h2⟩:=hat i p a h;simp only[List.getElem?_map,List.getElem?_range h2,Option.map_some,Option.some.injEq];unfold kG
  by_cases h3:p=0
  ·subst h3;simp
  ·rw[if_neg h3,yM (List.getElem?_eq_getElem (show p-1<R.length by omega))];simp only;omega
 ·obtain⟨rfl,h1,h2⟩:=hat i p a h;unfold cJ
  by_cases h3:p+1<R.length
  ·rw[List.getElem?_set_ne (by omega),yM (List.getElem?_eq_getElem h3)];simp only[List.getElem?_map,List.getElem?_range h2,Option.map_some];simp
  ·have h4:p=R.length-1:=by omega
   rw[<-h4,List.getElem?_set_self (by simp;omega),List.getElem?_eq_none (by rw[wJ];omega)]
theorem ch_split {C:Ch} {i p q:Nat} {a b:Int} (h1:C[i]?=some (p,a)) (h2:C[i+1]?=some (q,b)):∃pre post,C=pre++(p,a)::(q,b)::post/\pre.length=i:=by
 have hi:=(List.getElem?_eq_some_iff.1 h2).1;refine⟨C.take i,C.drop (i+2),?_,by simp;omega⟩;have e1:C.drop i=(p,a)::C.drop (i+1):=by
  rw[List.drop_eq_getElem_cons (by omega)];rw[(List.getElem?_eq_some_iff.1 h1).2]
 have e2:C.drop (i+1)=(q,b)::C.drop (i+2):=by
  rw[List.drop_eq_getElem_cons hi];rw[(List.getElem?_eq_some_iff.1 h2).2]
 rw[<-e2,<-e1,List.take_append_drop]
structure Way (M:List Mg) (R:List Int) (C:Ch):Prop where
 run:kK M C.length (C.map (·.2))=kK M R.length R
 zero:∃a,C[0]?=some (0,a)
theorem Way.start (M:List Mg) {R:List Int} (h:0<R.length):Way M R (iI R):=
 ⟨by rw[wJ,chOf_map],⟨_,yM (List.getElem?_eq_getElem h)⟩⟩
theorem Way.step {M:List Mg} {R:List Int} {pre post:Ch} {p q:Nat} {a b o:Int} (h:Way M R (pre++(p,a)::(q,b)::post)) (hs:wE M ((pre++(p,a)::(q,b)::post).map (·.2))=some ((pre++(p,o)::post).map (·.2))):Way M R (pre++(p,o)::post):=by
 refine⟨?_,?_⟩
 ·have h1:=aBv hs;have h2:=h.run;simp only[List.length_map]at h1;rw[<-h1,h2]
 ·obtain⟨c,hc⟩:=h.zero
  cases pre with
  | nil=>simp at hc |-;exact hc.1
  | cons x pre=>simp at hc |-;exact⟨c,hc⟩
theorem Way.done {M:List Mg} {R:List Int} {C:Ch} (h:Way M R C) (hn:Q7 M (C.map (·.2))):C.map (·.2)=kK M R.length R:=by
 rw[<-h.run,wP (tY hn)]
theorem aCs {M:List Mg} {R:List Int} {C:Ch} (hw:Way M R C) (hc:zH C) {p:Int} {o d:Int} (h:agI M C p=some (o,d)) (hm:∀q o' d',agI M C q=some (o',d')->o<o'\/(o=o'/\p<=q)):
  ∃(pre post:Ch) (pn q:Nat) (a b:Int),p=(pn:Int)/\C=pre++(pn,a)::(q,b)::post/\Way M R (pre++(pn,d)::post):=by
 have hp:0<=p:=by
  unfold agI at h;split at h
  ·assumption
  ·cases h
 obtain⟨pn,rfl⟩:∃pn:Nat,p=pn:=⟨p.toNat,by omega⟩;rw[lI]at h;obtain⟨i,a,q,b,m,h1,h2,h3,h4,h5,h6⟩:=agF_best hc h (fun q o' d' hq=>by
  have:=hm (q:Int) o' d' (by rw[lI];exact hq);omega)
 obtain⟨pre,post,rfl,hl⟩:=ch_split h1 h2;refine⟨pre,post,pn,q,a,b,rfl,rfl,hw.step (o:=d) ?_⟩;rw[sY h6,<-hl,<-h5];exact congrArg some (aBF (pre:=pre) (post:=post) (p:=pn) (q:=q) (a:=a) (b:=b) (o:=m.out)).symm
theorem agI_none {M:List Mg} {C:Ch} (hc:zH C) (h:∀x,agI M C x=none):Q7 M (C.map (·.2)):=aAh hc fun p=>by rw[<-lI];exact h p
def agK (M:List Mg) (C:Ch) (k:Nat) (x:Int):Option (Int×Int):=if x<k then agI M C x else none
theorem agK_zero (M:List Mg) (C:Ch) (x:Int):agK M C 0 x=none:=by
 unfold agK agI
 by_cases h:x<(0:Nat)
 ·rw[if_pos h,if_neg (by omega)]
 ·rw[if_neg h]
theorem agK_succ (M:List Mg) (C:Ch) (k:Nat) (x:Int):agK M C (k+1) x=if x=k then agF M C k else agK M C k x:=by
 unfold agK
 by_cases h:x=k
 ·subst h;rw[if_pos (by omega),if_pos rfl,lI]
 ·rw[if_neg h]
  by_cases h2:x<k
  ·rw[if_pos (by omega),if_pos h2]
  ·rw[if_neg (by omega),if_neg h2]
theorem agK_all {M:List Mg} {C:Ch} {n:Nat} (h:∀c∈C,c.1<n) (x:Int):agK M C n x=agI M C x:=by
 unfold agK
 by_cases h2:x<n
 ·rw[if_pos h2]
 ·rw[if_neg h2];unfold agI;rw[if_pos (by omega)];exact(agF_no fun c hc e=>by have:=h c hc;omega).symm
open Go.RowKit
def oW (m:Mg):Value:= .agg #[.int .i64 m.left, .int .i64 m.right, .int .i64 m.out, .int .i64 m.order]
theorem Z4 {M:List Mg} {a b:Int} (h:atM M M.length (a,b)=none):lD M a b=none:=by
 unfold lD;rw[List.find?_eq_none];intro m hm;obtain⟨i,hi,rfl⟩:=List.getElem_of_mem hm;have h1:=aY h i hi;have h2:M[i]=mg M i:=by have:=gF hi;rw[List.getElem?_eq_getElem hi]at this;exact Option.some.inj this
 rw[h2];simp only[Bool.and_eq_true,decide_eq_true_eq];rintro⟨rfl,rfl⟩;exact h1 rfl
theorem Z3 {M:List Mg} (hp:M.Pairwise yE) {a b i:Int} (h:atM M M.length (a,b)=some i):∃k:Nat,i=k/\k<M.length/\lD M a b=some (mg M k):=by
 obtain⟨k,hk,rfl,e⟩:=X9 h;simp only[Prod.mk.injEq]at e;obtain⟨rfl,rfl⟩:=e;refine⟨k,rfl,hk,?_⟩;have hg:∀j (hj:j<M.length),M[j]=mg M j:=fun j hj=>by
  have:=gF hj;rw[List.getElem?_eq_getElem hj]at this;exact Option.some.inj this
 unfold lD;rw[List.find?_eq_some_iff_getElem];refine⟨by simp,k,hk,hg k hk,fun j hj=> ?_⟩;rw[hg j (by omega)];have h1:=List.pairwise_iff_getElem.1 hp j k (by omega) hk hj;rw[hg j (by omega),hg k hk]at h1;unfold yE at h1;simp only[Bool.not_eq_true',Bool.and_eq_false_iff,decide_eq_false_iff_not];exact Decidable.not_and_iff_or_not.1 h1
def FindP (M:List Mg) (a b:Int) (w:World) (e:Ending) (w':World):Prop:=
 (∃m,e= .returned (.tuple #[oW m, .bool (lD M a b).isSome])/\∀m',lD M a b=some m'->m=m')/\Below w.heap.size w w'
theorem Z2 {base pg:Nat} {M:List Mg} (a b:Int) (w:World) (h:M5 w base pg M) (hp:M.Pairwise yE) (hl:M.length<=16384) (ha:(Lit.int .i64 a).wf=true) (hb:(Lit.int .i64 b).wf=true):
  Calls Tryz.prog 169 #[.pointer (some ⟨pg,0,none⟩), .int .i64 a, .int .i64 b] w (FindP M a b w):=by
 obtain⟨lo,mo,mc,mb,sz,hx,ho,hm,hmb⟩:=h;obtain⟨w1,hw1⟩:∃w1,w.alloc (.cells #[.int .i64 0, .int .i64 0, .int .i64 0, .int .i64 0] 185)=w1:=⟨_,rfl⟩;have hb1:Below w.heap.size w w1:=hw1▸aA w _;have hx1:w1.heap[w.heap.size]?=some (.cells #[.int .i64 0, .int .i64 0, .int .i64 0, .int .i64 0] 185):=by rw[<-hw1];exact heap_alloc_new w _
 obtain⟨b0,b1⟩:w1.cell? ⟨pg,0,none⟩=some (.slice mo M.length mc)/\w1.cell? ⟨pg,1,none⟩=some (.map (some mb)):=by
  have:=(hb1.block pg (Array.getElem?_eq_some_iff.1 hx).1).trans hx;simp[World.cell?,this]
 obtain⟨x0,x1,x2,x3⟩:=iG hx1;have hfr:∀o,w1.frozen? ⟨w.heap.size,o,none⟩=false:=fun o=>by simp[World.frozen?,hx1]
 have hlk:(Instr.lookup 239 (.map (some mb)) (.agg #[.int .i64 a, .int .i64 b]) true).run Tryz.prog w1= .ok (.tuple #[.int .i64 ((atM M M.length (a,b)).getD 0), .bool (atM M M.length (a,b)).isSome]) w1:=
  sA.getOk (V:=zL) (s:=(a,b)) Tryz.underlying239 Tryz.underlying3 gE (hm.below hb1) ⟨ha,hb⟩
 have ho1:=dA.below ho hb1;have HW1:=hW_ hw1;have HB1:=hW_ hb1
 cases hat:atM M M.length (a,b)with
 | none=>
  have HF:=hW_ (Z4 hat);rw[hat]at hlk;simp only[Option.getD_none,Option.isSome_none]at hlk;rw[<-hw1]at b0 b1 x0 x1 x2 x3 hlk;simp only[<-hw1]at hfr;clear ho1 ho hm hx hx1 hw1 hb1 hat hp hl;go_enter Tryz.func169,Tryz.ntmps169;go_wp2_with (fail);refine bodyPost_ret (v:= .tuple #[oW ⟨0,0,0,0⟩, .bool false]) ?_ rfl ⟨⟨⟨0,0,0,0⟩,by rw[HF.out];rfl,fun m' hm'=>by rw[HF.out]at hm';cases hm'⟩,by rw[HW1.out];exact HB1.out⟩
  simp[results,Tryz.results169,go_sem,x0,x1,x2,x3,oW]
 | some i=>
  obtain⟨k,rfl,hk,hfm⟩:=Z3 hp hat;have HF:=hW_ hfm;rw[hat]at hlk;simp only[Option.getD_some,Option.isSome_some]at hlk;obtain⟨ro,rc,e0,hsl⟩:=ho1.sl;obtain⟨rfl,_,rfl⟩:=Value.slice.inj e0;obtain⟨bq,o,hao,hci⟩:=hsl.elem Mg.enc_len (by omega) (gF hk);subst hao;obtain⟨⟨l,r,od,d⟩,hmk⟩:∃m,mg M k=m:=⟨_,rfl⟩;rw[hmk]at hci HF;have d0:=hci 0 _ rfl;have d1:=hci 1 _ rfl;have d2:=hci 2 _ rfl;have d3:=hci 3 _ rfl;rw[Nat.add_zero]at d0;simp only at d0 d1 d2 d3;have gk:(k:Int)<(M.length:Int):=by omega
  have gk0:(0:Int)<=(k:Int):=by omega
  obtain⟨n,hn⟩:∃n,M.length=n:=⟨_,rfl⟩;rw[hn]at gk b0;rw[<-hw1]at b0 b1 x0 x1 x2 x3 hlk d0 d1 d2 d3;simp only[<-hw1]at hfr;clear ho1 ho hm hx hx1 hw1 hb1 hat hp hl hsl hci hk hmk hn hfm e0;go_enter Tryz.func169,Tryz.ntmps169;go_wp2_with (fail);refine bodyPost_ret (v:= .tuple #[oW ⟨l,r,od,d⟩, .bool true]) ?_ rfl ⟨⟨⟨l,r,od,d⟩,by rw[HF.out];rfl,fun m' hm'=>by rw[HF.out]at hm';exact Option.some.inj hm'⟩,aA w _⟩
  obtain⟨y0,y1,y2,y3⟩:=iG (heap_alloc_new w (.cells #[.int .i64 l, .int .i64 r, .int .i64 od, .int .i64 d] 185));simp[results,Tryz.results169,go_sem,y0,y1,y2,y3,oW]
open Go.RowKit Go.ChangeMaps
abbrev I3 (w:World) (base b n c:Nat) (A:List Int):Prop:=w.ownsRow base 3 1 (.slice (some ⟨b,0,none⟩) n c) n (A.map (.int .i64))
theorem I3.len {w:World} {base b n c:Nat} {A:List Int} (h:I3 w base b n c A):A.length=n:=by have:=h.1;simpa using this
theorem I3.cell {w:World} {base b n c:Nat} {A:List Int} (h:I3 w base b n c A) {i:Nat} {x:Int} (hi:A[i]?=some x):w.cell? ⟨b,i,none⟩=some (.int .i64 x):=by
 have hl:=h.len;have:=(List.getElem?_eq_some_iff.1 hi).1;rw[World.ownsRow.cellAt h i (by omega),List.getElem?_map,hi];rfl
theorem I3.frozen {w:World} {base b n c:Nat} {A:List Int} (h:I3 w base b n c A) (o:Nat):w.frozen? ⟨b,o,none⟩=false:=World.ownsRow.frozenAt h o
theorem I3.set {w:World} {base b n c:Nat} {A:List Int} (h:I3 w base b n c A) (i:Nat) (x:Int):I3 (w.setCell ⟨b,i,none⟩ (.int .i64 x)) base b n c (A.set i x):=by
 have:=(World.ownsRow.stored h i (.int .i64 x)).1;unfold I3;rw[List.map_set];exact this
theorem I3.stay {w w':World} {base b n c:Nat} {A:List Int} (h:I3 w base b n c A) (hk:w'.heap[b]?=w.heap[b]?):I3 w' base b n c A:=oA h (fun q hq=>by
 obtain rfl:b=q:=by simpa[Value.ownBlock]using hq
 exact hk)
theorem I3.lt {w:World} {base b n c:Nat} {A:List Int} (h:I3 w base b n c A):base<=b/\b<w.heap.size:=World.ownsRow.lt h b rfl
structure Cx where
 base:Nat
 n:Nat
 kb:Nat
 g:Nat
 mb:Nat
 rb:Nat
 lb:Nat
 tb:Nat
 rc:Nat
 lc:Nat
 tc:Nat
 pg:Nat
structure Apart (c:Cx):Prop where
 kg:c.kb≠c.g
 km:c.kb≠c.mb
 kr:c.kb≠c.rb
 kl:c.kb≠c.lb
 kt:c.kb≠c.tb
 rg:c.rb≠c.g
 rm:c.rb≠c.mb
 lg:c.lb≠c.g
 lm:c.lb≠c.mb
 tg:c.tb≠c.g
 tm:c.tb≠c.mb
 rl:c.rb≠c.lb
 rt:c.rb≠c.tb
 lt:c.lb≠c.tb
structure ChV (w:World) (c:Cx) (va:Value) (Rw Lf Rt:List Int) (L:List Ent):Prop where
 box:w.heap[c.kb]?=some (.cells #[.slice (some ⟨c.rb,0,none⟩) c.n c.rc, .slice (some ⟨c.lb,0,none⟩) c.n c.lc, .slice (some ⟨c.tb,0,none⟩) c.n c.tc, .func (.func 169) #[.pointer (some ⟨c.pg,0,none⟩)] #[], .pointer (some ⟨c.g,0,none⟩)] 229)
 row:I3 w c.base c.rb c.n c.rc Rw
 left:I3 w c.base c.lb c.n c.lc Lf
 right:I3 w c.base c.tb c.n c.tc Rt
 ag:AgV w c.base c.g c.mb va L
 lo:c.base<=c.kb
 ne:Apart c
 far:∀q,va.ownBlock=some q->q≠c.kb/\q≠c.rb/\q≠c.lb/\q≠c.tb
section
variable {w w':World} {c:Cx} {va va':Value} {Rw Lf Rt:List Int} {L L':List Ent}
theorem ChV.stay (h:ChV w c va Rw Lf Rt L) (hk:∀q,q<w.heap.size->w'.heap[q]?=w.heap[q]?):ChV w' c va Rw Lf Rt L:=
 ⟨(hk _ (Array.getElem?_eq_some_iff.1 h.box).1).trans h.box,h.row.stay (hk _ h.row.lt.2),h.left.stay (hk _ h.left.lt.2),h.right.stay (hk _ h.right.lt.2),h.ag.stay hk,h.lo,h.ne,h.far⟩
theorem ChV.below (h:ChV w c va Rw Lf Rt L) (hb:Below w.heap.size w w'):ChV w' c va Rw Lf Rt L:=h.stay (fun q hq=>hb.block q hq)
theorem ChV.cells (h:ChV w c va Rw Lf Rt L):w.cell? ⟨c.kb,0,none⟩=some (.slice (some ⟨c.rb,0,none⟩) c.n c.rc)/\w.cell? ⟨c.kb,1,none⟩=some (.slice (some ⟨c.lb,0,none⟩) c.n c.lc)/\w.cell? ⟨c.kb,2,none⟩=some (.slice (some ⟨c.tb,0,none⟩) c.n c.tc)/\
  w.cell? ⟨c.kb,3,none⟩=some (.func (.func 169) #[.pointer (some ⟨c.pg,0,none⟩)] #[])/\w.cell? ⟨c.kb,4,none⟩=some (.pointer (some ⟨c.g,0,none⟩)):=by
 simp[World.cell?,h.box]
theorem ChV.turn (h:ChV w c va Rw Lf Rt L) (hA:AgV w' c.base c.g c.mb va' L') (hT:Trod w w' c.g c.mb va va'):ChV w' c va' Rw Lf Rt L':=by
 have hne:=h.ne;have hfar:=h.far;have hkb:=(Array.getElem?_eq_some_iff.1 h.box).1;refine⟨(hT.block _ hkb hne.kg hne.km (fun e=>(hfar _ e).1 rfl)).trans h.box,h.row.stay (hT.block _ h.row.lt.2 hne.rg hne.rm (fun e=>(hfar _ e).2.1 rfl)),h.left.stay (hT.block _ h.left.lt.2 hne.lg hne.lm (fun e=>(hfar _ e).2.2.1 rfl)),
  h.right.stay (hT.block _ h.right.lt.2 hne.tg hne.tm (fun e=>(hfar _ e).2.2.2 rfl)),hA,h.lo,hne,fun q hq=> ?_⟩
 rcases hT.new q hq with h1 | h1
 ·exact hfar q h1
 ·have:=h.row.lt.2;have:=h.left.lt.2;have:=h.right.lt.2;exact⟨by omega,by omega,by omega,by omega⟩
theorem ChV.setOther (h:ChV w c va Rw Lf Rt L) {b:Nat} (hk:c.kb≠b) (hg:c.g≠b) (hm:c.mb≠b) (hf:∀q,va.ownBlock=some q->q≠b) (i:Nat) (u:Value):AgV (w.setCell ⟨b,i,none⟩ u) c.base c.g c.mb va L/\(w.setCell ⟨b,i,none⟩ u).heap[c.kb]?=w.heap[c.kb]? :=by
 have hs:∀q,q≠b->(w.setCell ⟨b,i,none⟩ u).heap[q]?=w.heap[q]? :=fun q hq=>heap_setCell_other w ⟨b,i,none⟩ q u hq
 refine⟨h.ag.other (fun q hq=> ?_),hs _ hk⟩;rcases hq with rfl | rfl | hq
 ·exact hs _ hg
 ·exact hs _ hm
 ·exact hs _ (hf q hq)
theorem ChV.setRow (h:ChV w c va Rw Lf Rt L) (i:Nat) (x:Int):ChV (w.setCell ⟨c.rb,i,none⟩ (.int .i64 x)) c va (Rw.set i x) Lf Rt L:=by
 have hne:=h.ne;obtain⟨h1,h2⟩:=h.setOther hne.kr hne.rg.symm hne.rm.symm (fun q hq=>(h.far q hq).2.1) i (.int .i64 x);have hk:∀q,q≠c.rb->(w.setCell ⟨c.rb,i,none⟩ (.int .i64 x)).heap[q]?=w.heap[q]? :=fun q hq=>heap_setCell_other w ⟨c.rb,i,none⟩ q _ hq
 exact⟨h2.trans h.box,h.row.set i x,h.left.stay (hk _ hne.rl.symm),h.right.stay (hk _ hne.rt.symm),h1,h.lo,h.ne,h.far⟩
theorem ChV.setLeft (h:ChV w c va Rw Lf Rt L) (i:Nat) (x:Int):ChV (w.setCell ⟨c.lb,i,none⟩ (.int .i64 x)) c va Rw (Lf.set i x) Rt L:=by
 have hne:=h.ne;obtain⟨h1,h2⟩:=h.setOther hne.kl hne.lg.symm hne.lm.symm (fun q hq=>(h.far q hq).2.2.1) i (.int .i64 x);have hk:∀q,q≠c.lb->(w.setCell ⟨c.lb,i,none⟩ (.int .i64 x)).heap[q]?=w.heap[q]? :=fun q hq=>heap_setCell_other w ⟨c.lb,i,none⟩ q _ hq
 exact⟨h2.trans h.box,h.row.stay (hk _ hne.rl),h.left.set i x,h.right.stay (hk _ hne.lt.symm),h1,h.lo,h.ne,h.far⟩
theorem ChV.setRight (h:ChV w c va Rw Lf Rt L) (i:Nat) (x:Int):ChV (w.setCell ⟨c.tb,i,none⟩ (.int .i64 x)) c va Rw Lf (Rt.set i x) L:=by
 have hne:=h.ne;obtain⟨h1,h2⟩:=h.setOther hne.kt hne.tg.symm hne.tm.symm (fun q hq=>(h.far q hq).2.2.2) i (.int .i64 x);have hk:∀q,q≠c.tb->(w.setCell ⟨c.tb,i,none⟩ (.int .i64 x)).heap[q]?=w.heap[q]? :=fun q hq=>heap_setCell_other w ⟨c.tb,i,none⟩ q _ hq
 exact⟨h2.trans h.box,h.row.stay (hk _ hne.rt),h.left.stay (hk _ hne.lt),h.right.set i x,h1,h.lo,h.ne,h.far⟩
theorem oP (hA:AgV w c.base c.g c.mb va L) (hT:Trod w w' c.g c.mb va va') (hb:c.base<=w.heap.size):Below c.base w w':=
 ⟨hT.os,hT.tape,hT.output,hT.size,fun q hq=>hT.block q (by omega) (by have:=hA.pile.lo;omega) (by have:=hA.pile.lo;omega) (fun e=>by have:=(World.ownsRow.lt hA.pile.row q e).1;omega)⟩
theorem ChV.base (h:ChV w c va Rw Lf Rt L):c.base<=w.heap.size:=by
 have:=h.row.lt;omega
end
structure Tb (W:World) (c:Cx) (M:List Mg):Prop where
 tab:∃pb,M5 W pb c.pg M
 parts:M.Pairwise yE
 len:M.length<=16384
 base:c.base=W.heap.size
theorem M5.below {w w':World} {base g:Nat} {M:List Mg} (h:M5 w base g M) (hb:Below w.heap.size w w'):M5 w' base g M:=h.keep (fun q _ hq=>hb.block q hq) hb.size
theorem aAM (kb:Nat) (w:World):
  Calls Tryz.prog 171 #[.pointer (some ⟨kb,0,none⟩), .int .i64 (-1)] w fun e w'=>e= .returned (.tuple #[])/\w=w':=by
 go_enter Tryz.func171,Tryz.ntmps171;go_wp2_with (fail);refine bodyPost_ret (results_none rfl _ _ _) rfl ⟨rfl,rfl⟩
def oT (w:World) (c:Cx) (va:Value) (Rw Lf Rt:List Int) (L:List Ent) (p:Nat) (o:Option (Int×Int)) (e:Ending) (w':World):Prop:=
 e= .returned (.tuple #[])/\∃va' L',ChV w' c va' Rw Lf Rt L'/\(∀x,agL L' x=if x=(p:Int)then o else agL L x)/\L'.length<=L.length+1/\Trod w w' c.g c.mb va va'
theorem aBN {W0:World} {c:Cx} {va:Value} {Rw Lf Rt:List Int} {L:List Ent} (p:Nat) (w:World) (h:ChV w c va Rw Lf Rt L) (hp:p<c.n) (hn:c.n<=1048576) (hr:Rt[p]?=some (-1)):
  Calls Tryz.prog 171 #[.pointer (some ⟨c.kb,0,none⟩), .int .i64 p] w (oT w c va Rw Lf Rt L p none):=by
 have HD:=hW_ (aH (p:Int) w h.ag (by omega));obtain⟨b0,b1,b2,b3,b4⟩:=h.cells;have t0:=h.right.cell hr;have gp:(p:Int)<(c.n:Int):=by omega
 have gp0:(0:Int)<=(p:Int):=by omega
 have gn:¬(p:Int)= -1:=by omega
 have H:=hW_ h;clear h hp hr;obtain⟨base,n,kb,g,mb,rb,lb,tb,rc,lc,tc,pg⟩:=c;simp only at *;go_enter Tryz.func171,Tryz.ntmps171;go_wp2_with (fail);go_at_call 207;refine HD.out.mono ?_
 rintro e w2 ⟨⟨t,rfl⟩,v2,L2,hA2,hg2,hl2,hT2⟩;have HA2:=hW_ hA2;have HG2:=hW_ hg2;have HL2:=hW_ hl2;have HT2:=hW_ hT2;clear hA2 hg2 hl2 hT2;go_wp2_with (fail)
 go_end0
 exact⟨rfl,v2,L2,H.out.turn HA2.out HT2.out,HG2.out,Nat.le_succ_of_le HL2.out,HT2.out⟩
structure FrC (w w':World) (c:Cx) (va va':Value):Prop where
 os:w'.os=w.os
 tape:w'.tape=w.tape
 output:w'.output=w.output
 size:w.heap.size<=w'.heap.size
 block:∀q,q<w.heap.size->q≠c.g->q≠c.mb->q≠c.rb->q≠c.lb->q≠c.tb->va.ownBlock≠some q->w'.heap[q]?=w.heap[q]?
 new:∀q,va'.ownBlock=some q->va.ownBlock=some q\/w.heap.size<=q
theorem FrC.trans {w w1 w2:World} {c:Cx} {v v1 v2:Value} (h:FrC w w1 c v v1) (h2:FrC w1 w2 c v1 v2):FrC w w2 c v v2:=
 ⟨h2.os.trans h.os,h2.tape.trans h.tape,h2.output.trans h.output,Nat.le_trans h.size h2.size,fun q hq a b d e f g=>(h2.block q (Nat.lt_of_lt_of_le hq h.size) a b d e f (fun e=>by
  rcases h.new q e with h3 | h3
  ·exact g h3
  ·omega)).trans (h.block q hq a b d e f g),fun q hq=>by
  rcases h2.new q hq with h3 | h3
  ·exact h.new q h3
  ·exact .inr (Nat.le_trans h.size h3)⟩
theorem FrC.trod {w w':World} {c:Cx} {v v':Value} (h:Trod w w' c.g c.mb v v'):FrC w w' c v v':=⟨h.os,h.tape,h.output,h.size,fun q hq a b _ _ _ f=>h.block q hq a b f,h.new⟩
theorem FrC.below {w w':World} {c:Cx} {v:Value} (h:Below w.heap.size w w'):FrC w w' c v v:=FrC.trod (Trod.of h)
theorem FrC.set {w:World} {c:Cx} {v:Value} {b:Nat} (hb:b=c.rb\/b=c.lb\/b=c.tb) (i:Nat) (u:Value):FrC w (w.setCell ⟨b,i,none⟩ u) c v v:=
 ⟨rfl,rfl,rfl,by simp,fun q _ _ _ h1 h2 h3 _=>heap_setCell_other w ⟨b,i,none⟩ q u (by
  show q≠b;rcases hb with rfl | rfl | rfl
  ·exact h1
  ·exact h2
  ·exact h3),fun q hq=> .inl hq⟩
theorem FrC.base {w w':World} {c:Cx} {va va':Value} {Rw Lf Rt:List Int} {L:List Ent} (h:FrC w w' c va va') (hC:ChV w c va Rw Lf Rt L):Below c.base w w':=
 ⟨h.os,h.tape,h.output,h.size,fun q hq=>h.block q (by have:=hC.base;omega) (by have:=hC.ag.pile.lo.1;omega) (by have:=hC.ag.pile.lo.2.1;omega) (by have:=hC.row.lt;omega) (by have:=hC.left.lt;omega) (by have:=hC.right.lt;omega) (fun e=>by have:=(World.ownsRow.lt hC.ag.pile.row q e).1;omega)⟩
end Go.Proofs.YtjlokfejnijokaaGreatDoor
