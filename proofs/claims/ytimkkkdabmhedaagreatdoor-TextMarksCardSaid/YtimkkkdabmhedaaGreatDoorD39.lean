/- Plain law: a text with a mark in it: its tokens are those of both sides, the mark's between. No program here. -/
import Derived.Test.YtimkkkdabmhedaaGreatDoorD36
set_option linter.unusedVariables false
set_option maxHeartbeats 400000
namespace Go.Proofs.YtimkkkdabmhedaaGreatDoor
open Go
theorem notB {m:Int} (h:256≤m):isB m=false:=by
 cases hb:isB m with
 | false=>rfl
 | true=>have:=isB_iff.1 hb;omega
theorem runOf_app {a l:List Int} {m:Int} (hm:isB m=false):runOf (a++m::l)=runOf a:=by
 unfold runOf
 rw[List.takeWhile_append]
 split
 ·next h=>
  rw[List.takeWhile_cons,hm]
  have:=(List.takeWhile_prefix isB (l:=a)).eq_of_length h
  simp[this]
 ·rfl
theorem splitGo_at {kind:Int} {t:List Rg} (ht:MayTab t) {m:Int} (hm:isB m=false) (l:List Int):∀{k:Nat} {a:List Int},a.length≤k→
  splitGo kind t true (k+1+l.length) (a++m::l) false=splitGo kind t true k a false++(1,true)::splitGo kind t true l.length l false
 | 0,a,h=>by
  obtain rfl:a= []:=List.eq_nil_of_length_eq_zero (by omega)
  rw[show 0+1+l.length=l.length+1 by omega]
  simp only[List.nil_append,splitGo_nil]
  exact splitGo_mark hm
 | k+1,a,h=>by
  by_cases h0:a= []
  ·subst h0
   rw[List.nil_append,splitGo_nil,List.nil_append,show k+1+1+l.length=(k+1+l.length)+1 by omega,splitGo_mark hm,splitGo_more ht (k:=k+1+l.length) (j:=l.length) (by omega) (Nat.le_refl _)]
  ·rw[show k+1+1+l.length=(k+1+l.length)+1 by omega]
   by_cases hr:runOf a= []
   ·cases a with
    | nil=>exact absurd rfl h0
    | cons x a'=>
     have hx:isB x=false:=by
      cases hb:isB x with
      | false=>rfl
      | true=>simp[runOf,hb]at hr
     rw[List.cons_append,splitGo_mark hx,splitGo_mark hx,splitGo_at ht hm l (by simp only[List.length_cons]at h;omega),List.cons_append]
   ·have hn:=nextF_le (kind:=kind) ht runOf_b hr true
    have hf:=nextF_final kind t (runOf a)
    have hrl:=runOf_le a
    rw[splitGo_run (text:=a) (n:=(nextF kind t (runOf a) true).1) (d:=true) hr (by rw[Bool.true_or];exact Prod.ext rfl hf)]
    rw[splitGo_run (text:=a++m::l) (n:=(nextF kind t (runOf a) true).1) (d:=true) (by rw[runOf_app hm];exact hr) (by rw[runOf_app hm,Bool.true_or];exact Prod.ext rfl hf)]
    rw[List.drop_append_of_le_length (by omega)]
    simp only[Bool.not_true,Bool.or_false,Bool.not_false,List.cons_append]
    rw[splitGo_at ht hm l (by simp only[List.length_drop];omega)]
theorem splitF_at {kind:Int} {t:List Rg} (ht:MayTab t) {m:Int} (hm:isB m=false) (a l:List Int):splitF kind t (a++m::l) true=splitF kind t a true++(1,true)::splitF kind t l true:=by
 unfold splitF
 rw[show(a++m::l).length=a.length+1+l.length by simp;omega]
 exact splitGo_at ht hm l (Nat.le_refl _)
theorem piecesT_app {V:Vc} {N:List ByteArray}:∀{ps qs:List (Int×Bool)} {A B:List Int},PcsOk ps A→piecesT V N (ps++qs) (A++B)=piecesT V N ps A++piecesT V N qs B
 | [],qs,A,B,h=>by
  have h:A= []:=h
  subst h;rfl
 | p::ps,qs,A,B,h=>by
  have h2:=h.2.1
  simp only[List.cons_append,piecesT]
  rw[List.take_append_of_le_length (by omega),List.drop_append_of_le_length (by omega),piecesT_app h.2.2.2,List.append_assoc]
theorem checkF_cat {V:Vc} {N:List ByteArray} {A B:List Int} (hA:checkF V N A=0):checkF V N (A++B)=checkF V N B:=by
 induction A with
 | nil=>rfl
 | cons s l ih=>
  unfold checkF at hA
  by_cases hs:faultF V N s=0
  ·rw[if_pos hs]at hA
   rw[List.cons_append]
   show(if faultF V N s=0 then checkF V N (l++B)else faultF V N s)=_
   rw[if_pos hs,ih hA]
  ·rw[if_neg hs]at hA;exact absurd hA hs
theorem textF_mark {V:Vc} {N:List ByteArray} {kind:Int} {t:List Rg} (ht:MayTab t) {m:Int} {a b:List Int} (ha:checkF V N a=0) (hm:checkF V N [m]=0) (h6:256≤m):
  textF V N kind t (a++m::b)=textF V N kind t a++markAt V N m::textF V N kind t b:=by
 unfold textF
 rw[splitF_at ht (notB h6),piecesT_app (split_ok ht ha)]
 simp only[piecesT]
 rw[show(1:Int).toNat=1 from rfl,List.take_succ_cons,List.take_zero,List.drop_succ_cons,List.drop_zero,pieceF_mark hm h6]
 rfl
def wantGo (nm:ByteArray):List Sp→Int→Int
 | [],x=>x
 | s::l,x=>wantGo nm l (if s.name=nm then s.id else x)
theorem wantGo_snoc {nm:ByteArray} {S:List Sp} {k:Nat} (hk:k<S.length) (x:Int):wantGo nm (S.drop k) x=wantGo nm (S.drop (k+1)) (if(sp S k).name=nm then(sp S k).id else x):=by
 rw[List.drop_eq_getElem_cons hk]
 have:S[k]=sp S k:=by simp[sp,List.getD,hk]
 rw[this];rfl
theorem want_of {T:List ByteArray} {S:List Sp} (h:MaySp T S) (nm:ByteArray):wantGo nm S (-1)=idOf (spNamed S nm):=by
 have key:∀(L:List Sp) (x:Int),L.Pairwise (fun a b=>a.name≠b.name)→wantGo nm L x=match spNamed L nm with | some s=>s.id | none=>x:=by
  intro L
  induction L with
  | nil=>intro x _;rfl
  | cons s l ih=>
   intro x hp
   obtain⟨h1,h2⟩:=List.pairwise_cons.1 hp
   show wantGo nm l _=_
   rw[ih _ h2]
   by_cases e:s.name=nm
   ·have hn:spNamed l nm=none:=by
     unfold spNamed
     rw[List.find?_eq_none]
     intro y hy
     have:=h1 y hy
     rw[e]at this
     simpa using fun g=>this g.symm
    have hc:spNamed (s::l) nm=some s:=by unfold spNamed;rw[List.find?_cons_of_pos (by simpa using e)]
    rw[hn,hc,if_pos e]
   ·have hc:spNamed (s::l) nm=spNamed l nm:=by unfold spNamed;rw[List.find?_cons_of_neg (by simpa using e)]
    rw[hc,if_neg e]
 rw[key S (-1) (h.2.2.imp (fun{a b} g e=>by
  have:=g.1
  rw[e,sless_irrefl]at this
  cases this))]
 cases spNamed S nm<;>rfl
theorem nameAt_mem {N:List ByteArray} (hN:MayNames N) {k:Nat} (hk:k<N.length):nameAt N (tk N k)=some k:=
 nameAt_some hk rfl (fun j hj e=>by
  have h:=List.pairwise_iff_getElem.1 hN.2.2 j k (by omega) hk hj
  have e1:N[j]=tk N j:=by simp[tk,List.getD,show j<N.length by omega]
  have e2:N[k]=tk N k:=by simp[tk,List.getD,hk]
  rw[e1,e2,e,sless_irrefl]at h
  cases h)
theorem symsOf_mark {V:Vc} {N:List ByteArray} (hS:MaySp V.tokens V.specials) (hN:MayNames N) {k:Nat} (hk:k<N.length) {s:Sp} (h:spNamed V.specials (tk N k)=some s):symsOf V N s.id=([256+(k:Int)],0):=by
 have hm:s∈V.specials:=List.mem_of_find?_eq_some h
 have hnm:s.name=tk N k:=by
  have h9:=List.find?_some (p:=fun s:Sp=>decide (s.name=tk N k)) h
  simpa using h9
 have ho:=hS.2.1 s hm
 unfold symsOf
 rw[if_neg (fun g=>by
  obtain⟨_,_,g3⟩:=isTk_iff.1 g
  exact g3 ho.2.2.2),spBy_mem hS hm]
 simp only
 rw[hnm,nameAt_mem hN hk]
end Go.Proofs.YtimkkkdabmhedaaGreatDoor
