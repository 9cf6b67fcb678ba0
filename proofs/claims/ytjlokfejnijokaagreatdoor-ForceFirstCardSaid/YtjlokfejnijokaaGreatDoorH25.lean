/- A loop over an iterator that hands out what it has laid in memory: the round is told what the handed values read as. Plain lemmas over any program. -/
import Derived.Test.YtjlokfejnijokaaGreatDoorProg
import Derived.RangeFuncNested
import Derived.RangeFuncBound
import Derived.RangeFuncCalls
import Derived.RangeFuncLeaves
import Derived.Shelf.Abstract
import Derived.Shelf.RegionOpen
import Derived.WalkKit
import Derived.OwnWalkIn
import Derived.TacticsInMore
import Derived.LoopNIn
import Derived.LoopIn
import Derived.Test.YtjlokfejnijokaaGreatDoorH7
import Derived.Test.YtjlokfejnijokaaGreatDoorH19
import Derived.Test.YtjlokfejnijokaaGreatDoorH21
import Derived.Test.YtjlokfejnijokaaGreatDoorH1
set_option linter.unusedVariables false
set_option maxHeartbeats 1000000
set_option maxRecDepth 100000
namespace Go.Proofs.YtjlokfejnijokaaGreatDoor
open Go.RowKit
def goesOn {α:Type} (B n₀:Nat) (I:List α->World->Prop) (xs:List α) (W:World):Exit->Act->World->Prop
 | .normal,_,W'=>KeepsFrom B W W'/\Below n₀ W W'/\I xs W'
 | _,_,_=>False
theorem eV {F:Fence} {n:Nat} {P:Program} {w:World} {α:Type} {g:Operand} {ps:Array Tmp} {assign body:Code} {Q:Exit->Act->World->Prop} {a:Act}
  (hro:F.round=none) (h1:1<=n) {gf:Nat} {lb:Array Value} (hg:a.eval g= .func (.func gf) #[] lb) (hFg:F.fn gf) (eg:∀args w,(callFunc gf args).run P w= .ok (.enter gf args) w)
  {encs:α->Array Value} (n₀:Nat) (hn₀:n₀<=w.heap.size) (S:List α->Prop) (Ok:List α->α->Prop) (Rx:World->α->World->Prop) (hRx:∀Wj,OwnFrom w.heap.size (Rx Wj))
  (hseq:∀(l:Nat) (J:List α->World->Prop) (W:World),Below w.heap.size w W->(∀pre A B,J pre A->Below A.heap.size A B->J pre B)->
   (∀pre x Wj W1,J pre Wj->Below Wj.heap.size Wj W1->Rx Wj x W1->Ok pre x->YieldAt F (n-1-1) P l (encs x) W1 fun e W'=>e= .returned (.bool true)/\J (pre++ [x]) W'/\Below n₀ W1 W')->
   J [] W->CallsIn F (n-1) P gf (#[.func (.yield l) #[] #[]]++lb) W fun e W'=>(∃v,e= .returned v)/\∃xs,S xs/\J xs W')
  (hps:∀x,(encs x).size=ps.size)
  (I:List α->World->Prop) (hI:OwnFrom w.heap.size I) (hIB:∀pre A B,I pre A->Below A.heap.size A B->I pre B) (h0:I [] w) (a₁:α->Act)
  (hassign:∀(l:Nat) (x:α) (W:World) (K:Act->World->Prop),K (a₁ x) W->
   assign.wpIn (F.inRound l) (n-1-1) P (Exit.then K (fun _ _ _=>False)) {tmps:=(ps.zip (encs x)).foldl (fun t (p,v)=>t.setIfInBounds p v) a.tmps,defers:=[]} W)
  (hbody:∀(l:Nat) (pre:List α) (x:α) (Wj W:World),I pre Wj->(∀(q:Nat) (o:Obj),Wj.heap[q]?=some o->o.isCells=true->W.heap[q]?=some o)->Wj.heap.size<=W.heap.size->I pre W->Rx Wj x W->Ok pre x->body.wpIn (F.inRound l) (n-1-1) P (goesOn w.heap.size n₀ I (pre++ [x]) W) (a₁ x) W)
  (hdone:∀(D:Nat) (xs:List α) (W:World),w.heap.size<=D->S xs->I xs W->W.heap[D]?=some (.deferred (some []))->Q .normal {a with defers:={target:= .collected D,args:=#[]}::a.defers} W):
  (Code.rangeFunc g ps assign body).wpIn F n P Q a w:=by
 refine wpIn_rangeFunc fun fn hfn=> ?_
 rw[hro];obtain⟨rec,hrec⟩:∃rec:LoopState->Option Code->Loop,rec=fun st pe=>{state:=st,pending:=pe,fn,tmps:=a.tmps,params:=ps,assign,body,defers:=w.heap.size}:=⟨_,rfl⟩
 obtain⟨W1,hW1⟩:∃W1,(w.alloc (.deferred (some []))).alloc (.loop (rec .ready none))=W1:=⟨_,rfl⟩;have hs1:W1.heap.size=w.heap.size+2:=by rw[<-hW1];simp
 have hL1:W1.heap[w.heap.size+1]?=some (.loop (rec .ready none)):=by
  have:=World.alloc_heap_new (w.alloc (.deferred (some []))) (.loop (rec .ready none));rw[hW1,World.size_alloc]at this;exact this
 have hK1:W1.heap[w.heap.size]?=some (.deferred (some [])):=by
  rw[<-hW1];exact(Below.heap_alloc _ _ _ (by simp)).trans (World.alloc_heap_new w _)
 have hI1:I [] W1:=hW1▸hI.alloc _ (hI.alloc _ h0);have hb1:Below w.heap.size w W1:=by
  rw[<-hW1];exact((Below.refl _ w).alloc (Nat.le_refl _) _).alloc (by simp) _
 refine⟨w.heap.size+1,[{target:= .collected w.heap.size,args:=#[]}],W1,{target:= .fn (.func gf) lb,args:=#[.func (.yield (w.heap.size+1)) #[] #[]]},W1,gf,
  #[.func (.yield (w.heap.size+1)) #[] #[]]++lb,W1,?_,?_,?_,?_,fun _=>h1,?_⟩
 ·rw[<-hW1,hrec];exact run_enterLoop_outer _ _ _ _ _
 ·simp only[resolve,hg];simp[go_sem]
 ·intro f' hf';simp[Target.leads]at hf';exact hf'▸hFg
 ·simp[invoke,go_sem,eg]
 refine(hseq (w.heap.size+1) (fun pre W=>I pre W/\W.heap[w.heap.size+1]?=some (.loop (rec .ready none))/\W.heap[w.heap.size]?=some (.deferred (some []))) W1 hb1
  (fun s A B hs hb=>⟨hIB s A B hs.1 hb,(hb.block _ (Array.getElem?_eq_some_iff.1 hs.2.1).1).trans hs.2.1,(hb.block _ (Array.getElem?_eq_some_iff.1 hs.2.2).1).trans hs.2.2⟩)
  ?_ ⟨hI1,hL1,hK1⟩).mono ?_
 ·
  rintro pre x Wj W ⟨hij,hlj,hkj⟩ hbj hrx hok;have hi:=hIB _ _ _ hij hbj;have hl:=(hbj.block _ (Array.getElem?_eq_some_iff.1 hlj).1).trans hlj;have hk:=(hbj.block _ (Array.getElem?_eq_some_iff.1 hkj).1).trans hkj;have hlt:w.heap.size+1<W.heap.size:=(Array.getElem?_eq_some_iff.1 hl).1;have hy:=run_yield (P:=P) (args:=encs x) hl (by rw[hrec];exact hps x);rw[hrec]at hy;refine⟨fn,_,assign,body,hy,roundIn_of_wpIn hfn (hassign _ x W _ ?_)⟩;refine⟨_,run_beginRound hl (by rw[hrec]),?_⟩;obtain⟨W2,hW2⟩:∃W2,W.putObj (w.heap.size+1) (.loop {rec .ready none with state:= .busy})=W2:=⟨_,rfl⟩;have hl2:W2.heap[w.heap.size+1]?=some (.loop {rec .ready none with state:= .busy}):=hW2▸World.putObj_heap_same hlt
  have hk2:W2.heap[w.heap.size]?=some (.deferred (some [])):=hW2▸(World.putObj_heap_other (by omega)).trans hk
  have hw2:Below n₀ W W2:=hW2▸belowK_b hn₀ W _ _ _ (by omega) hl rfl rfl;have hi2:I pre W2:=hW2▸hI.putObj _ hi (by omega) hl rfl;have hr2:Rx Wj x W2:=hW2▸(hRx Wj).putObj _ hrx (by omega) hl rfl;have hcel:∀(q:Nat) (o:Obj),Wj.heap[q]?=some o->o.isCells=true->W2.heap[q]?=some o:=fun q o ho hc=>by
   have h1:=(hbj.block q (Array.getElem?_eq_some_iff.1 ho).1).trans ho;rw[<-hW2];refine(World.putObj_heap_other (fun e=> ?_)).trans h1;rw[e,hl]at h1
   cases h1
   cases hc
  rw[hW2];refine wpIn_mono (hbody _ pre x Wj W2 hij hcel (by have:=hbj.size;rw[<-hW2];simpa using this) hi2 hr2 hok) ?_
  rintro e a3 W3 hp
  cases e with
  | normal=>
   obtain⟨hk3,hkp3,hi3⟩:=hp;have hl3:=hk3.same _ _ (by omega) hl2 rfl;have hk4:=hk3.same _ _ (Nat.le_refl _) hk2 rfl;have hr:=run_endRound (P:=P) none hl3;rw[hrec]at hr;have hl4:(W3.putObj (w.heap.size+1) (.loop (rec .ready none))).heap[w.heap.size+1]?=some (.loop (rec .ready none)):=World.putObj_heap_same (Array.getElem?_eq_some_iff.1 hl3).1
   rw[hrec]at hl4;refine⟨_,_,hr,rfl,⟨hI.putObj _ hi3 (by omega) hl3 rfl,?_,(World.putObj_heap_other (by omega)).trans hk4⟩,?_⟩
   ·rw[hrec];exact hl4
   ·exact hw2.trans (hkp3.trans (belowK_b hn₀ W3 _ _ _ (by omega) hl3 rfl rfl))
  | ret=>exact hp.elim
  | exit id=>exact hp.elim
  | goto t=>exact hp.elim
  | panic ch=>exact hp.elim
  | outgrown=>exact hp.elim
 ·
  rintro e W2 ⟨⟨v,rfl⟩,xs,hS,hi,hl,hk⟩;have hr:=run_endLoop (P:=P) hl (by rw[hrec];simp);rw[hrec]at hr;exact⟨none,_,hr,hdone _ xs _ (Nat.le_refl _) hS (hI.putObj _ hi (by omega) hl rfl) ((World.putObj_heap_other (by omega)).trans hk)⟩
open Go
def B1 (rows:List Fr) (s:List Int):Nat->Int
 | 0=> -1
 | n+1=>match rows.find? (fun r=>decide (r.1=s.take (n+1)))with
  | some r=>r.2
  | none=>B1 rows s n
theorem cI (rows:List Fr) (s:List Int):∀k,(B1 rows s k= -1/\∀n,n<k->∀x,(s.take (n+1),x)∉rows)\/∃n,n<k/\(s.take (n+1),B1 rows s k)∈rows/\∀m,n<m->m<k->∀x,(s.take (m+1),x)∉rows
 | 0=> .inl ⟨rfl,fun n h=>by omega⟩
 | k+1=>by
  cases h:rows.find? (fun r=>decide (r.1=s.take (k+1)))with
  | some r=>
   right;have h1:r.1=s.take (k+1):=by simpa using List.find?_some h
   have h2:=List.mem_of_find?_eq_some h;refine⟨k,by omega,?_,fun m h3 h4=>by omega⟩;have:B1 rows s (k+1)=r.2:=by simp only[B1,h]
   rw[this,<-h1];exact h2
  | none=>
   rw[List.find?_eq_none]at h;have e:B1 rows s (k+1)=B1 rows s k:=by
    simp only[B1];rw[List.find?_eq_none.2 h]
   have hk:∀x,(s.take (k+1),x)∉rows:=fun x hx=>absurd (h _ hx) (by simp)
   rcases cI rows s k with⟨h1,h2⟩ | ⟨n,h1,h2,h3⟩
   ·left;refine⟨by rw[e];exact h1,fun n hn=> ?_⟩
    by_cases g:n=k
    ·subst g;exact hk
    ·exact h2 n (by omega)
   ·right;refine⟨n,by omega,by rw[e];exact h2,fun m g1 g2=> ?_⟩
    by_cases g:m=k
    ·subst g;exact hk
    ·exact h3 m g1 (by omega)
def aAp (seen:List Fr) (s:List Int) (best most:Int):Prop:=
 (best= -1/\most=0/\∀r∈seen,yA s r.1=false)\/∃r∈seen,yA s r.1=true/\best=r.2/\most=(r.1.length:Int)/\∀q∈seen,yA s q.1=true->q.1.length<=r.1.length
theorem aAp.all {rows rows':List Fr} (hg:vO rows) (hp:rows'.Perm rows) {s:List Int} {best most:Int} (h:aAp rows s best most):best=B1 rows' s (min s.length 64):=by
 have hg':∀{q:List Int} {x:Int},(q,x)∈rows'->(q,x)∈rows:=fun h=>hp.mem_iff.1 h
 rcases h with⟨h1,_,h3⟩ | ⟨r,h1,h2,h3,_,h5⟩
 ·rcases cI rows' s (min s.length 64)with⟨e,_⟩ | ⟨n,_,e2,_⟩
  ·rw[h1,e]
  ·have:=h3 _ (hg' e2);rw[show yA s (s.take (n+1))=true from tB.2 (List.take_prefix _ _)]at this
   cases this
 ·have hb:=aE.1 h2;have hl:=hg.len r h1;rcases cI rows' s (min s.length 64)with⟨_,e2⟩ | ⟨n,e1,e2,e3⟩
  ·exfalso;refine e2 (r.1.length-1) (by omega) r.2 ?_
   rw[show r.1.length-1+1=r.1.length by omega,hb.2];exact hp.mem_iff.2 h1
  ·have h6:=h5 _ (hg' e2) (tB.2 (List.take_prefix _ _));simp only[List.length_take]at h6;have h7:r.1.length=n+1:=by
    rcases Nat.lt_or_ge (n+1) r.1.length with g | g
    ·exfalso;refine e3 (r.1.length-1) (by omega) (by omega) r.2 ?_
     rw[show r.1.length-1+1=r.1.length by omega,hb.2];exact hp.mem_iff.2 h1
    ·omega
   have h8:=hg.uniq r h1 _ (hg' e2) (by simp only;rw[<-h7];exact hb.2.symm);rw[h3,h8]
theorem mC {α:Type} {p:α->Bool}:∀{l:List α},l.Pairwise (fun a b=>p b=true->p a=true)->l.take (l.countP p)=l.filter p/\l.drop (l.countP p)=l.filter (fun x=>!p x)
 | [],_=>by simp
 | x::l,h=>by
  rw[List.pairwise_cons]at h
  cases hx:p x with
  | true=>
   have ih:=mC h.2;simp[hx,ih.1,ih.2]
  | false=>
   have h0:l.filter p= []:=by
    rw[List.filter_eq_nil_iff];intro y hy hpy;have:=h.1 y hy hpy;rw[hx]at this;cases this
   have h1:l.countP p=0:=by rw[List.countP_eq_length_filter,h0];rfl
   have h2:l.filter (fun x=>!p x)=l:=by
    rw[List.filter_eq_self];intro y hy
    cases hpy:p y with
    | false=>rfl
    | true=>have:=h.1 y hy hpy;rw[hx]at this;cases this
   simp[hx,h1,h0,h2]
theorem iQ:∀{s a:List Int},s <+:a->¬a<s
 | [],a,_=>by simp
 | x::s,[],h=>by simp at h
 | x::s,y::a,h=>by
  rw[List.cons_prefix_cons]at h;obtain⟨rfl,h2⟩:=h;rw[List.cons_lt_cons_iff];rintro(h3 | ⟨_,h3⟩)
  ·omega
  ·exact iQ h2 h3
theorem mJ:∀{s a b:List Int},¬b<a->s <+:b->¬a<s->s <+:a
 | [],a,b,_,_,_=>by simp
 | x::s,a,[],_,h,_=>by simp at h
 | x::s,[],y::b,_,_,h=>absurd (by simp:([]:List Int)<x::s) h
 | x::s,y::a,z::b,h1,h2,h3=>by
  rw[List.cons_prefix_cons]at h2;obtain⟨rfl,h2⟩:=h2;rw[List.cons_lt_cons_iff]at h1 h3;have hxy:x=y:=by
   rcases Int.lt_trichotomy x y with g | g | g
   ·exact absurd (.inl g) h1
   ·exact g
   ·exact absurd (.inl g) h3
  subst hxy;rw[List.cons_prefix_cons];exact⟨rfl,mJ (fun h=>h1 (.inr ⟨rfl,h⟩)) h2 (fun h=>h3 (.inr ⟨rfl,h⟩))⟩
def eC (L:List Fr):Prop:=L.Pairwise (fun a b=>¬b.1<a.1)
theorem eC.less {L:List Fr} (h:eC L) (s:List Int):L.Pairwise (fun a b=>decide (b.1<s)=true->decide (a.1<s)=true):=
 h.imp fun{a b} h1 h2=>by
  simp only[decide_eq_true_eq]at h2 |-;exact List.lt_of_le_of_lt (List.not_lt.1 h1) h2
theorem X8 {a s:List Int} (h:yA a s=true):¬a<s:=iQ (tB.1 h)
theorem eC.span {L:List Fr} (h:eC L) (s:List Int) {from_ n:Nat} (hf:from_=L.countP (fun r=>decide (r.1<s))) (hn:n=(L.drop from_).countP (fun r=>yA r.1 s)):
  (L.drop from_).take n=L.filter (fun r=>yA r.1 s):=by
 have h1:=mC (h.less s);rw[<-hf]at h1;rw[h1.2]at hn |-;have h2:(L.filter (fun r=>!decide (r.1<s))).Pairwise (fun a b=>yA b.1 s=true->yA a.1 s=true):=by
  refine List.Pairwise.imp_of_mem ?_ (h.sublist List.filter_sublist)
  intro a b ha hb h3 h4;have h5:=(List.mem_filter.1 ha).2;simp only[Bool.not_eq_true',decide_eq_false_iff_not]at h5;exact tB.2 (mJ h3 (tB.1 h4) h5)
 have h3:=(mC h2).1;rw[hn,h3,List.filter_filter];refine List.filter_congr fun r _=> ?_
 cases hb:yA r.1 s with
 | false=>simp
 | true=>simp;exact List.not_lt.1 (X8 hb)
theorem eC.exact {L:List Fr} (h:eC L) (hu:∀a∈L,∀b∈L,a.1=b.1->a=b) (s:List Int) {i:Nat} (hi:i=L.countP (fun r=>decide (r.1<s))):
  (∃r,L[i]?=some r/\r.1=s/\L.find? (fun r=>decide (r.1=s))=some r)\/((∀r,L[i]?=some r->r.1≠s)/\L.find? (fun r=>decide (r.1=s))=none):=by
 have h1:=mC (h.less s);rw[<-hi]at h1
 cases hf:L.find? (fun r=>decide (r.1=s))with
 | none=>
  right;rw[List.find?_eq_none]at hf;exact⟨fun r hr e=>absurd (hf r (List.mem_of_getElem? hr)) (by simp[e]),rfl⟩
 | some r=>
  left;have h2:r.1=s:=by simpa using List.find?_some hf
  have h3:=List.mem_of_find?_eq_some hf;have h4:r∈L.drop i:=by
   rw[h1.2,List.mem_filter];refine⟨h3,?_⟩;simp only[Bool.not_eq_true',decide_eq_false_iff_not,h2];exact List.lt_irrefl s
  cases hd:L.drop i with
  | nil=>rw[hd]at h4;simp at h4
  | cons q rest=>
   have h5:L[i]?=some q:=by
    have:=congrArg List.head? hd;rw[List.head?_drop]at this;simpa using this
   have h6:q∈L:=List.mem_of_getElem? h5;have h7:¬q.1<s:=by
    have:q∈L.drop i:=by rw[hd];simp
    rw[h1.2,List.mem_filter]at this;simpa using this.2
   have h8:q.1=s:=by
    rw[hd]at h4;rcases List.mem_cons.1 h4 with e | e
    ·rw[<-e];exact h2
    ·have h9:eC (q::rest):=by rw[<-hd];exact h.sublist (List.drop_sublist _ _)
     have h10:=(List.pairwise_cons.1 h9).1 r e;rw[h2]at h10;exact(List.le_antisymm (List.not_lt.1 h10) (List.not_lt.1 h7))
   have h11:=hu q h6 r h3 (by rw[h8,h2]);exact⟨r,by rw[<-h11];exact h5,h2,rfl⟩
def E6 (t:List Rg) (p:Int):Nat:=t.countP (fun r=>decide (r.hi<p))
theorem aAX (t:List Rg) (p:Int):E6 t p<=t.length:=List.countP_le_length
theorem vM {t:List Rg} (ht:mA t) (p:Int) {i:Nat} (hi:i<t.length):(rg t i).hi<p↔i<E6 t p:=by
 have hs:t.Pairwise (fun a b=>decide (b.hi<p)=true->decide (a.hi<p)=true):=by
  refine List.Pairwise.imp_of_mem (fun{a b} ha hb h=> ?_) ht.2.2;have h1:=(ht.2.1 b hb).2.1;simp only[decide_eq_true_eq];omega
 have h1:=mC hs;constructor
 ·intro hlt;rcases Nat.lt_or_ge i (E6 t p)with h2 | h2
  ·exact h2
  ·exfalso;have:rg t i∈t.drop (E6 t p):=List.mem_of_getElem? (i:=i-E6 t p) (by rw[List.getElem?_drop,show E6 t p+(i-E6 t p)=i by omega];exact sG hi);unfold E6 at this;rw[h1.2,List.mem_filter]at this;have:=this.2;simp only[Bool.not_eq_true']at this;exact of_decide_eq_false this hlt
 ·intro hlt;have:rg t i∈t.take (E6 t p):=List.mem_of_getElem? (i:=i) (by rw[List.getElem?_take,if_pos hlt];exact sG hi);unfold E6 at this;rw[h1.1,List.mem_filter]at this;exact of_decide_eq_true this.2
theorem aCp {t:List Rg} (ht:mA t) {p:Int} (h:E6 t p<t.length) (hl:(rg t (E6 t p)).lo<=p):xG t p=(rg t (E6 t p)).cls:=by
 have hh:p<=(rg t (E6 t p)).hi:=by
  have:=vM ht p h;omega
 have:t.find? (fun r=>decide (r.lo<=p) && decide (p<=r.hi))=some (rg t (E6 t p)):=by
  rw[List.find?_eq_some_iff_getElem];refine⟨by simp[hl,hh],E6 t p,h,eH h,fun j hj=> ?_⟩;rw[eH (by omega)];have:=(vM ht p (by omega:j<t.length)).2 hj;simp;omega
 unfold xG;rw[this]
theorem clsOf_no {t:List Rg} (ht:mA t) {p:Int} (h:¬(E6 t p<t.length/\(rg t (E6 t p)).lo<=p)):xG t p=0:=by
 have:t.find? (fun r=>decide (r.lo<=p) && decide (p<=r.hi))=none:=by
  rw[List.find?_eq_none];intro r hr;obtain⟨i,hi,rfl⟩:=List.getElem_of_mem hr;rw[eH hi];have h1:=vM ht p hi;simp only[Bool.and_eq_true,decide_eq_true_eq];rintro⟨h2,h3⟩;rcases Nat.lt_or_ge i (E6 t p)with h4 | h4
  ·have:=h1.2 h4;omega
  ·rcases Nat.eq_or_lt_of_le h4 with h5 | h5
   ·rw[h5]at h;exact h ⟨hi,h2⟩
   ·have h6:=(List.pairwise_iff_getElem.1 ht.2.2) (E6 t p) i (by omega) hi h5;rw[eH (by omega),eH hi]at h6;have h7:=(ht.2.1 _ (List.mem_of_getElem? (sG (show E6 t p<t.length by omega)))).2.1;exact h ⟨by omega,by omega⟩
 unfold xG;rw[this]
theorem cmpI_neg {a b:Int}:E7 a b<0↔a<b:=by
 unfold E7;repeat' split
 all_goals omega
theorem cmpI_eq0 {a b:Int}:E7 a b=0↔a=b:=by
 unfold E7;repeat' split
 all_goals omega
theorem lO (p:Rg) (q:Int) (w:World):
  Calls Tryz.prog 252 #[.agg #[.int .i64 p.lo, .int .i64 p.hi, .int .i64 p.cls], .int .i64 q] w fun e w'=>e= .returned (.int .i64 (E7 p.hi q))/\Below w.heap.size w w':=by
 have HB:=hW_ (aA w (.cells #[.int .i64 p.lo, .int .i64 p.hi, .int .i64 p.cls] 119));have hcmp:=kC p.hi q (w.alloc (.cells #[.int .i64 p.lo, .int .i64 p.hi, .int .i64 p.cls] 119));go_enter Tryz.func252,Tryz.ntmps252;go_wp2_with (fail);refine hcmp.mono ?_
 rintro e w' ⟨rfl,rfl⟩;clear hcmp;go_wp2;go_ret;exact⟨rfl,HB.out⟩
theorem aAb {P:List Rg} {q:Int} {ro:Option Addr} {rc:Nat} (w:World) (hr:SlF 3 w ro P.length rc (flat Rg.enc P)) (hN:P.length<=1048576)
  {k0:Nat} (hk:k0<=P.length) (hk2:∀t,t<P.length->((rg P t).hi<q↔t<k0)) {bb:Bool} (hbb:bb=true↔(k0<P.length/\(rg P k0).hi=q)):
  Calls Tryz.prog 251 #[.slice ro P.length rc, .int .i64 q, .func (.func 252) #[] #[]] w fun e w'=>e= .returned (.tuple #[.int .i64 (k0:Int), .bool bb])/\Below w.heap.size w w':=by
 have HR:=hW_ hr;have HK:=hW_ hk;have HK2:=hW_ hk2;have HBB:=hW_ hbb;obtain⟨N,hNN⟩:∃N,P.length=N:=⟨_,rfl⟩;rw[hNN]at HR HK hN |-;have HNN:=hW_ hNN;clear hr hk hk2 hbb hNN;go_enter Tryz.func251,Tryz.ntmps251;go_wp2_with (fail);go_loopw [9,10] (fun a b wr=>∃lo hi:Nat,a= .int .i64 lo/\b= .int .i64 hi/\Hid (lo<=k0)/\Hid (k0<=hi)/\lo<=hi/\hi<=N/\Below w.heap.size w wr) (fun a b _=>(intOf b).toNat-(intOf a).toNat)
 case atStart=>exact⟨0,N,rfl,rfl,hW_ (by omega),HK,by omega,by omega,Below.refl _ _⟩
 case round=>
  obtain⟨lo,hi,rfl,rfl,Hlo,Hhi,hlh,hhn,hb⟩:=hrel;have HB:=hW_ hb;clear hb
  by_cases hlt:lo<hi
  ·obtain⟨m,hm⟩:∃m,(lo+hi) / 2=m:=⟨_,rfl⟩;have hmN:m<P.length:=by have:=HNN.out;omega
   obtain⟨b,of,hao,hce⟩:=(HR.out.below HB.out).elem Rg.enc_len (by omega) (sG hmN);subst hao;obtain⟨p,hp⟩:∃p,rg P m=p:=⟨_,rfl⟩;rw[hp]at hce;have hcall:=lO p q wr;have d0:=hce 0 _ rfl;have d1:=hce 1 _ rfl;have d2:=hce 2 _ rfl;rw[Nat.add_zero]at d0;have hlm:(p.hi<q↔m<k0):=by rw[<-hp];exact HK2.out m hmN
   have hmi:((lo:Int)+(hi:Int)) / 2=(m:Int):=by omega
   have hml:lo<=m:=by omega
   have hmh:m<hi:=by omega
   have gm:(m:Int)<(N:Int):=by omega
   clear hm hce hp hmN;obtain⟨z,hz⟩:∃z,E7 p.hi q=z:=⟨_,rfl⟩;have hzl:z<0↔m<k0:=by rw[<-hz,cmpI_neg];exact hlm
   rw[hz]at hcall;clear hlm hz
   by_cases hz0:z<0
   ·have HKM:=hW_ (show m+1<=k0 by have:=hzl.1 hz0;omega);clear hzl;go_wp2_with (go_at_call 252;refine hcall.mono ?_;rintro e w' ⟨rfl,hbx⟩);go_roundw
    case rel=>exact⟨m+1,hi,by first | go_num | (rw[hmi];rfl),rfl,HKM,Hhi,by omega,hhn,HB.out.trans (hbx.mono HB.out.size)⟩
    case measure=>simp[intOf];omega
   ·have HKM:=hW_ (show k0<=m by rcases Nat.lt_or_ge m k0 with h | h;exact absurd (hzl.2 h) hz0;exact h);clear hzl;go_wp2_with (go_at_call 252;refine hcall.mono ?_;rintro e w' ⟨rfl,hbx⟩);go_roundw
    case rel=>exact⟨lo,m,rfl,by first | rfl | rw[hmi],Hlo,HKM,hml,by omega,HB.out.trans (hbx.mono HB.out.size)⟩
    case measure=>simp[intOf];omega
  ·have hE:lo=k0:=by have:=Hlo.out;have:=Hhi.out;omega
   subst hE
   by_cases hn:lo<N
   ·have hmN:lo<P.length:=by have:=HNN.out;omega
    obtain⟨b,of,hao,hce⟩:=(HR.out.below HB.out).elem Rg.enc_len (by omega) (sG hmN);subst hao;obtain⟨p,hp⟩:∃p,rg P lo=p:=⟨_,rfl⟩;rw[hp]at hce HBB;have hcall:=lO p q wr;have d0:=hce 0 _ rfl;have d1:=hce 1 _ rfl;have d2:=hce 2 _ rfl;rw[Nat.add_zero]at d0;have gm:(lo:Int)<(N:Int):=by omega
    have HMN:=hW_ hmN;clear hce hp hmN;obtain⟨z,hz⟩:∃z,E7 p.hi q=z:=⟨_,rfl⟩;have hzl:z=0↔p.hi=q:=by rw[<-hz,cmpI_eq0]
    rw[hz]at hcall;clear hz
    by_cases hz0:z=0
    ·obtain rfl:bb=true:=HBB.out.2 ⟨HMN.out,hzl.1 hz0⟩;have hb2:(z==0)=true:=by simpa using hz0
     clear hzl hz0;go_wp2_with (go_at_call 252;refine hcall.mono ?_;rintro e w' ⟨rfl,hbx⟩);refine bodyPost_ret (v:= .tuple #[.int .i64 lo, .bool true]) ?_ rfl ⟨rfl,HB.out.trans (hbx.mono HB.out.size)⟩
     simp[results,Tryz.results251,go_sem]
    ·obtain rfl:bb=false:=by
      cases bb with
      | false=>rfl
      | true=>exact absurd (hzl.2 (HBB.out.1 rfl).2) hz0
     have hb2:(z==0)=false:=by simpa using hz0
     clear hzl hz0;go_wp2_with (go_at_call 252;refine hcall.mono ?_;rintro e w' ⟨rfl,hbx⟩);refine bodyPost_ret (v:= .tuple #[.int .i64 lo, .bool false]) ?_ rfl ⟨rfl,HB.out.trans (hbx.mono HB.out.size)⟩
     simp[results,Tryz.results251,go_sem]
   ·obtain rfl:bb=false:=by
     cases bb with
     | false=>rfl
     | true=>exact absurd (HBB.out.1 rfl).1 (by have:=HNN.out;omega)
    go_wp2_with (fail);refine bodyPost_ret (v:= .tuple #[.int .i64 lo, .bool false]) ?_ rfl ⟨rfl,HB.out⟩
    simp[results,Tryz.results251,go_sem]
theorem R6 {t:List Rg} {p:Int} {to_:Option Addr} {tn tc:Nat} (w:World) (hR:SlF 3 w to_ tn tc (flat Rg.enc t)) (ht:mA t):
  Calls Tryz.prog 248 #[.slice to_ tn tc, .int .i64 p] w fun e w'=>e= .returned (.int .i64 (xG t p))/\Below w.heap.size w w':=by
 have hln:t.length=tn:=hR.count Rg.enc_len (by omega);subst hln;have h200:=ht.1;have hm:=qE w hR;have HR:=hW_ hR;have HT:=hW_ ht;obtain⟨bb,hbb⟩:∃bb:Bool,bb=true↔(E6 t p<t.length/\(rg t (E6 t p)).hi=p):=⟨decide (E6 t p<t.length/\(rg t (E6 t p)).hi=p),by simp⟩;have HBB:=hW_ hbb;have HQ:Hid (∀W,Below w.heap.size w W->Calls Tryz.prog 251 #[.slice to_ t.length tc, .int .i64 p, .func (.func 252) #[] #[]] W fun e w'=>e= .returned (.tuple #[.int .i64 (E6 t p:Int), .bool bb])/\Below W.heap.size W w'):=
  hW_ (fun W hb=>aAb W (HR.out.below hb) (by omega) (aAX t p) (fun i hi=>vM HT.out p hi) HBB.out)
 obtain⟨k0,hk0⟩:∃k0,E6 t p=k0:=⟨_,rfl⟩;have HYES:=hW_ (aCp ht (p:=p));have HNO:=hW_ (clsOf_no ht (p:=p));have HLE:=hW_ (aAX t p);rw[hk0]at HQ HYES HNO HLE;obtain⟨N,hNN⟩:∃N,t.length=N:=⟨_,rfl⟩;have HNN:=hW_ hNN;rw[hNN]at HQ HYES HNO HLE hm h200 |-;obtain⟨c,hc⟩:∃c,xG t p=c:=⟨_,rfl⟩;rw[hc]at HYES HNO |-;clear hR ht hbb hk0 hNN hc;go_enter Tryz.func248,Tryz.ntmps248;go_wp2_with (fail);refine hm.mono ?_
 rintro e w1 ⟨⟨b,rfl,hb⟩,hb1⟩;obtain rfl:b=true:=hb.2 HT.out;have HB1:=hW_ hb1;clear hb hb1 hm;go_wp2_with (fail);refine(HQ.out w1 HB1.out).mono ?_
 rintro e w2 ⟨rfl,hb2⟩;have HB2:=hW_ (HB1.out.trans (hb2.mono HB1.out.size));clear hb2
 by_cases hlt:k0<N
 ·have gk:(k0:Int)<(N:Int):=by omega
  have ge:((k0:Int)==(N:Int))=false:=by simp;omega
  obtain⟨b,of,hao,hce⟩:=(HR.out.below HB2.out).elem Rg.enc_len (by omega) (sG (show k0<t.length by have:=HNN.out;omega));subst hao;have d0:=hce 0 _ rfl;have d2:=hce 2 _ rfl;rw[Nat.add_zero]at d0;obtain⟨x,hx⟩:∃x,rg t k0=x:=⟨_,rfl⟩;rw[hx]at d0 d2 HYES HNO;clear hx hce
  by_cases hl:p<x.lo
  ·have hc:=HNO.out (by omega);subst hc;go_wp2_with (fail);go_ret;exact⟨rfl,HB2.out⟩
  ·have hc:=HYES.out hlt (by omega);subst hc;go_wp2_with (fail);go_ret;exact⟨rfl,HB2.out⟩
 ·have hE:k0=N:=by have:=HLE.out;omega
  subst hE;have hc:=HNO.out (by omega);subst hc;go_wp2_with (fail);go_ret;exact⟨rfl,HB2.out⟩
end Go.Proofs.YtjlokfejnijokaaGreatDoor
