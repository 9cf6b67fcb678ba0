/- Plain law: pieces that are decided stay, whatever comes behind the text. No program here. -/
import Derived.Test.YtimkkkdabmhedaaGreatDoorD36
import Derived.Test.YtimkkkdabmhedaaGreatDoorD34
set_option linter.unusedVariables false
set_option maxHeartbeats 1000000
namespace Go.Proofs.YtimkkkdabmhedaaGreatDoor
open Go
theorem decGo_app {n:Int} {m:List Int}:∀{k:Nat} {p lo hi:Int} {l:List Int},(decGo false n k p lo hi l).2.2=false→decGo false n k p lo hi (l++m)=decGo false n k p lo hi l
 | 0,p,lo,hi,l,_=>rfl
 | k+1,p,lo,hi,[],h=>by simp[decGo]at h
 | k+1,p,lo,hi,x::l,h=>by
  rw[List.cons_append]
  simp only[decGo]at h ⊢
  split
  ·rfl
  ·next g=>
   rw[if_neg g]at h
   exact decGo_app h
theorem dec_app {b m:List Int} (hb:b≠[]) (h:(dec false b).2.2=false):dec false (b++m)=dec false b:=by
 cases b with
 | nil=>exact absurd rfl hb
 | cons c l=>
  rw[List.cons_append]
  simp only[dec]at h ⊢
  split
  ·rfl
  ·next g=>
   rw[if_neg g]at h
   exact decGo_app h
theorem sureN_cons {p:Pt} {L:List Pt} (h:p.sure=true):sureN (p::L)=sureN L+1:=by unfold sureN;simp[h]
theorem pts_app {t:List Rg} (m b:List Int):∀i,i<sureN (pts t b)→(pts t (b++m))[i]?=(pts t b)[i]? :=by
 refine pts_ind (P:=fun b L=>∀i,i<sureN L→(pts t (b++m))[i]?=L[i]?) (fun i hi=>by simp[sureN]at hi) ?_ ?_ b
 ·intro b hb _ i hi
  have:sureN (b.map (fun _=>unsurePt))=0:=by
   unfold sureN
   cases b<;>simp[unsurePt]
  omega
 ·intro b hb hm ih i hi
  have hn:=(dec_n (final:=false) hb).2 hm
  have e:=dec_app (m:=m) hb hm
  rw[pts_cons t hb hm]at hi ⊢
  rw[sureN_cons rfl]at hi
  rw[pts_cons t (by simp[hb]) (by rw[e];exact hm),e,List.drop_append_of_le_length (by omega)]
  cases i with
  | zero=>rfl
  | succ i=>
   rw[List.getElem?_cons_succ,List.getElem?_cons_succ]
   exact ih i (by omega)
structure Agr (L M:List Pt) (s:Nat):Prop where
 at_:∀i,i<s→M[i]?=L[i]?
 l:s≤L.length
 m:s≤M.length
section
variable {L M:List Pt} {s:Nat}
theorem Agr.tw (h:Agr L M s) (p:Pt→Bool):∀(d i:Nat),s-i=d→i≤s→min (i+((L.drop i).takeWhile p).length) s=min (i+((M.drop i).takeWhile p).length) s
 | 0,i,e,hi=>by omega
 | d+1,i,e,hi=>by
  have hl:=h.l
  have hlt:i<s:=by omega
  obtain⟨x,hx⟩:∃x,L[i]?=some x:=⟨_,List.getElem?_eq_getElem (by omega)⟩
  have hy:M[i]?=some x:=(h.at_ i hlt).trans hx
  rw[tw_step hx,tw_step hy]
  have ih:=Agr.tw h p d (i+1) (by omega) (by omega)
  by_cases hp:p x=true
  ·rw[if_pos hp,if_pos hp];omega
  ·rw[if_neg hp,if_neg hp]
theorem Agr.row (h:Agr L M s) (c:Int) {i:Nat} (hi:i≤s):min (i+rowN L i c) s=min (i+rowN M i c) s:=h.tw _ _ i rfl hi
theorem Agr.sp (h:Agr L M s) {i:Nat} (hi:i≤s):min (i+spN L i) s=min (i+spN M i) s:=h.tw _ _ i rfl hi
theorem Agr.ns (h:Agr L M s) {i:Nat} (hi:i≤s):min (i+nsN L i) s=min (i+nsN M i) s:=h.tw _ _ i rfl hi
theorem Agr.isC (h:Agr L M s) {i:Nat} (hi:i<s) (c:Int):isC M i c=isC L i c:=by unfold Go.Proofs.YtimkkkdabmhedaaGreatDoor.isC;rw[h.at_ i hi]
theorem Agr.cdC (h:Agr L M s) {i:Nat} (hi:i<s) (w:Bool):cdC M w i=cdC L w i:=by unfold Go.Proofs.YtimkkkdabmhedaaGreatDoor.cdC;rw[h.at_ i hi]
theorem Agr.ptC (h:Agr L M s) {i:Nat} (hi:i<s):ptC M i=ptC L i:=by unfold Go.Proofs.YtimkkkdabmhedaaGreatDoor.ptC;rw[h.at_ i hi]
theorem Agr.line (h:Agr L M s):∀{n:Nat},n≤s→lineN M n=lineN L n
 | 0,_=>rfl
 | n+1,hn=>by
  simp only[lineN]
  rw[h.isC (by omega),h.line (by omega)]
theorem Agr.led (h:Agr L M s) (h2:2≤s) (c:Int):min (ledN L c) s=min (ledN M c) s:=by
 have r1:=h.row c (i:=1) (by omega)
 have r0:=h.row c (i:=0) (by omega)
 unfold ledN
 rw[h.ptC (by omega),h.isC (by omega)]
 split
 ·exact r1
 ·simpa using r0
theorem Agr.end_ (h:Agr L M s) (h2:2≤s) {w:Bool} (hp:¬pendF L w) (hs:s=sureN L):endN M w=endN L w:=by
 unfold pendF at hp
 unfold endN
 rw[h.cdC (by omega),h.cdC (by omega)]
 by_cases h0:Go.Proofs.YtimkkkdabmhedaaGreatDoor.cdC L w 0≠39
 ·rw[if_pos h0,if_pos h0]
 ·rw[if_neg h0,if_neg h0]
  by_cases h1:oneE (Go.Proofs.YtimkkkdabmhedaaGreatDoor.cdC L w 1)
  ·rw[if_pos h1,if_pos h1]
  ·rw[if_neg h1,if_neg h1]
   by_cases h3:3≤s
   ·rw[h.cdC (by omega)]
   ·have hf:¬fstE (Go.Proofs.YtimkkkdabmhedaaGreatDoor.cdC L w 1):=fun g=>hp ⟨by simpa using h0,by omega, .inr g⟩
    have hno:∀d,¬twoE (Go.Proofs.YtimkkkdabmhedaaGreatDoor.cdC L w 1) d:=fun d g=>hf (by unfold twoE at g;unfold fstE;omega)
    rw[if_neg (hno _),if_neg (hno _)]
theorem endN_two {w:Bool} (h:0<endN L w):2≤endN L w:=by
 unfold endN at h ⊢
 repeat' split at h
 all_goals simp_all
theorem spaces_two (h:1≤(spacesF L).1):2≤(spacesF L).2:=by
 unfold spacesF at h ⊢
 by_cases g:spN L 0<L.length∧1<spN L 0
 ·rw[if_pos g];simp only;omega
 ·rw[if_neg g]at h ⊢;simp only at h ⊢;omega
theorem reach_two {kind:Int} (h:1≤(cutF kind L).1):2≤(cutF kind L).2:=by
 have hsp:=spaces_two (L:=L)
 unfold cutF at h ⊢
 by_cases k1:kind=1
 ·rw[if_pos k1]at h ⊢;unfold wordF at h ⊢;simp only at h ⊢;omega
 rw[if_neg k1]at h ⊢
 by_cases k2:kind=2
 ·rw[if_pos k2]at h ⊢
  unfold plainF at h ⊢
  by_cases g0:0<endN L false
  ·rw[if_pos g0];exact endN_two g0
  rw[if_neg g0]at h ⊢
  by_cases g1:0<ledN L 1
  ·rw[if_pos g1];simp only;omega
  rw[if_neg g1]at h ⊢
  by_cases g2:0<ledN L 2
  ·rw[if_pos g2];simp only;omega
  rw[if_neg g2]at h ⊢
  by_cases g3:0<ledN L 0
  ·rw[if_pos g3];simp only;omega
  rw[if_neg g3]at h ⊢
  exact hsp h
 ·rw[if_neg k2]at h ⊢
  unfold wideF at h ⊢
  by_cases g0:0<endN L true
  ·rw[if_pos g0];exact endN_two g0
  rw[if_neg g0]at h ⊢
  by_cases g1:0<rowN L 0 1
  ·rw[if_pos g1];simp only;omega
  rw[if_neg g1]at h ⊢
  by_cases g2:leadsC L=true∧isC L 1 1=true
  ·rw[if_pos g2];simp only;omega
  rw[if_neg g2]at h ⊢
  by_cases g3:0<rowN L 0 2
  ·rw[if_pos g3];simp only;omega
  rw[if_neg g3]at h ⊢
  by_cases g4:0<ledN L 0
  ·rw[if_pos g4];simp only;omega
  rw[if_neg g4]at h ⊢
  by_cases g5:0<lineN L (spN L 0)
  ·rw[if_pos g5]at h ⊢
   have:=lineN_le L (spN L 0)
   simp only at h ⊢;omega
  rw[if_neg g5]at h ⊢
  exact hsp h
theorem Agr.spaces (h:Agr L M s) (hr:(spacesF L).2≤s):spacesF M=spacesF L:=by
 have r:=h.sp (i:=0) (by omega)
 have h1:=h.l
 have h2:=h.m
 have hx:spN L 0+1≤s:=by
  unfold spacesF at hr
  split at hr<;>exact hr
 have e:spN M 0=spN L 0:=by omega
 unfold spacesF
 rw[e]
 by_cases g:1<spN L 0
 ·rw[if_pos ⟨by omega,g⟩,if_pos ⟨by omega,g⟩]
 ·rw[if_neg (fun x=>g x.2),if_neg (fun x=>g x.2)]
theorem Agr.plain (h:Agr L M s) (h2:2≤s) (hs:s=sureN L) (hp:¬pendF L false) (hr:(plainF L).2≤s):plainF M=plainF L:=by
 have e0:=h.end_ h2 hp hs
 have l0:=h.led h2 0
 have l1:=h.led h2 1
 have l2:=h.led h2 2
 unfold plainF at hr ⊢
 rw[e0]
 by_cases g0:0<endN L false
 ·rw[if_pos g0,if_pos g0]
 rw[if_neg g0]at hr ⊢
 rw[if_neg g0]
 by_cases g1:0<ledN L 1
 ·rw[if_pos g1]at hr ⊢
  simp only at hr
  rw[if_pos (by omega),show ledN M 1=ledN L 1 by omega]
 rw[if_neg g1]at hr ⊢
 rw[if_neg (by omega)]
 by_cases g2:0<ledN L 2
 ·rw[if_pos g2]at hr ⊢
  simp only at hr
  rw[if_pos (by omega),show ledN M 2=ledN L 2 by omega]
 rw[if_neg g2]at hr ⊢
 rw[if_neg (by omega)]
 by_cases g3:0<ledN L 0
 ·rw[if_pos g3]at hr ⊢
  simp only at hr
  rw[if_pos (by omega),show ledN M 0=ledN L 0 by omega]
 rw[if_neg g3]at hr ⊢
 rw[if_neg (by omega)]
 exact h.spaces hr
theorem Agr.wide (h:Agr L M s) (h2:2≤s) (hs:s=sureN L) (hp:¬pendF L true) (hr:(wideF L).2≤s):wideF M=wideF L:=by
 have e0:=h.end_ h2 hp hs
 have l0:=h.led h2 0
 have r1:=h.row 1 (i:=0) (by omega)
 have r11:=h.row 1 (i:=1) (by omega)
 have r2:=h.row 2 (i:=0) (by omega)
 have ld:leadsC M=leadsC L:=by unfold leadsC;rw[h.ptC (by omega)]
 have sp0:=h.sp (i:=0) (by omega)
 unfold wideF at hr ⊢
 rw[e0,ld,h.isC (by omega)]
 by_cases g0:0<endN L true
 ·rw[if_pos g0,if_pos g0]
 rw[if_neg g0]at hr ⊢
 rw[if_neg g0]
 by_cases g1:0<rowN L 0 1
 ·rw[if_pos g1]at hr ⊢
  simp only at hr
  rw[if_pos (by omega),show rowN M 0 1=rowN L 0 1 by omega]
 rw[if_neg g1]at hr ⊢
 rw[if_neg (by omega)]
 by_cases g2:leadsC L=true∧Go.Proofs.YtimkkkdabmhedaaGreatDoor.isC L 1 1=true
 ·rw[if_pos g2]at hr ⊢
  simp only at hr
  rw[if_pos g2,show rowN M 1 1=rowN L 1 1 by omega]
 rw[if_neg g2]at hr ⊢
 rw[if_neg g2]
 by_cases g3:0<rowN L 0 2
 ·rw[if_pos g3]at hr ⊢
  simp only at hr
  have g3':0<rowN M 0 2:=by omega
  have em:min (rowN M 0 2) 3=min (rowN L 0 2) 3:=by omega
  rw[if_pos g3',em]
 rw[if_neg g3]at hr ⊢
 rw[if_neg (by omega)]
 by_cases g4:0<ledN L 0
 ·rw[if_pos g4]at hr ⊢
  simp only at hr
  have r4:=h.row 4 (i:=ledN L 0) (by omega)
  have e4:ledN M 0=ledN L 0:=by omega
  have e5:rowN M (ledN L 0) 4=rowN L (ledN L 0) 4:=by omega
  rw[e4,if_pos g4,e5]
 rw[if_neg g4]at hr ⊢
 rw[if_neg (by omega)]
 by_cases g5:0<lineN L (spN L 0)
 ·rw[if_pos g5]at hr ⊢
  simp only at hr
  have es:spN M 0=spN L 0:=by omega
  have el:lineN M (spN L 0)=lineN L (spN L 0):=h.line (by omega)
  rw[es,el,if_pos g5]
 rw[if_neg g5]at hr
 have hx:spN L 0+1≤s:=by
  unfold spacesF at hr
  split at hr<;>exact hr
 have es:spN M 0=spN L 0:=by omega
 have el:lineN M (spN L 0)=lineN L (spN L 0):=h.line (by omega)
 rw[es,el,if_neg g5,if_neg g5]
 exact h.spaces hr
theorem Agr.cut (h:Agr L M s) (kind:Int) (h2:2≤s) (hs:s=sureN L) (hp:kind=1∨¬pendF L (decide (kind=3))) (hk:kind=1∨kind=2∨kind=3) (hr:(cutF kind L).2≤s):cutF kind M=cutF kind L:=by
 unfold cutF at hr ⊢
 by_cases g1:kind=1
 ·rw[if_pos g1]at hr ⊢
  rw[if_pos g1]
  have a:=h.sp (i:=0) (by omega)
  unfold wordF at hr ⊢
  simp only at hr
  have b:=h.ns (i:=spN L 0) (by omega)
  rw[show spN M 0=spN L 0 by omega,show nsN M (spN L 0)=nsN L (spN L 0) by omega]
 ·have hp:=hp.resolve_left g1
  rw[if_neg g1]at hr ⊢
  rw[if_neg g1]
  by_cases g2:kind=2
  ·subst g2
   rw[if_pos rfl]at hr ⊢
   rw[if_pos rfl]
   exact h.plain h2 hs (by simpa using hp) hr
  ·obtain rfl:kind=3:=by omega
   rw[if_neg g2]at hr ⊢
   rw[if_neg g2]
   exact h.wide h2 hs (by simpa using hp) hr
end
theorem sure_agr {L M:List Pt} (h:∀i,i<sureN L→M[i]?=L[i]?) (hm:∀(i:Nat) (p:Pt),M[i]?=some p→(p.sure=true↔i<sureN M)) (hl:∀(i:Nat) (p:Pt),L[i]?=some p→(p.sure=true↔i<sureN L)):Agr L M (sureN L)∧sureN L≤sureN M:=by
 have hs:=sureN_le L
 have key:∀i,i<sureN L→i<sureN M:=fun i hi=>by
  obtain⟨x,hx⟩:∃x,L[i]?=some x:=⟨_,List.getElem?_eq_getElem (by omega)⟩
  exact(hm i x ((h i hi).trans hx)).1 ((hl i x hx).2 hi)
 have h2:sureN L≤sureN M:=by
  rcases Nat.lt_or_ge (sureN M) (sureN L)with g | g
  ·exact absurd (key _ g) (Nat.lt_irrefl _)
  ·exact g
 exact⟨⟨h,hs,Nat.le_trans h2 (sureN_le M)⟩,h2⟩
theorem sum_agr {L M:List Pt} {s n:Nat} (h:Agr L M s) (hn:n≤s):sumN M n=sumN L n:=by
 unfold sumN
 have e:M.take n=L.take n:=by
  refine List.ext_getElem? fun i=> ?_
  rw[List.getElem?_take,List.getElem?_take]
  split
  ·exact h.at_ i (by omega)
  ·rfl
 rw[e]
theorem cut_reach (kind:Int) (L:List Pt):(cutF kind L).1≤(cutF kind L).2:=by
 have hsp:(spacesF L).1≤(spacesF L).2:=by unfold spacesF;split<;>(simp only;omega)
 have hl:=lineN_le L (spN L 0)
 unfold cutF
 split
 ·unfold wordF;simp only;omega
 ·split
  ·unfold plainF
   repeat' split
   all_goals first | (simp only;omega) | exact hsp
  ·unfold wideF
   repeat' split
   all_goals first | (simp only;omega) | exact hsp
theorem nextF_app {kind:Int} {t:List Rg} (ht:MayTab t) (hk:0≤kind∧kind≤3) {b:List Int} (hb:∀x∈b,0≤x∧x<256) (h0:b≠[]) (m:List Int) (hd:(nextF kind t b false).2=true):nextF kind t (b++m) false=nextF kind t b false:=by
 by_cases k0:kind=0
 ·unfold nextF at hd
  rw[if_pos k0]at hd
  cases hd
 ·obtain⟨ha,hle⟩:=sure_agr (pts_app (t:=t) m b) (pts_sure (b++m)) (pts_sure b)
  have hpos:=cutF_pos (kind:=kind) (pts_pos (t:=t) h0) (pts_good ht hb)
  have h2:=reach_two hpos
  unfold nextF at hd ⊢
  rw[if_neg k0]at hd ⊢
  rw[if_neg k0]
  simp only[Bool.false_or,Bool.and_eq_true,decide_eq_true_eq,Bool.or_eq_true,Bool.not_eq_true',decide_eq_false_iff_not]at hd
  obtain⟨hr,hp⟩:=hd
  have hc:=ha.cut kind (by omega) rfl hp (by omega) hr
  have hcl:(cutF kind (pts t b)).1≤(cutF kind (pts t b)).2:=cut_reach kind (pts t b)
  have e:sumN (pts t (b++m)) (cutF kind (pts t b)).1=sumN (pts t b) (cutF kind (pts t b)).1:=sum_agr ha (by omega)
  rw[hc,e]
  congr 1
  have e1:decide ((cutF kind (pts t b)).2≤sureN (pts t (b++m)))=true:=decide_eq_true (by omega)
  have e2:decide ((cutF kind (pts t b)).2≤sureN (pts t b))=true:=decide_eq_true hr
  have e3:(decide (kind=1) || !decide (pendF (pts t b) (decide (kind=3))))=true:=by
   rcases hp with h | h
   ·simp[h]
   ·simp[h]
  have e4:(decide (kind=1) || !decide (pendF (pts t (b++m)) (decide (kind=3))))=true:=by
   rcases hp with h | h
   ·simp[h]
   ·have:¬pendF (pts t (b++m)) (decide (kind=3)):=fun g=>h (by
     unfold pendF at g ⊢
     rw[ha.cdC (by omega),ha.cdC (by omega)]at g
     exact⟨g.1,by omega,g.2.2.imp (fun x=>by omega) id⟩)
    simp[this]
  rw[e1,e2,e3,e4]
def decd (ps:List (Int×Bool)):List (Int×Bool):=ps.takeWhile (fun p=>p.2)
def sumP (ps:List (Int×Bool)):Nat:=(ps.map (fun x=>x.1.toNat)).sum
theorem runOf_two (a b:List Int):runOf (a++b)=if(runOf a).length=a.length then a++runOf b else runOf a:=by
 unfold runOf
 rw[List.takeWhile_append]
theorem stay_go {kind:Int} {t:List Rg} (ht:MayTab t) (hk:0≤kind∧kind≤3) (f:Bool) (more:List Int):∀{k:Nat} {text:List Int},text.length≤k→
  splitGo kind t f (k+more.length) (text++more) false=decd (splitGo kind t false k text false)++splitGo kind t f (k+more.length) ((text++more).drop (sumP (decd (splitGo kind t false k text false)))) false
 | 0,text,h=>by
  obtain rfl:text= []:=List.eq_nil_of_length_eq_zero (by omega)
  rfl
 | k+1,text,h=>by
  by_cases h0:text= []
  ·subst h0;rw[splitGo_nil];rfl
  ·have hl:=List.length_pos_iff.2 h0
   rw[show k+1+more.length=(k+more.length)+1 by omega]
   by_cases hr:runOf text= []
   ·cases text with
    | nil=>exact absurd rfl h0
    | cons x l=>
     have hx:isB x=false:=by
      cases hb:isB x with
      | false=>rfl
      | true=>simp[runOf,hb]at hr
     simp only[List.length_cons]at h
     rw[List.cons_append,splitGo_mark hx,splitGo_mark hx]
     have hd:decd ((1,true)::splitGo kind t false k l false)=(1,true)::decd (splitGo kind t false k l false):=rfl
     have hsm:sumP ((1,true)::decd (splitGo kind t false k l false))=sumP (decd (splitGo kind t false k l false))+1:=by
      show 1+sumP _=_
      omega
     rw[hd,stay_go ht hk f more (k:=k) (text:=l) (by omega),hsm,List.drop_succ_cons,List.cons_append]
     rw[splitGo_more ht (k:=k+more.length) (j:=k+more.length+1) (text:=(l++more).drop _) (by simp;omega) (by simp;omega)]
   ·obtain⟨⟨n,d⟩,hn⟩:∃x,nextF kind t (runOf text) (false || decide ((runOf text).length<text.length))=x:=⟨_,rfl⟩
    have hle:=nextF_le (kind:=kind) ht runOf_b hr (false || decide ((runOf text).length<text.length))
    rw[hn]at hle
    simp only at hle
    have hrl:=runOf_le text
    rw[splitGo_run (text:=text) hr hn]
    cases d with
    | false=>
     have hd:∀X,decd ((n,!(false || !false))::X)= []:=fun X=>rfl
     rw[hd];rfl
    | true=>
     have hd:∀X,decd ((n,!(false || !true))::X)=(n,true)::decd X:=fun X=>rfl
     have hrun2:runOf (text++more)≠[]:=by
      rw[runOf_two]
      split
      ·simp[h0]
      ·exact hr
     have hn2:nextF kind t (runOf (text++more)) (f || decide ((runOf (text++more)).length<(text++more).length))=(n,true):=by
      have hlen:=runOf_le more
      by_cases hf:(runOf text).length=text.length
      ·have hrt:runOf text=text:=(List.takeWhile_prefix isB (l:=text)).eq_of_length hf
       rw[hrt]at hn
       rw[show(false || decide (text.length<text.length))=false by simp]at hn
       have hst:=nextF_app ht hk (b:=text) (by rw[←hrt];exact runOf_b) h0 (runOf more) (by rw[hn])
       rw[runOf_two,if_pos hf]
       cases hg:(f || decide ((text++runOf more).length<(text++more).length))with
       | false=>rw[hst,hn]
       | true=>exact Prod.ext ((nextF_n _ _ _ _ false).trans (by rw[hst,hn])) (nextF_final _ _ _)
      ·have e1:decide ((runOf text).length<text.length)=true:=decide_eq_true (by omega)
       have e2:decide ((runOf text).length<(text++more).length)=true:=decide_eq_true (by rw[List.length_append];omega)
       rw[e1,Bool.or_true]at hn
       rw[runOf_two,if_neg hf,e2,Bool.or_true,hn]
     rw[splitGo_run (text:=text++more) hrun2 hn2,hd]
     have e9:(false || !true)=false:=rfl
     rw[e9,List.drop_append_of_le_length (by omega),stay_go ht hk f more (k:=k) (text:=text.drop n.toNat) (by simp only[List.length_drop];omega)]
     have hsm:sumP ((n,true)::decd (splitGo kind t false k (text.drop n.toNat) false))=n.toNat+sumP (decd (splitGo kind t false k (text.drop n.toNat) false)):=rfl
     rw[hsm,←List.drop_drop,List.drop_append_of_le_length (i:=n.toNat) (by omega),List.cons_append]
     rw[splitGo_more ht (k:=k+more.length) (j:=k+more.length+1) (text:=(text.drop n.toNat++more).drop _) (by simp;omega) (by simp;omega)]
     rfl
theorem stay {kind:Int} {t:List Rg} (ht:MayTab t) (hk:0≤kind∧kind≤3) (f:Bool) (text more:List Int):
  splitF kind t (text++more) f=decd (splitF kind t text false)++splitF kind t ((text++more).drop (sumP (decd (splitF kind t text false)))) f:=by
 have h:=stay_go ht hk f more (k:=text.length) (text:=text) (Nat.le_refl _)
 unfold splitF
 rw[List.length_append,h]
 congr 1
 exact splitGo_more ht (by simp) (Nat.le_refl _)
theorem decd_yes {p:Int×Bool} {ps:List (Int×Bool)} (h:p.2=true):decd (p::ps)=p::decd ps:=by unfold decd;rw[List.takeWhile_cons,h];rfl
theorem decd_no {p:Int×Bool} {ps:List (Int×Bool)} (h:p.2=false):decd (p::ps)= []:=by unfold decd;rw[List.takeWhile_cons,h];rfl
theorem sumP_cons (p:Int×Bool) (ps:List (Int×Bool)):sumP (p::ps)=p.1.toNat+sumP ps:=rfl
theorem sumP_nil:sumP []=0:=rfl
theorem PcsOk.decd_le:∀{ps:List (Int×Bool)} {A:List Int},PcsOk ps A→sumP (decd ps)≤A.length
 | [],A,h=>by
  show 0≤_
  omega
 | p::ps,A,h=>by
  have h1:=h.1
  have h2:=h.2.1
  cases hp:p.2 with
  | false=>rw[decd_no hp,sumP_nil];omega
  | true=>
   rw[decd_yes hp,sumP_cons]
   have:=PcsOk.decd_le h.2.2.2
   rw[List.length_drop]at this
   omega
theorem piecesT_cat {V:Vc} {N:List ByteArray}:∀(ps qs:List (Int×Bool)) (A:List Int),piecesT V N (ps++qs) A=piecesT V N ps A++piecesT V N qs (A.drop (sumP ps))
 | [],qs,A=>rfl
 | p::ps,qs,A=>by
  simp only[List.cons_append,piecesT,sumP_cons]
  rw[piecesT_cat ps qs,List.append_assoc,List.drop_drop]
theorem piecesT_more {V:Vc} {N:List ByteArray}:∀{ps:List (Int×Bool)} {A:List Int} (B:List Int),(∀p∈ps,0≤p.1)→sumP ps≤A.length→piecesT V N ps (A++B)=piecesT V N ps A
 | [],A,B,_,h=>rfl
 | p::ps,A,B,hp,h=>by
  rw[sumP_cons]at h
  simp only[piecesT]
  rw[List.take_append_of_le_length (by omega),List.drop_append_of_le_length (by omega),piecesT_more B (fun q hq=>hp q (by simp[hq])) (by rw[List.length_drop];omega)]
theorem PcsOk.pos:∀{ps:List (Int×Bool)} {A:List Int},PcsOk ps A→∀p∈ps,0≤p.1
 | [],A,h=>fun p hp=>by cases hp
 | q::ps,A,h=>fun p hp=>by
  rcases List.mem_cons.1 hp with rfl | h'
  ·have:=h.1;omega
  ·exact PcsOk.pos h.2.2.2 p h'
theorem decd_mem {ps:List (Int×Bool)} {p:Int×Bool} (h:p∈decd ps):p∈ps:=(List.takeWhile_prefix _).subset h
theorem decd_all {ps:List (Int×Bool)} (h:∀p∈ps,p.2=true):decd ps=ps:=by
 unfold decd
 induction ps with
 | nil=>rfl
 | cons p ps ih=>rw[List.takeWhile_cons,h p (by simp)];simp only[if_true];rw[ih fun q hq=>h q (by simp[hq])]
theorem decd_true (ps:List (Int×Bool)):∀p∈decd ps,p.2=true:=fun p hp=>by
 unfold decd at hp
 exact List.all_eq_true.1 (List.all_takeWhile (p:=fun p:Int×Bool=>p.2) (l:=ps)) p hp
theorem decd_app (ps qs:List (Int×Bool)):decd (decd ps++qs)=decd ps++decd qs:=by
 have h:=decd_true ps
 generalize decd ps=l at h ⊢
 induction l with
 | nil=>rfl
 | cons p l ih=>rw[List.cons_append,decd_yes (h p (by simp)),ih fun q hq=>h q (by simp[hq]),List.cons_append]
theorem sumP_app (ps qs:List (Int×Bool)):sumP (ps++qs)=sumP ps+sumP qs:=by unfold sumP;rw[List.map_append,List.sum_append]
theorem split_final {kind:Int} {t:List Rg}:∀{k:Nat} {text:List Int},∀p∈splitGo kind t true k text false,p.2=true
 | 0,text,p,hp=>by cases hp
 | k+1,text,p,hp=>by
  by_cases h0:text= []
  ·subst h0;rw[splitGo_nil]at hp;cases hp
  ·by_cases hr:runOf text= []
   ·cases text with
    | nil=>exact absurd rfl h0
    | cons x l=>
     have hx:isB x=false:=by
      cases hb:isB x with
      | false=>rfl
      | true=>simp[runOf,hb]at hr
     rw[splitGo_mark hx]at hp
     rcases List.mem_cons.1 hp with rfl | h
     ·rfl
     ·exact split_final p h
   ·rw[splitGo_run (n:=(nextF kind t (runOf text) true).1) (d:=true) hr (by rw[Bool.true_or];exact Prod.ext rfl (nextF_final _ _ _))]at hp
    rcases List.mem_cons.1 hp with rfl | h
    ·rfl
    ·exact split_final p h
noncomputable def comT (V:Vc) (N:List ByteArray) (kind:Int) (T:List Rg) (A:List Int) (e:Bool):List Int:=piecesT V N (decd (splitF kind T A e)) A
def comN (kind:Int) (T:List Rg) (A:List Int) (e:Bool):Nat:=sumP (decd (splitF kind T A e))
def comB (kind:Int) (T:List Rg) (A:List Int) (e:Bool):Int:=byN (decd (splitF kind T A e)) A
theorem comT_end (V:Vc) (N:List ByteArray) (kind:Int) (T:List Rg) (A:List Int):comT V N kind T A true=textF V N kind T A:=by
 unfold comT textF splitF
 rw[decd_all (fun p hp=>split_final p hp)]
section
variable {V:Vc} {N:List ByteArray} {kind:Int} {T:List Rg}
theorem comN_le (hT:MayTab T) {e:Bool} {A:List Int} (hc:checkF V N A=0):comN kind T A e≤A.length:=PcsOk.decd_le (split_ok hT hc)
theorem com_text (hT:MayTab T) (hk:0≤kind∧kind≤3) {A:List Int} (B:List Int) (hc:checkF V N A=0):textF V N kind T (A++B)=comT V N kind T A false++textF V N kind T (A.drop (comN kind T A false)++B):=by
 have hle:=comN_le (kind:=kind) (e:=false) hT hc
 have hs:=stay hT hk true A B
 unfold textF
 rw[hs,piecesT_cat]
 have e1:piecesT V N (decd (splitF kind T A false)) (A++B)=comT V N kind T A false:=piecesT_more B (fun p hp=>(split_ok hT hc).pos p (decd_mem hp)) hle
 have e0:(A++B).drop (sumP (decd (splitF kind T A false)))=A.drop (comN kind T A false)++B:=List.drop_append_of_le_length hle
 rw[e1,e0]
theorem com_more (hT:MayTab T) (hk:0≤kind∧kind≤3) {A:List Int} (B:List Int) (hc:checkF V N A=0):comT V N kind T (A++B) false=comT V N kind T A false++comT V N kind T (A.drop (comN kind T A false)++B) false∧
  comN kind T (A++B) false=comN kind T A false+comN kind T (A.drop (comN kind T A false)++B) false:=by
 have hle:=comN_le (kind:=kind) (e:=false) hT hc
 have hs:=stay hT hk false A B
 have e1:piecesT V N (decd (splitF kind T A false)) (A++B)=comT V N kind T A false:=piecesT_more B (fun p hp=>(split_ok hT hc).pos p (decd_mem hp)) hle
 have e0:(A++B).drop (sumP (decd (splitF kind T A false)))=A.drop (comN kind T A false)++B:=List.drop_append_of_le_length hle
 constructor
 ·unfold comT
  rw[hs,decd_app,piecesT_cat,e0]
  unfold comT at e1
  rw[e1]
 ·unfold comN at e0 ⊢
  rw[hs,decd_app,sumP_app,e0]
end
end Go.Proofs.YtimkkkdabmhedaaGreatDoor
