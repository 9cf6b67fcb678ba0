/- Pairs of numbers as a map's keys; 'm[k]++' where the translation makes an entry first. -/
import Derived.Test.YtimkkkdabmhedaaGreatDoorF1
import Derived.DeepKeys4
import Derived.Maps.Own
set_option linter.unusedVariables false
set_option maxHeartbeats 400000
set_option maxRecDepth 100000
namespace Go.Proofs.YtimkkkdabmhedaaGreatDoor
open Go.RowKit Go.Maps Go.ChangeMaps Go.WideMaps Go.WideElems
theorem laidAll:laidOutB Tryz.prog=true:=by kernel_rfl
theorem rowTwo:(231:TypeId)<Tryz.prog.types.size:=of_decide_eq_true (by kernel_rfl)
theorem wideTwo:(match Tryz.prog.underlying 231 with | some (.array _ _) | some (.struct _)=>true | _=>false)=true:=by kernel_rfl
theorem keyedTwo:Keyed Tryz.prog 231:=Keyed.of_law (deep_law_laid laidAll (m:=2) (by omega) rowTwo (by kernel_rfl) wideTwo)
theorem aAq:Tryz.prog.keyType 231=true:=by kernel_rfl
theorem Y4:Tryz.prog.cellsOf 231=2:=by kernel_rfl
theorem aCD {a b:Int} (ha:(Lit.int .i64 a).wf=true) (hb:(Lit.int .i64 b).wf=true):(keyOf Tryz.prog 231 (.agg #[.int .i64 a, .int .i64 b])).isSome=true:=by
 have hf:(Value.agg #[.int .i64 a, .int .i64 b]).formed Tryz.prog 231=true:=by
  simp[Value.formed,Tryz.underlying231,Y4]
 have hk:∀n,(Tryz.prog.keyLits (n+2) 231 [.int .i64 a, .int .i64 b]).isSome=true:=by
  intro n;have h3:Tryz.prog.cellsOf 3=1:=by kernel_rfl
  unfold Program.keyLits;simp[Tryz.underlying231,Y4,h3,Program.keyLits,Tryz.underlying3,ha,hb]
 unfold keyOf;rw[Tryz.underlying231];simp only[aAq,hf,Bool.and_self,if_true];obtain⟨n,hn⟩:∃n,Tryz.prog.types.size+1=n+2:=⟨Tryz.prog.types.size-1,by
  have h:(0:Nat)<Tryz.prog.types.size:=Nat.lt_of_le_of_lt (Nat.zero_le _) rowTwo;omega⟩
 have h2:=hk n;rw[<-hn]at h2;show(Option.map _ (Tryz.prog.keyLits (Tryz.prog.types.size+1) _ [.int .i64 a, .int .i64 b])).isSome=true;rw[Option.isSome_map];exact h2
noncomputable def M8:B3 Tryz.prog 231 (Int×Int):=
 B3.of (fun p=> .agg #[.int .i64 p.1, .int .i64 p.2]) (fun p=>(Lit.int .i64 p.1).wf=true/\(Lit.int .i64 p.2).wf=true) (fun p h=>aCD h.1 h.2)
  (fun x y h=>by simp at h;exact Prod.ext h.1 h.2) keyedTwo
open Go.RowKit
def mg (M:List Mg) (i:Nat):Mg:=M.getD i ⟨0,0,0,0⟩
theorem F9 {M:List Mg} {i:Nat} (h:i<M.length):M[i]?=some (mg M i):=by simp[mg,List.getD,h]
theorem fH {M:List Mg} {i:Nat} (h:i<M.length):M[i]=mg M i:=by simp[mg,List.getD,h]
structure dM (T:List ByteArray) (M:List Mg) (k:Nat):Prop where
 ok:∀j,j<k->mW T (mg M j)
 rise:∀j,j+1<k->nL (mg M j) (mg M (j+1))
 parts:∀i j,i<j->j<k->mG (mg M i) (mg M j)
theorem dM.zero (T:List ByteArray) (M:List Mg):dM T M 0:=⟨fun j h=>by omega,fun j h=>by omega,fun i j _ h=>by omega⟩
theorem dM.next {T:List ByteArray} {M:List Mg} {k:Nat} (h:dM T M k) (h1:mW T (mg M k)) (h2:0<k->nL (mg M (k-1)) (mg M k)) (h3:∀i,i<k->mG (mg M i) (mg M k)):dM T M (k+1):=by
 refine⟨fun j hj=> ?_,fun j hj=> ?_,fun i j hi hj=> ?_⟩
 ·by_cases e:j=k
  ·subst e;exact h1
  ·exact h.ok j (by omega)
 ·by_cases e:j+1=k
  ·subst e;have:=h2 (by omega);simpa using this
  ·exact h.rise j (by omega)
 ·by_cases e:j=k
  ·subst e;exact h3 i hi
  ·exact h.parts i j hi (by omega)
theorem dM.all {T:List ByteArray} {M:List Mg} {k n:Nat} (h:dM T M k) (hl:M.length=n) (hk:k<=n) (hk2:¬k<n) (hn:n<=16384):D9 T M:=by
 obtain rfl:k=n:=by omega
 refine⟨by omega,fun m hm=> ?_,?_⟩
 ·obtain⟨i,hi,rfl⟩:=List.getElem_of_mem hm;rw[fH hi];exact h.ok i (by omega)
 ·have hr:M.Pairwise nL:=uF (fun a b c h1 h2=>h1.trans h2) (fun i a b ha hb=>by
   have h1:=(List.getElem?_eq_some_iff.1 ha).1;have h2:=(List.getElem?_eq_some_iff.1 hb).1;rw[F9 h1]at ha;rw[F9 h2]at hb
   cases ha;cases hb
   exact h.rise i (by omega))
  rw[List.pairwise_iff_getElem]at hr |-;intro i j hi hj hij;refine⟨hr i j hi hj hij,?_⟩;rw[fH hi,fH hj];exact h.parts i j hij (by omega)
theorem D9.ok {T:List ByteArray} {M:List Mg} (h:D9 T M) {k:Nat} (hk:k<M.length):mW T (mg M k):=by
 rw[<-fH hk];exact h.2.1 _ (List.getElem_mem _)
theorem D9.pair {T:List ByteArray} {M:List Mg} (h:D9 T M) {i j:Nat} (hi:i<j) (hj:j<M.length):nL (mg M i) (mg M j)/\mG (mg M i) (mg M j):=by
 have:=(List.pairwise_iff_getElem.1 h.2.2) i j (by omega) hj hi;rw[fH hj,fH (by omega)]at this;exact this
theorem L0 {T:List ByteArray} {M:List Mg} (h:16384<M.length):(false=true↔D9 T M):=⟨(fun h=>by cases h),fun h2=>by have:=h2.1;omega⟩
theorem pB {T:List ByteArray} {M:List Mg} {k:Nat} (hk:k<M.length) (h:¬mW T (mg M k)):(false=true↔D9 T M):=⟨(fun h=>by cases h),fun h2=>absurd (h2.ok hk) h⟩
theorem F5 {T:List ByteArray} {M:List Mg} {i k:Nat} (hi:i<k) (hk:k<M.length) (h:¬nL (mg M i) (mg M k)):(false=true↔D9 T M):=⟨(fun h=>by cases h),fun h2=>absurd (h2.pair hi hk).1 h⟩
theorem J6 {T:List ByteArray} {M:List Mg} {i k:Nat} (hi:i<k) (hk:k<M.length) (h:¬mG (mg M i) (mg M k)):(false=true↔D9 T M):=⟨(fun h=>by cases h),fun h2=>absurd (h2.pair hi hk).2 h⟩
def tU (T:List ByteArray) (M:List Mg) (w:World) (e:Ending) (w':World):Prop:=(∃b,e= .returned (.bool b)/\(b=true↔D9 T M))/\Below w.heap.size w w'
def nJ (M:List Mg) (k:Nat) (f:Int×Int->Option Int):Prop:=∀p c,f p=some c↔c=1/\∃j,j<k/\((mg M j).left,(mg M j).right)=p
theorem nJ.zero (M:List Mg):nJ M 0 (fun _=>none):=fun p c=>⟨(fun h=>by cases h),fun⟨_,j,hj,_⟩=>by omega⟩
theorem nJ.next {M:List Mg} {k:Nat} {f g:Int×Int->Option Int} (h:nJ M k f) (h1:g ((mg M k).left,(mg M k).right)=some 1) (h2:∀t,t≠((mg M k).left,(mg M k).right)->g t=f t):nJ M (k+1) g:=fun p c=>by
 by_cases e:p=((mg M k).left,(mg M k).right)
 ·rw[e,h1];constructor
  ·intro hc;simp at hc;exact⟨hc.symm,k,by omega,rfl⟩
  ·rintro⟨hc,_⟩;rw[hc]
 ·rw[h2 p e,h p c];constructor
  ·rintro⟨hc,j,hj,he⟩;exact⟨hc,j,by omega,he⟩
  ·rintro⟨hc,j,hj,he⟩;have:j≠k:=fun ej=>e (by rw[<-he,ej])
   exact⟨hc,j,by omega,he⟩
theorem nJ.yes {M:List Mg} {k:Nat} {f:Int×Int->Option Int} (h:nJ M k f) {c:Int} (hf:f ((mg M k).left,(mg M k).right)=some c):c=1/\∃i,i<k/\¬mG (mg M i) (mg M k):=by
 obtain⟨hc,j,hj,he⟩:=(h _ _).1 hf;refine⟨hc,j,hj,fun hp=>hp ?_⟩;simp at he;exact he
theorem nJ.no {M:List Mg} {k:Nat} {f:Int×Int->Option Int} (h:nJ M k f) (hf:f ((mg M k).left,(mg M k).right)=none):∀i,i<k->mG (mg M i) (mg M k):=fun i hi hp=>by
 have:f ((mg M k).left,(mg M k).right)=some 1:=(h _ _).2 ⟨rfl,i,hi,by simp[hp.1,hp.2]⟩;rw[hf]at this;cases this
theorem jI {T:List ByteArray} {ao:Option Addr} {n c:Nat} (i:Int) {w:World} (hT:SlS w ao n c T) (k:Nat):
  Calls Tryz.prog 94 #[.slice ao n c, .int .i64 i] (w.drewN k) fun e w'=>e= .returned (.bool (aE T i))/\w'=w.drewN k:=
 (cY i (w.drewN k) (hT.stay fun _ _ h=>h)).mono fun e w' ⟨h1,h2⟩=>⟨h1,h2.symm⟩
end Go.Proofs.YtimkkkdabmhedaaGreatDoor
