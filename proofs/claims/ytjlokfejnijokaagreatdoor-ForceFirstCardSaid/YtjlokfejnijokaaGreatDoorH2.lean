/- Pairs of numbers as a map's keys; 'm[k]++' where the translation makes an entry first. -/
import Derived.Test.YtjlokfejnijokaaGreatDoorH1
import Derived.DeepKeys4
import Derived.Maps.Own
set_option linter.unusedVariables false
set_option maxHeartbeats 400000
set_option maxRecDepth 100000
namespace Go.Proofs.YtjlokfejnijokaaGreatDoor
open Go.RowKit Go.Maps Go.ChangeMaps Go.WideMaps Go.WideElems
theorem laidAll:laidOutB Tryz.prog=true:=by kernel_rfl
theorem rowTwo:(298:TypeId)<Tryz.prog.types.size:=of_decide_eq_true (by kernel_rfl)
theorem wideTwo:(match Tryz.prog.underlying 298 with | some (.array _ _) | some (.struct _)=>true | _=>false)=true:=by kernel_rfl
theorem keyedTwo:Keyed Tryz.prog 298:=Keyed.of_law (deep_law_laid laidAll (m:=2) (by omega) rowTwo (by kernel_rfl) wideTwo)
theorem sZ:Tryz.prog.keyType 298=true:=by kernel_rfl
theorem X0:Tryz.prog.cellsOf 298=2:=by kernel_rfl
theorem aBS {a b:Int} (ha:(Lit.int .i64 a).wf=true) (hb:(Lit.int .i64 b).wf=true):(keyOf Tryz.prog 298 (.agg #[.int .i64 a, .int .i64 b])).isSome=true:=by
 have hf:(Value.agg #[.int .i64 a, .int .i64 b]).formed Tryz.prog 298=true:=by
  simp[Value.formed,Tryz.underlying298,X0]
 have hk:∀n,(Tryz.prog.keyLits (n+2) 298 [.int .i64 a, .int .i64 b]).isSome=true:=by
  intro n;have h3:Tryz.prog.cellsOf 3=1:=by kernel_rfl
  unfold Program.keyLits;simp[Tryz.underlying298,X0,h3,Program.keyLits,Tryz.underlying3,ha,hb]
 unfold keyOf;rw[Tryz.underlying298];simp only[sZ,hf,Bool.and_self,if_true];obtain⟨n,hn⟩:∃n,Tryz.prog.types.size+1=n+2:=⟨Tryz.prog.types.size-1,by
  have h:(0:Nat)<Tryz.prog.types.size:=Nat.lt_of_le_of_lt (Nat.zero_le _) rowTwo;omega⟩
 have h2:=hk n;rw[<-hn]at h2;show(Option.map _ (Tryz.prog.keyLits (Tryz.prog.types.size+1) _ [.int .i64 a, .int .i64 b])).isSome=true;rw[Option.isSome_map];exact h2
noncomputable def L0:qB Tryz.prog 298 (Int×Int):=
 qB.of (fun p=> .agg #[.int .i64 p.1, .int .i64 p.2]) (fun p=>(Lit.int .i64 p.1).wf=true/\(Lit.int .i64 p.2).wf=true) (fun p h=>aBS h.1 h.2)
  (fun x y h=>by simp at h;exact Prod.ext h.1 h.2) keyedTwo
open Go.RowKit
def mg (M:List Mg) (i:Nat):Mg:=M.getD i ⟨0,0,0,0⟩
theorem gF {M:List Mg} {i:Nat} (h:i<M.length):M[i]?=some (mg M i):=by simp[mg,List.getD,h]
theorem F9 {M:List Mg} {i:Nat} (h:i<M.length):M[i]=mg M i:=by simp[mg,List.getD,h]
structure bL (T:List ByteArray) (M:List Mg) (k:Nat):Prop where
 ok:∀j,j<k->Q6 T (mg M j)
 rise:∀j,j+1<k->I4 (mg M j) (mg M (j+1))
 parts:∀i j,i<j->j<k->yE (mg M i) (mg M j)
theorem bL.zero (T:List ByteArray) (M:List Mg):bL T M 0:=⟨fun j h=>by omega,fun j h=>by omega,fun i j _ h=>by omega⟩
theorem bL.next {T:List ByteArray} {M:List Mg} {k:Nat} (h:bL T M k) (h1:Q6 T (mg M k)) (h2:0<k->I4 (mg M (k-1)) (mg M k)) (h3:∀i,i<k->yE (mg M i) (mg M k)):bL T M (k+1):=by
 refine⟨fun j hj=> ?_,fun j hj=> ?_,fun i j hi hj=> ?_⟩
 ·by_cases e:j=k
  ·subst e;exact h1
  ·exact h.ok j (by omega)
 ·by_cases e:j+1=k
  ·subst e;have:=h2 (by omega);simpa using this
  ·exact h.rise j (by omega)
 ·by_cases e:j=k
  ·subst e;exact h3 i hi
  ·exact h.parts i j hi (by omega)
theorem bL.all {T:List ByteArray} {M:List Mg} {k n:Nat} (h:bL T M k) (hl:M.length=n) (hk:k<=n) (hk2:¬k<n) (hn:n<=16384):mD T M:=by
 obtain rfl:k=n:=by omega
 refine⟨by omega,fun m hm=> ?_,?_⟩
 ·obtain⟨i,hi,rfl⟩:=List.getElem_of_mem hm;rw[F9 hi];exact h.ok i (by omega)
 ·have hr:M.Pairwise I4:=E3 (fun a b c h1 h2=>h1.trans h2) (fun i a b ha hb=>by
   have h1:=(List.getElem?_eq_some_iff.1 ha).1;have h2:=(List.getElem?_eq_some_iff.1 hb).1;rw[gF h1]at ha;rw[gF h2]at hb
   cases ha;cases hb
   exact h.rise i (by omega))
  rw[List.pairwise_iff_getElem]at hr |-;intro i j hi hj hij;refine⟨hr i j hi hj hij,?_⟩;rw[F9 hi,F9 hj];exact h.parts i j hij (by omega)
theorem mD.ok {T:List ByteArray} {M:List Mg} (h:mD T M) {k:Nat} (hk:k<M.length):Q6 T (mg M k):=by
 rw[<-F9 hk];exact h.2.1 _ (List.getElem_mem _)
theorem mD.pair {T:List ByteArray} {M:List Mg} (h:mD T M) {i j:Nat} (hi:i<j) (hj:j<M.length):I4 (mg M i) (mg M j)/\yE (mg M i) (mg M j):=by
 have:=(List.pairwise_iff_getElem.1 h.2.2) i j (by omega) hj hi;rw[F9 hj,F9 (by omega)]at this;exact this
theorem K4 {T:List ByteArray} {M:List Mg} (h:16384<M.length):(false=true↔mD T M):=⟨(fun h=>by cases h),fun h2=>by have:=h2.1;omega⟩
theorem aB {T:List ByteArray} {M:List Mg} {k:Nat} (hk:k<M.length) (h:¬Q6 T (mg M k)):(false=true↔mD T M):=⟨(fun h=>by cases h),fun h2=>absurd (h2.ok hk) h⟩
theorem cF {T:List ByteArray} {M:List Mg} {i k:Nat} (hi:i<k) (hk:k<M.length) (h:¬I4 (mg M i) (mg M k)):(false=true↔mD T M):=⟨(fun h=>by cases h),fun h2=>absurd (h2.pair hi hk).1 h⟩
theorem iJ {T:List ByteArray} {M:List Mg} {i k:Nat} (hi:i<k) (hk:k<M.length) (h:¬yE (mg M i) (mg M k)):(false=true↔mD T M):=⟨(fun h=>by cases h),fun h2=>absurd (h2.pair hi hk).2 h⟩
def nT (T:List ByteArray) (M:List Mg) (w:World) (e:Ending) (w':World):Prop:=(∃b,e= .returned (.bool b)/\(b=true↔mD T M))/\Below w.heap.size w w'
def zI (M:List Mg) (k:Nat) (f:Int×Int->Option Int):Prop:=∀p c,f p=some c↔c=1/\∃j,j<k/\((mg M j).left,(mg M j).right)=p
theorem zI.zero (M:List Mg):zI M 0 (fun _=>none):=fun p c=>⟨(fun h=>by cases h),fun⟨_,j,hj,_⟩=>by omega⟩
theorem zI.next {M:List Mg} {k:Nat} {f g:Int×Int->Option Int} (h:zI M k f) (h1:g ((mg M k).left,(mg M k).right)=some 1) (h2:∀t,t≠((mg M k).left,(mg M k).right)->g t=f t):zI M (k+1) g:=fun p c=>by
 by_cases e:p=((mg M k).left,(mg M k).right)
 ·rw[e,h1];constructor
  ·intro hc;simp at hc;exact⟨hc.symm,k,by omega,rfl⟩
  ·rintro⟨hc,_⟩;rw[hc]
 ·rw[h2 p e,h p c];constructor
  ·rintro⟨hc,j,hj,he⟩;exact⟨hc,j,by omega,he⟩
  ·rintro⟨hc,j,hj,he⟩;have:j≠k:=fun ej=>e (by rw[<-he,ej])
   exact⟨hc,j,by omega,he⟩
theorem zI.yes {M:List Mg} {k:Nat} {f:Int×Int->Option Int} (h:zI M k f) {c:Int} (hf:f ((mg M k).left,(mg M k).right)=some c):c=1/\∃i,i<k/\¬yE (mg M i) (mg M k):=by
 obtain⟨hc,j,hj,he⟩:=(h _ _).1 hf;refine⟨hc,j,hj,fun hp=>hp ?_⟩;simp at he;exact he
theorem zI.no {M:List Mg} {k:Nat} {f:Int×Int->Option Int} (h:zI M k f) (hf:f ((mg M k).left,(mg M k).right)=none):∀i,i<k->yE (mg M i) (mg M k):=fun i hi hp=>by
 have:f ((mg M k).left,(mg M k).right)=some 1:=(h _ _).2 ⟨rfl,i,hi,by simp[hp.1,hp.2]⟩;rw[hf]at this;cases this
theorem kH {T:List ByteArray} {ao:Option Addr} {n c:Nat} (i:Int) {w:World} (hT:SlS w ao n c T) (k:Nat):
  Calls Tryz.prog 139 #[.slice ao n c, .int .i64 i] (w.drewN k) fun e w'=>e= .returned (.bool (bC T i))/\w'=w.drewN k:=
 (xW i (w.drewN k) (hT.stay fun _ _ h=>h)).mono fun e w' ⟨h1,h2⟩=>⟨h1,h2.symm⟩
end Go.Proofs.YtjlokfejnijokaaGreatDoor
