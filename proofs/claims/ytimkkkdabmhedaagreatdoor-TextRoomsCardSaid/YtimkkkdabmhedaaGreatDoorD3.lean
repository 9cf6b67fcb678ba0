/- What the document says of vocabularies, in plain Lean: no program here. -/
import Derived.WalkKit
import Derived.Test.YtimkkkdabmhedaaGreatDoorD1
import Derived.Maps.OwnOps
import Derived.Maps.OwnSet
import Derived.Maps.Views
import Derived.Test.YtimkkkdabmhedaaGreatDoorD2
import Derived.Deep.RegionHeld3
import Derived.Shelf.SlSortCmp.QuietGrown
import Derived.Shelf.SlicesQ.Load
set_option linter.unusedVariables false
set_option maxHeartbeats 1000000
set_option maxRecDepth 100000
namespace Go.Proofs.YtimkkkdabmhedaaGreatDoor
open Go
structure Mg where
 left:Int
 right:Int
 out:Int
 order:Int
structure Sp where
 name:ByteArray
 id:Int
structure Rw where
 token:ByteArray
 rank:Int
structure Vc where
 tokens:List ByteArray
 merges:List Mg
 specials:List Sp
instance :Inhabited Mg:=⟨⟨0,0,0,0⟩⟩
instance :Inhabited Sp:=⟨⟨ByteArray.empty,0⟩⟩
def tk (T:List ByteArray) (i:Nat):ByteArray:=T.getD i ByteArray.empty
theorem tk_eq {T:List ByteArray} {i:Nat} (h:i<T.length):T[i]?=some (tk T i):=by simp[tk,List.getD,h]
theorem tk_mem {T:List ByteArray} {i:Nat} (h:i<T.length):tk T i∈T:=by
 have:=tk_eq h
 exact List.mem_of_getElem? this
theorem mem_tk {T:List ByteArray} {s:ByteArray} (h:s∈T):∃i,i<T.length∧tk T i=s:=by
 obtain⟨i,hi,rfl⟩:=List.getElem_of_mem h
 exact⟨i,hi,by simp[tk,List.getD,hi]⟩
def ofT (T:List ByteArray) (s:ByteArray):Int:=if s.size=0 then -1 else match T.findIdx? (fun x=>decide (x=s))with | some i=>(i:Int) | none=> -1
theorem ofT_empty (T:List ByteArray) {s:ByteArray} (h:s.size=0):ofT T s= -1:=by unfold ofT;rw[if_pos h]
theorem ofT_some {T:List ByteArray} {s:ByteArray} {i:Nat} (h0:s.size≠0) (hi:i<T.length) (he:tk T i=s) (hn:∀j,j<i→tk T j≠s):ofT T s=i:=by
 unfold ofT
 rw[if_neg h0]
 have:T.findIdx? (fun x=>decide (x=s))=some i:=by
  rw[List.findIdx?_eq_some_iff_getElem]
  have ht:∀j (hj:j<T.length),T[j]=tk T j:=fun j hj=>by simp[tk,List.getD,hj]
  exact⟨hi,by rw[ht i hi];simpa using he,fun j hj=>by rw[ht j (by omega)];simpa using hn j hj⟩
 rw[this]
theorem ofT_none {T:List ByteArray} {s:ByteArray} (hn:∀j,j<T.length→tk T j≠s):ofT T s= -1:=by
 unfold ofT
 split
 ·rfl
 ·have:T.findIdx? (fun x=>decide (x=s))=none:=by
   rw[List.findIdx?_eq_none_iff]
   intro x hx
   obtain⟨j,hj,rfl⟩:=mem_tk hx
   simpa using hn j hj
  rw[this]
theorem ofT_cases (T:List ByteArray) (s:ByteArray):(s.size=0∧ofT T s= -1)∨(s.size≠0∧(∃i:Nat,i<T.length∧tk T i=s∧(∀j,j<i→tk T j≠s)∧ofT T s=i))∨(s.size≠0∧(∀j,j<T.length→tk T j≠s)∧ofT T s= -1):=by
 by_cases h0:s.size=0
 ·exact .inl ⟨h0,ofT_empty T h0⟩
 ·right
  cases h:T.findIdx? (fun x=>decide (x=s))with
  | none=>
   right
   rw[List.findIdx?_eq_none_iff]at h
   have hn:∀j,j<T.length→tk T j≠s:=fun j hj=>by simpa using h _ (tk_mem hj)
   exact⟨h0,hn,ofT_none hn⟩
  | some i=>
   left
   obtain⟨h1,h2,h3⟩:=List.findIdx?_eq_some_iff_getElem.1 h
   have ht:∀j (hj:j<T.length),T[j]=tk T j:=fun j hj=>by simp[tk,List.getD,hj]
   have e1:tk T i=s:=by rw[ht i h1]at h2;simpa using h2
   have e2:∀j,j<i→tk T j≠s:=fun j hj=>by have:=h3 j hj;rw[ht j (by omega)]at this;simpa using this
   exact⟨h0,i,h1,e1,e2,ofT_some h0 h1 e1 e2⟩
def isTk (T:List ByteArray) (i:Int):Bool:=decide (0≤i) && decide (i<T.length) && decide ((tk T i.toNat).size≠0)
theorem isTk_iff {T:List ByteArray} {i:Int}:isTk T i=true↔0≤i∧i<T.length∧(tk T i.toNat).size≠0:=by
 unfold isTk;simp[and_assoc]
def one (b:Nat):ByteArray:=⟨#[UInt8.ofNat b]⟩
def Uniq (T:List ByteArray):Prop:=∀i j,i<j→j<T.length→tk T i=tk T j→(tk T i).size=0
def MayTok (T:List ByteArray):Prop:=T.length≤4096∧(∀s∈T,s.size≤64)∧Uniq T∧∀b,b<256→one b∈T
theorem Uniq.of {T:List ByteArray} (h:Uniq T) {i:Nat} (hi:i<T.length) (h0:(tk T i).size≠0):ofT T (tk T i)=i:=
 ofT_some h0 hi rfl fun j hj e=>h0 (by rw[←e];exact h j i hj hi e)
def ahead (a b:Mg):Bool:=decide (a.order<b.order∨(a.order=b.order∧(a.left<b.left∨(a.left=b.left∧a.right<b.right))))
theorem ahead_iff {a b:Mg}:ahead a b=true↔a.order<b.order∨(a.order=b.order∧(a.left<b.left∨(a.left=b.left∧a.right<b.right))):=by unfold ahead;simp
theorem ahead_trans {a b c:Mg} (h1:ahead a b=true) (h2:ahead b c=true):ahead a c=true:=by rw[ahead_iff]at *;omega
def OkMg (T:List ByteArray) (m:Mg):Prop:=isTk T m.left=true∧isTk T m.right=true∧isTk T m.out=true∧tk T m.out.toNat=tk T m.left.toNat++tk T m.right.toNat∧0≤m.order∧m.order≤1048576
def Rise (a b:Mg):Prop:=ahead a b=true∧(a.order=b.order→a.out=b.out)
def Parts (a b:Mg):Prop:=¬(a.left=b.left∧a.right=b.right)
theorem Rise.trans {a b c:Mg} (h1:Rise a b) (h2:Rise b c):Rise a c:=by
 refine⟨ahead_trans h1.1 h2.1,fun e=> ?_⟩
 have a1:=ahead_iff.1 h1.1
 have a2:=ahead_iff.1 h2.1
 have e1:=h1.2 (by omega)
 have e2:=h2.2 (by omega)
 rw[e1,e2]
def MayMg (T:List ByteArray) (M:List Mg):Prop:=M.length≤16384∧(∀m∈M,OkMg T m)∧M.Pairwise (fun a b=>Rise a b∧Parts a b)
def MayMade (T:List ByteArray) (M:List Mg):Prop:=∀i,i<T.length→1<(tk T i).size→∃m∈M,m.out=(i:Int)
def sign (c:UInt8):Bool:=(decide (97≤c.toNat) && decide (c.toNat≤122)) || (decide (48≤c.toNat) && decide (c.toNat≤57)) || decide (c.toNat=95)
def MayName (s:ByteArray):Prop:=s.data.toList.all sign=true∧1≤s.size∧s.size≤24
def sless (a b:ByteArray):Bool:=Op.bytesLess a.toList b.toList
def OkSp (T:List ByteArray) (s:Sp):Prop:=MayName s.name∧0≤s.id∧s.id<T.length∧(tk T s.id.toNat).size=0
def MaySp (T:List ByteArray) (S:List Sp):Prop:=S.length≤16∧(∀s∈S,OkSp T s)∧S.Pairwise (fun a b=>sless a.name b.name=true∧a.id≠b.id)
def May (v:Vc):Prop:=MayTok v.tokens∧MayMg v.tokens v.merges∧MayMade v.tokens v.merges∧MaySp v.tokens v.specials
def OkRows (R:List Rw) (S:List Sp):Prop:=(∀s∈S,0≤s.id∧s.id<4096)∧(∀r∈R,0≤r.rank∧r.rank<4096)∧R.Pairwise (fun a b=>a.rank≠b.rank)
def top (R:List Rw) (S:List Sp):Int:=(R.map (·.rank+1)).foldl max ((S.map (·.id+1)).foldl max 0)
def tokAt (R:List Rw) (i:Nat):ByteArray:=match R.find? (fun r=>decide (r.rank=(i:Int)))with | some r=>r.token | none=>ByteArray.empty
def toksOf (R:List Rw) (S:List Sp):List ByteArray:=(List.range (top R S).toNat).map (tokAt R)
def cutsOf (T:List ByteArray) (i:Nat):List Mg:=
 (List.range ((tk T i).size-1)).filterMap fun k=>
  let a:=ofT T ((tk T i).extract 0 (k+1))
  let b:=ofT T ((tk T i).extract (k+1) (tk T i).size)
  if 0≤a∧0≤b then some ⟨a,b,i,i⟩else none
def mergesOf (T:List ByteArray):List Mg:=(List.range T.length).flatMap (cutsOf T)
def sortMg (M:List Mg):List Mg:=M.mergeSort (fun a b=>!ahead b a)
def sortSp (S:List Sp):List Sp:=S.mergeSort (fun a b=>!sless b.name a.name)
theorem pairwise_apart {α:Type} {lt:α→α→Bool} {l:List α} (h:l.Pairwise (fun a b=>lt a b=true)) {a b:α} (ha:a∈l) (hb:b∈l) (h1:lt a b=false) (h2:lt b a=false):a=b:=by
 rw[List.pairwise_iff_getElem]at h
 obtain⟨i,hi,rfl⟩:=List.getElem_of_mem ha
 obtain⟨j,hj,rfl⟩:=List.getElem_of_mem hb
 rcases Nat.lt_trichotomy i j with h3 | h3 | h3
 ·rw[h i j hi hj h3]at h1;cases h1
 ·subst h3;rfl
 ·rw[h j i hj hi h3]at h2;cases h2
theorem sort_unique {α:Type} {lt:α→α→Bool} {l l1 l2:List α} (p1:l1.Perm l) (p2:l2.Perm l) (s1:l1.Pairwise (fun a b=>lt b a=false)) (s2:l2.Pairwise (fun a b=>lt b a=false))
  (h:l1.Pairwise (fun a b=>lt a b=true)):l1=l2:=
 List.Perm.eq_of_pairwise (le:=fun a b=>lt b a=false)
  (fun a b ha hb h1 h2=>pairwise_apart h ha ((p2.trans p1.symm).mem_iff.1 hb) h2 h1) s1 s2 (p1.trans p2.symm)
theorem ahead_asym (a b:Mg) (h:ahead a b=true):ahead b a=false:=by
 cases h2:ahead b a with
 | false=>rfl
 | true=>rw[ahead_iff]at h h2;omega
theorem ahead_ntrans {a b c:Mg} (h1:ahead a b=false) (h2:ahead b c=false):ahead a c=false:=by
 have h1':¬_:=fun h=>by rw[ahead_iff.2 h]at h1;cases h1
 have h2':¬_:=fun h=>by rw[ahead_iff.2 h]at h2;cases h2
 cases h3:ahead a c with
 | false=>rfl
 | true=>rw[ahead_iff]at h3;omega
theorem bytesLess_lt:∀(x y:List UInt8),Op.bytesLess x y=decide (x<y)
 | [],[]=>by simp[Op.bytesLess]
 | [],_::_=>by simp[Op.bytesLess]
 | _::_,[]=>by simp[Op.bytesLess]
 | a::x,b::y=>by
  unfold Op.bytesLess
  rw[bytesLess_lt x y]
  by_cases h1:a<b
  ·simp[h1,List.cons_lt_cons_iff]
  ·by_cases h2:a=b
   ·subst h2;simp
   ·simp[h1,h2,List.cons_lt_cons_iff]
theorem sless_irrefl (a:ByteArray):sless a a=false:=by unfold sless;rw[bytesLess_lt];simp[List.lt_irrefl]
theorem sless_asym (a b:ByteArray) (h:sless a b=true):sless b a=false:=by
 unfold sless at *
 rw[bytesLess_lt]at *
 simp at h ⊢
 exact List.le_of_lt h
theorem sless_trans {a b c:ByteArray} (h1:sless a b=true) (h2:sless b c=true):sless a c=true:=by
 unfold sless at *
 rw[bytesLess_lt]at *
 simp at h1 h2 ⊢
 exact List.lt_trans h1 h2
theorem sless_ntrans {a b c:ByteArray} (h1:sless a b=false) (h2:sless b c=false):sless a c=false:=by
 unfold sless at *
 rw[bytesLess_lt]at *
 simp at h1 h2 ⊢
 exact List.le_trans h2 h1
theorem sortMg_perm (M:List Mg):(sortMg M).Perm M:=List.mergeSort_perm _ _
theorem sortMg_sorted (M:List Mg):(sortMg M).Pairwise (fun a b=>ahead b a=false):=by
 have:=List.pairwise_mergeSort (le:=fun a b=>!ahead b a) (fun a b c h1 h2=>by
  simp at h1 h2 ⊢
  exact ahead_ntrans h2 h1) (fun a b=>by
  cases h:ahead b a with
  | false=>simp
  | true=>simp[ahead_asym _ _ h]) M
 exact this.imp fun{a b} h=>by simpa using h
theorem sortSp_perm (S:List Sp):(sortSp S).Perm S:=List.mergeSort_perm _ _
theorem sortSp_sorted (S:List Sp):(sortSp S).Pairwise (fun a b=>sless b.name a.name=false):=by
 have:=List.pairwise_mergeSort (le:=fun a b:Sp=>!sless b.name a.name) (fun a b c h1 h2=>by
  simp at h1 h2 ⊢
  exact sless_ntrans h2 h1) (fun a b=>by
  cases h:sless b.name a.name with
  | false=>simp
  | true=>simp[sless_asym _ _ h]) S
 exact this.imp fun{a b} h=>by simpa using h
theorem MayMg.rising {T:List ByteArray} {M:List Mg} (h:MayMg T M):M.Pairwise (fun a b=>ahead a b=true):=h.2.2.imp fun{a b} h=>h.1.1
theorem MaySp.rising {T:List ByteArray} {S:List Sp} (h:MaySp T S):S.Pairwise (fun a b=>sless a.name b.name=true):=h.2.2.imp fun{a b} h=>h.1
theorem sorted_mg {T:List ByteArray} {M M':List Mg} (hp:M'.Perm M) (hs:M'.Pairwise (fun a b=>ahead b a=false)) (h:MayMg T M'∨MayMg T (sortMg M)):M'=sortMg M:=by
 rcases h with h | h
 ·exact sort_unique hp (sortMg_perm M) hs (sortMg_sorted M) h.rising
 ·exact(sort_unique (sortMg_perm M) hp (sortMg_sorted M) hs h.rising).symm
theorem sorted_sp {T:List ByteArray} {S S':List Sp} (hp:S'.Perm S) (hs:S'.Pairwise (fun a b=>sless b.name a.name=false)) (h:MaySp T S'∨MaySp T (sortSp S)):S'=sortSp S:=by
 rcases h with h | h
 ·exact sort_unique (lt:=fun a b:Sp=>sless a.name b.name) hp (sortSp_perm S) hs (sortSp_sorted S) h.rising
 ·exact(sort_unique (lt:=fun a b:Sp=>sless a.name b.name) (sortSp_perm S) hp (sortSp_sorted S) hs h.rising).symm
theorem sorted_may {T:List ByteArray} {M M':List Mg} {S S':List Sp} (hp:M'.Perm M) (hs:M'.Pairwise (fun a b=>ahead b a=false)) (hp2:S'.Perm S) (hs2:S'.Pairwise (fun a b=>sless b.name a.name=false)):
  (May ⟨T,M',S'⟩↔May ⟨T,sortMg M,sortSp S⟩)∧(May ⟨T,M',S'⟩→M'=sortMg M∧S'=sortSp S):=by
 have h1:May ⟨T,M',S'⟩→M'=sortMg M∧S'=sortSp S:=fun h=>⟨sorted_mg hp hs (.inl h.2.1),sorted_sp hp2 hs2 (.inl h.2.2.2)⟩
 refine⟨⟨fun h=> ?_,fun h=> ?_⟩,h1⟩
 ·obtain⟨e1,e2⟩:=h1 h
  rw[←e1,←e2];exact h
 ·rw[sorted_mg hp hs (.inr h.2.1),sorted_sp hp2 hs2 (.inr h.2.2.2)];exact h
theorem pairwise_of_next {α:Type} {R:α→α→Prop} (htrans:∀a b c,R a b→R b c→R a c) {l:List α} (h:∀i a b,l[i]?=some a→l[i+1]?=some b→R a b):l.Pairwise R:=by
 rw[List.pairwise_iff_getElem]
 intro i j hi hj hij
 induction j with
 | zero=>omega
 | succ j ih=>
  have hstep:=h j _ _ (List.getElem?_eq_getElem (by omega)) (List.getElem?_eq_getElem hj)
  rcases Nat.lt_or_ge i j with h1 | h1
  ·exact htrans _ _ _ (ih (by omega) h1) hstep
  ·obtain rfl:i=j:=by omega
   exact hstep
open Go.RowKit Go.Maps Go.ChangeMaps Go.WideMaps
set_option linter.unusedSimpArgs false
structure KeyView (P:Program) (k:TypeId) (α:Type) where
 val:α→Value
 lit:α→Lit
 ok:α→Prop
 key:∀x,ok x→keyOf P k (val x)=some (lit x)
 inj:∀x y,ok x→ok y→lit x=lit y→x=y
 keyed:Keyed P k
section
variable {P:Program} {k t e:TypeId} {α:Type} {V:KeyView P k α}
def MapK (V:KeyView P k α) (e:TypeId) (w:World) (mb sz:Nat) (f:α→Option Int):Prop:=
 ∃D:DataW Unit,w.ownsMap P k (plainElem P e) mb sz D∧Tidy D∧size D=sz∧
  ∀s,V.ok s→has D (V.lit s)=(f s).isSome∧∀c,f s=some c→D.atKey (V.lit s) (.lit (.int .i64 0))= .lit (.int .i64 c)
theorem MapK.lt {w:World} {mb sz:Nat} {f:α→Option Int} (h:MapK V e w mb sz f):mb<w.heap.size:=let ⟨_,h1,_⟩:=h;h1.lt
theorem MapK.stay {w w':World} {mb sz:Nat} {f:α→Option Int} (h:MapK V e w mb sz f) (hb:w'.heap[mb]?=w.heap[mb]?):MapK V e w' mb sz f:=by
 obtain⟨D,⟨es,clock,h1,h2⟩,r⟩:=h
 exact⟨D,⟨es,clock,hb.trans h1,h2⟩,r⟩
theorem MapK.below {w w':World} {mb sz:Nat} {f:α→Option Int} (h:MapK V e w mb sz f) (hb:Below w.heap.size w w'):MapK V e w' mb sz f:=h.stay (hb.block _ h.lt)
theorem MapK.drewN {w:World} {mb sz:Nat} {f:α→Option Int} (h:MapK V e w mb sz f) (n:Nat):MapK V e (w.drewN n) mb sz f:=h.stay rfl
theorem MapK.alloc {w:World} {mb sz:Nat} {f:α→Option Int} (h:MapK V e w mb sz f) (o:Obj):MapK V e (w.alloc o) mb sz f:=h.below (below_alloc w o)
theorem ownsMapK_size {w:World} {b n:Nat} {D:DataW Unit} (h:w.ownsMap P k (plainElem P e) b n D):w.ownsMap P k (plainElem P e) b (size D) D:=by
 obtain⟨es,clock,hb,F,hn,rfl⟩:=h
 refine⟨es,clock,hb,F,?_,rfl⟩
 rw[size_eq,length_sorted]
 simp
theorem MapK.new (V:KeyView P k α) (e:TypeId) (w:World):MapK V e (w.alloc (.map #[] 0)) w.heap.size 0 (fun _=>none):=
 ⟨.map [],World.ownsMap_made _ _ _ _,tidy_empty,rfl,fun s _=>⟨rfl,fun c h=>by cases h⟩⟩
theorem MapK.congr {w:World} {mb sz sz':Nat} {f g:α→Option Int} (h:MapK V e w mb sz f) (hs:sz=sz') (hf:∀s,V.ok s→f s=g s):MapK V e w mb sz' g:=by
 subst hs
 obtain⟨D,h1,h2,h3,h4⟩:=h
 exact⟨D,h1,h2,h3,fun s hs=>by rw[←hf s hs];exact h4 s hs⟩
variable {w:World} {ops:Array Oper} {rest:List Oper} {o:Oper} {a:Act} {Q:Exit→Act→World→Prop}
theorem wpList_mk_ok (ht:P.underlying t=some (.map k e)) (he:P.underlying e=some (.int .i64)) (hz:∀w:World,(zeroValue e).run P w= .ok (.int .i64 0) w)
  (hg:o.guard=none) (m x:Operand) (hop:o.op=Op.lookup t m x true) {mb sz:Nat} {f:α→Option Int} (hm:a.eval m= .map (some mb)) (h:MapK V e w mb sz f)
  {s:α} (hx:a.eval x=V.val s) (hs:V.ok s)
  (hK:wpList P ops Q rest (a.put o.dst (.tuple #[.int .i64 ((f s).getD 0), .bool (f s).isSome])) w):wpList P ops Q (o::rest) a w:=by
 obtain⟨D,h1,h2,h3,h4⟩:=h
 refine wpList_lookup_own_ok_int w hg m x t hop k e .i64 V.keyed ht he (hz w) mb sz D hm h1 _ (V.lit s) hx (V.key s hs) ?_
 intro c hat _
 have hh:=h4 s hs
 rw[hh.1]
 have hc:c=(f s).getD 0:=by
  cases hf:f s with
  | none=>
   rw[hf]at hh
   rw[atKey_of_not_has (by simpa using hh.1)]at hat
   simpa using hat.symm
  | some c'=>
   have:=hh.2 c' hf
   rw[this]at hat
   simpa using hat.symm
 rw[hc]
 exact hK
theorem wpList_mk_get (ht:P.underlying t=some (.map k e)) (he:P.underlying e=some (.int .i64)) (hz:∀w:World,(zeroValue e).run P w= .ok (.int .i64 0) w)
  (hg:o.guard=none) (m x:Operand) (hop:o.op=Op.lookup t m x false) {mb sz:Nat} {f:α→Option Int} (hm:a.eval m= .map (some mb)) (h:MapK V e w mb sz f)
  {s:α} (hx:a.eval x=V.val s) (hs:V.ok s)
  (hK:wpList P ops Q rest (a.put o.dst (.int .i64 ((f s).getD 0))) w):wpList P ops Q (o::rest) a w:=by
 obtain⟨D,h1,h2,h3,h4⟩:=h
 refine wpList_lookup_own_int w hg m x t hop k e .i64 V.keyed ht he (hz w) mb sz D hm h1 _ (V.lit s) hx (V.key s hs) ?_
 intro c hat _
 have hh:=h4 s hs
 have hc:c=(f s).getD 0:=by
  cases hf:f s with
  | none=>
   rw[hf]at hh
   rw[atKey_of_not_has (by simpa using hh.1)]at hat
   simpa using hat.symm
  | some c'=>
   have:=hh.2 c' hf
   rw[this]at hat
   simpa using hat.symm
 rw[hc]
 exact hK
theorem wpList_mk_put [DecidableEq α] (ht:P.underlying t=some (.map k e)) (he:P.underlying e=some (.int .i64))
  (hg:o.guard=none) (m x v:Operand) (hop:o.op=Op.mapUpdate t m x v) {mb sz:Nat} {f:α→Option Int} (hm:a.eval m= .map (some mb)) (h:MapK V e w mb sz f)
  {s:α} (hx:a.eval x=V.val s) (hs:V.ok s) {c:Int} (hv:a.eval v= .int .i64 c) (hc:(Lit.int .i64 c).wf=true) (hn:sz<maxLen)
  (hK:∀w',MapK V e w' mb (if(f s).isSome then sz else sz+1) (fun t=>if t=s then some c else f t)→w.grownBy w' (some mb)→wpList P ops Q rest (a.put o.dst undef) w'):wpList P ops Q (o::rest) a w:=by
 obtain⟨D,h1,h2,h3,h4⟩:=h
 have hkl:WideAt.IsKeyLit (V.lit s):=V.keyed.key (V.key s hs)
 refine wpList_mapUpdate_own w hg m x v t hop k e V.keyed ht _ mb sz D hm h1 hn _ _ (V.lit s) hx hv (V.key s hs) _ [] (plainElem_int he hc) ?_
 intro w' hown hgrow
 have e1:size (D.put (V.lit s) (.lit (.int .i64 c)))=if(f s).isSome then sz else sz+1:=by
  rw[size_put h2,(h4 s hs).1,h3]
 refine hK w' ⟨D.put (V.lit s) (.lit (.int .i64 c)),?_,h2.put hkl _,e1,fun t ht'=> ?_⟩ hgrow
 ·have:=ownsMapK_size hown
  rw[e1]at this
  exact this
 ·by_cases e2:t=s
  ·subst e2
   simp only[if_true,Option.isSome_some,Option.some.injEq]
   refine⟨has_put_same h2.isMap hkl _,fun c' hc'=> ?_⟩
   subst hc'
   exact atKey_put_same h2.isMap hkl _ _
  ·have hne:V.lit t≠V.lit s:=fun h=>e2 (V.inj t s ht' hs h)
   simp only[e2,if_false]
   rw[has_put_other hne]
   exact⟨(h4 t ht').1,fun c' hc'=>by rw[atKey_put_other hne];exact(h4 t ht').2 c' hc'⟩
theorem MapK.update [DecidableEq α] (ht:P.underlying t=some (.map k e)) (he:P.underlying e=some (.int .i64)) {mb sz:Nat} {f:α→Option Int} (h:MapK V e w mb sz f)
  {s:α} (hs:V.ok s) {c:Int} (hc:(Lit.int .i64 c).wf=true) (hn:sz<maxLen):
  ∃w',(Instr.mapUpdate t (.map (some mb)) (V.val s) (.int .i64 c)).run P w= .ok () w'∧MapK V e w' mb (if(f s).isSome then sz else sz+1) (fun t=>if t=s then some c else f t)∧w.grownBy w' (some mb):=by
 obtain⟨D,h1,h2,h3,h4⟩:=h
 have hkl:WideAt.IsKeyLit (V.lit s):=V.keyed.key (V.key s hs)
 obtain⟨w',hrun,hown,hgrow⟩:=h1.update V.keyed ht hn (V.key s hs) (plainElem_int he hc)
 have e1:size (D.put (V.lit s) (.lit (.int .i64 c)))=if(f s).isSome then sz else sz+1:=by
  rw[size_put h2,(h4 s hs).1,h3]
 refine⟨w',hrun,⟨D.put (V.lit s) (.lit (.int .i64 c)),?_,h2.put hkl _,e1,fun t ht'=> ?_⟩,hgrow⟩
 ·have:=ownsMapK_size hown
  rw[e1]at this
  exact this
 ·by_cases e2:t=s
  ·subst e2
   simp only[if_true,Option.isSome_some,Option.some.injEq]
   refine⟨has_put_same h2.isMap hkl _,fun c' hc'=> ?_⟩
   subst hc'
   exact atKey_put_same h2.isMap hkl _ _
  ·have hne:V.lit t≠V.lit s:=fun h=>e2 (V.inj t s ht' hs h)
   simp only[e2,if_false]
   rw[has_put_other hne]
   exact⟨(h4 t ht').1,fun c' hc'=>by rw[atKey_put_other hne];exact(h4 t ht').2 c' hc'⟩
theorem MapK.get (ht:P.underlying t=some (.map k e)) (he:P.underlying e=some (.int .i64)) (hz:∀w:World,(zeroValue e).run P w= .ok (.int .i64 0) w) {mb sz:Nat} {f:α→Option Int} (h:MapK V e w mb sz f)
  {s:α} (hs:V.ok s):(Instr.lookup t (.map (some mb)) (V.val s) false).run P w= .ok (.int .i64 ((f s).getD 0)) w:=by
 obtain⟨D,h1,h2,h3,h4⟩:=h
 obtain⟨c,hrun,hat,_⟩:=h1.lookup_int V.keyed ht he (hz w) (V.key s hs)
 have hh:=h4 s hs
 have hc:c=(f s).getD 0:=by
  cases hf:f s with
  | none=>
   rw[hf]at hh
   rw[atKey_of_not_has (by simpa using hh.1)]at hat
   simpa using hat.symm
  | some c'=>
   have:=hh.2 c' hf
   rw[this]at hat
   simpa using hat.symm
 rw[←hc]
 exact hrun
structure Entry (V:KeyView P k α) (t e:TypeId) (mb sz:Nat) (f:α→Option Int) (s:α) (o0 o1:Obj) (v stamp:Value) (o2:Int→Obj):Prop where
 look0:∀W:World,W.heap[mb]?=some o0→(Instr.lookup t (.map (some mb)) (V.val s) false).run P W= .ok (.int .i64 ((f s).getD 0)) W
 entry:∀W:World,W.heap[mb]?=some o0→(Instr.mapEntry t (.map (some mb)) (V.val s)).run P W= .ok (.tuple #[v,stamp]) (ChangeMaps.setBlock W mb o1)
 at1:∀W:World,W.heap[mb]?=some o0→(ChangeMaps.setBlock W mb o1).heap[mb]?=some o1
 look1:∀W:World,W.heap[mb]?=some o1→(Instr.lookup t (.map (some mb)) (V.val s) false).run P W= .ok (.int .i64 ((f s).getD 0)) W
 store:∀(W:World) (c:Int),W.heap[mb]?=some o1→(Instr.entryStore t (.map (some mb)) stamp (.int .i64 c)).run P W= .ok () (ChangeMaps.setBlock W mb (o2 c))
 fin:∀(W:World) (c:Int),(Lit.int .i64 c).wf=true→W.heap[mb]?=some (o2 c)→∃sz' g,sz'≤sz+1∧MapK V e W mb sz' g∧g s=some c∧∀t,t≠s→g t=f t
theorem findIdx_nodup {es:Array MapEntry} (hnd:(es.toList.map (·.born)).Nodup) {j:Nat} {x:MapEntry} (hj:es[j]?=some x):es.findIdx? (fun e=>(e.born:Int)==(x.born:Int))=some j:=by
 rw[Array.findIdx?_eq_some_iff_getElem]
 obtain⟨hlt,hx⟩:=Array.getElem?_eq_some_iff.1 hj
 refine⟨hlt,by rw[hx];simp,fun i hi=> ?_⟩
 have h:=(List.pairwise_iff_getElem.1 hnd) i j (by simp;omega) (by simpa using hlt) hi
 simp only[List.getElem_map,Array.getElem_toList]at h
 rw[hx]at h
 simp only[beq_iff_eq]
 intro h2
 exact h (by omega)
theorem below_setBlock {A W:World} {B mb:Nat} {o:Obj} (h:Below B A W) (hm:B≤mb):Below B A (ChangeMaps.setBlock W mb o):=
 ⟨h.os,h.tape,h.output,by have:=h.size;simp[ChangeMaps.setBlock];exact this,fun q hq=>by
  rw[←h.block q hq]
  show(W.heap.setIfInBounds mb o)[q]?=_
  rw[Array.getElem?_setIfInBounds_ne (by omega)]⟩
theorem MapK.entry [DecidableEq α] (ht:P.underlying t=some (.map k e)) (he:P.underlying e=some (.int .i64)) (hz:∀w:World,(zeroValue e).run P w= .ok (.int .i64 0) w) {mb sz:Nat} {f:α→Option Int} (h:MapK V e w mb sz f)
  {s:α} (hs:V.ok s) (hn:sz<maxLen):∃o0 o1 v stamp o2,w.heap[mb]?=some o0∧Entry V t e mb sz f s o0 o1 v stamp o2:=by
 have hkey:=V.key s hs
 have hget:=fun(W:World) (hW:MapK V e W mb sz f)=>MapK.get (s:=s) ht he hz hW hs
 have hupd:=fun(W:World) (hW:MapK V e W mb sz f) (c:Int) (hc:(Lit.int .i64 c).wf=true)=>MapK.update (s:=s) ht he hW hs hc hn
 have hmem:=h
 obtain⟨D,⟨es,clock,hb,F,hsz,hD⟩,hrest⟩:=h
 have hM:∀W:World,W.heap[mb]?=some (.map es clock)→MapK V e W mb sz f:=fun W hW=>⟨D,⟨es,clock,hW,F,hsz,hD⟩,hrest⟩
 by_cases hx:∃x∈es.toList,x.key=V.val s
 ·
  obtain⟨x,hxm,hxk⟩:=hx
  obtain⟨j,hj⟩:∃j,es[j]?=some x:=by
   obtain⟨j,hj,rfl⟩:=List.getElem_of_mem hxm
   exact⟨j,by simp at hj;exact Array.getElem?_eq_getElem hj⟩
  have hjl:=(Array.getElem?_eq_some_iff.1 hj).1
  have hfind:∀W:World,(Instr.findKey k (V.val s) es.toList).run P W= .ok (some (j,x.val)) W:=fun W=>by
   rcases V.keyed.find W hkey es.toList F.keys with⟨_,h2⟩ | ⟨j',e0,h1,h2,h3⟩
   ·exact absurd hxk (h2 x hxm)
   ·have hjj:j'=j:=by
     have hnd:=F.stamped.2.2
     have hj':es[j']?=some e0:=by simpa using h2
     have hjl':=(Array.getElem?_eq_some_iff.1 hj').1
     rcases Nat.lt_trichotomy j' j with h4 | h4 | h4
     ·have:=(List.pairwise_iff_getElem.1 hnd) j' j (by simpa using hjl') (by simpa using hjl) h4
      simp only[List.getElem_map,Array.getElem_toList]at this
      rw[(Array.getElem?_eq_some_iff.1 hj).2,(Array.getElem?_eq_some_iff.1 hj').2,hxk,h3]at this
      exact absurd rfl this
     ·exact h4
     ·have:=(List.pairwise_iff_getElem.1 hnd) j j' (by simpa using hjl) (by simpa using hjl') h4
      simp only[List.getElem_map,Array.getElem_toList]at this
      rw[(Array.getElem?_eq_some_iff.1 hj).2,(Array.getElem?_eq_some_iff.1 hj').2,hxk,h3]at this
      exact absurd rfl this
    subst hjj
    have hj':es[j']?=some e0:=by simpa using h2
    rw[hj]at hj'
    cases hj'
    exact h1
  have hmod:es.modify j (fun e=>{e with key:=V.val s})=es:=by
   apply Array.ext
   ·simp
   ·intro i h1 h2
    rw[Array.getElem_modify]
    split
    ·subst i
     have:es[j]=x:=(Array.getElem?_eq_some_iff.1 hj).2
     rw[this,←hxk]
    ·rfl
  have hmod2:∀c:Int,(es.modify j fun e=>{e with key:=V.val s,val:= .int .i64 c})=es.modify j (fun e=>{e with val:= .int .i64 c}):=fun c=>by
   apply Array.ext
   ·simp
   ·intro i h1 h2
    rw[Array.getElem_modify,Array.getElem_modify]
    split
    ·subst i
     have:es[j]=x:=(Array.getElem?_eq_some_iff.1 hj).2
     rw[this,←hxk]
    ·rfl
  have hstay:∀W:World,(Instr.keyThatStays x.key (V.val s)).run P W= .ok (V.val s) W:=fun W=>by
   rw[hxk]
   exact V.keyed.stays W hkey
  refine⟨.map es clock, .map es clock,x.val,goInt x.born,fun c=> .map (es.modify j (fun e=>{e with val:= .int .i64 c})) clock,hb,⟨fun W hW=>hget W (hM W hW),fun W hW=> ?_,fun W hW=>heap_setBlock_same hW _,fun W hW=>hget W (hM W hW),fun W c hW=> ?_,fun W c hc hW=> ?_⟩⟩
  ·simp[Instr.mapEntry,run_underlying ht,MapKept.run_getObj_map hW,V.keyed.check W false hkey,hfind W,hstay W,hmod,MapKept.run_setObj_map _ hW,Result.andThen,ChangeMaps.setBlock,hj]
  ·simp[Instr.entryStore,MapKept.run_getObj_map hW,MapKept.run_setObj_map _ hW,Result.andThen,ChangeMaps.setBlock,goInt,asInt,asIntOf,findIdx_nodup F.stamped.2.1 hj]
  ·obtain⟨w',hrun,hm',hg'⟩:=hupd w hmem c hc
   have hrun2:(Instr.mapUpdate t (.map (some mb)) (V.val s) (.int .i64 c)).run P w= .ok () (ChangeMaps.setBlock w mb (.map (es.modify j (fun e=>{e with val:= .int .i64 c})) clock)):=by
    simp[Instr.mapUpdate,run_underlying ht,MapKept.run_getObj_map hb,V.keyed.check w false hkey,hfind w,hj,hstay w,hmod2,MapKept.run_setObj_map _ hb,Result.andThen,ChangeMaps.setBlock]
   rw[hrun]at hrun2
   have hw':w'=_:=(Result.ok.inj hrun2).2
   refine⟨_,_,?_,hm'.stay (by rw[hW,hw'];exact(heap_setBlock_same hb _).symm),by simp,fun t ht=>by simp[ht]⟩
   split<;>omega
 ·have hx':∀x∈es.toList,x.key≠V.val s:=fun x hxm e=>hx ⟨x,hxm,e⟩
  have hfind:∀W:World,(Instr.findKey k (V.val s) es.toList).run P W= .ok none W:=fun W=>by
   rcases V.keyed.find W hkey es.toList F.keys with⟨h1,_⟩ | ⟨j',e0,_,h2,h3⟩
   ·exact h1
   ·exact absurd h3 (hx' e0 (by have:es.toList[j']?=some e0:=h2;exact List.mem_of_getElem? this))
  have hf0:(f s).getD 0=0:=by
   have h1:=hget w hmem
   simp[Instr.lookup,run_underlying ht,MapKept.run_getObj_map hb,V.keyed.check w _ hkey,hfind w,hz w,Result.andThen]at h1
   exact h1.symm
  have hfit:∀c:Int,(Lit.int .i64 c).wf=true→MapK V e (ChangeMaps.setBlock w mb (.map (es.push ⟨V.val s, .int .i64 c,clock⟩) (clock+1))) mb (if(f s).isSome then sz else sz+1) (fun t=>if t=s then some c else f t):=fun c hc=>by
   obtain⟨w',hrun,hm',hg'⟩:=hupd w hmem c hc
   have hrun2:(Instr.mapUpdate t (.map (some mb)) (V.val s) (.int .i64 c)).run P w= .ok () (ChangeMaps.setBlock w mb (.map (es.push ⟨V.val s, .int .i64 c,clock⟩) (clock+1))):=by
    simp[Instr.mapUpdate,run_underlying ht,MapKept.run_getObj_map hb,V.keyed.check w false hkey,hfind w,MapKept.run_setObj_map _ hb,Result.andThen,ChangeMaps.setBlock]
   rw[hrun]at hrun2
   have hw':w'=_:=(Result.ok.inj hrun2).2
   rw[←hw'];exact hm'
  have hw0:(Lit.int .i64 0).wf=true:=by decide
  have hes1:∀W:World,W.heap[mb]?=some (.map (es.push ⟨V.val s, .int .i64 0,clock⟩) (clock+1))→(Instr.lookup t (.map (some mb)) (V.val s) false).run P W= .ok (.int .i64 ((f s).getD 0)) W:=fun W hW=>by
   have h1:=(hfit 0 hw0).stay (w':=W) (by rw[hW];exact(heap_setBlock_same hb _).symm)
   have h2:=MapK.get (s:=s) ht he hz h1 hs
   rw[h2,hf0]
   simp
  have hidx:(es.push ⟨V.val s, .int .i64 0,clock⟩).findIdx? (fun e=>(e.born:Int)==(clock:Int))=some es.size:=by
   rw[Array.findIdx?_eq_some_iff_getElem]
   refine⟨by simp,by simp,fun i hi=> ?_⟩
   rw[Array.getElem_push_lt hi]
   have:=F.stamped.1 es[i] (by simp)
   simp only[beq_iff_eq]
   omega
  have hmod:∀c:Int,(es.push ⟨V.val s, .int .i64 0,clock⟩).modify es.size (fun e=>{e with val:= .int .i64 c})=es.push ⟨V.val s, .int .i64 c,clock⟩:=fun c=>by
   apply Array.ext
   ·simp
   ·intro i h1 h2
    rw[Array.getElem_modify]
    split
    ·subst i;simp
    ·rename_i hne
     have hi:i<es.size:=by simp at h2;omega
     rw[Array.getElem_push_lt hi,Array.getElem_push_lt hi]
  refine⟨.map es clock, .map (es.push ⟨V.val s, .int .i64 0,clock⟩) (clock+1), .int .i64 0,goInt clock,fun c=> .map (es.push ⟨V.val s, .int .i64 c,clock⟩) (clock+1),hb,⟨fun W hW=>hget W (hM W hW),fun W hW=> ?_,fun W hW=>heap_setBlock_same hW _,hes1,fun W c hW=> ?_,fun W c hc hW=> ?_⟩⟩
  ·simp[Instr.mapEntry,run_underlying ht,MapKept.run_getObj_map hW,V.keyed.check W false hkey,hfind W,hz W,MapKept.run_setObj_map _ hW,Result.andThen,ChangeMaps.setBlock]
  ·simp[Instr.entryStore,MapKept.run_getObj_map hW,MapKept.run_setObj_map _ hW,Result.andThen,ChangeMaps.setBlock,goInt,asInt,asIntOf,hidx,hmod c]
  ·refine⟨_,_,?_,(hfit c hc).stay (by rw[hW];exact(heap_setBlock_same hb _).symm),by simp,fun t ht=>by simp[ht]⟩
   split<;>omega
end
noncomputable def KeyView.of {P:Program} {k:TypeId} {α:Type} (val:α→Value) (ok:α→Prop) (h:∀x,ok x→(keyOf P k (val x)).isSome=true) (inj:∀x y,val x=val y→x=y) (K:Keyed P k):KeyView P k α where
 val:=val
 lit x:=(keyOf P k (val x)).getD (.bool false)
 ok:=ok
 key x hx:=by
  cases e:keyOf P k (val x)with
  | none=>have:=h x hx;rw[e]at this;cases this
  | some l=>rfl
 inj x y hx hy e:=by
  cases e1:keyOf P k (val x)with
  | none=>have:=h x hx;rw[e1]at this;cases this
  | some l=>
   cases e2:keyOf P k (val y)with
   | none=>have:=h y hy;rw[e2]at this;cases this
   | some l2=>
    rw[e1,e2]at e
    simp at e
    subst e
    exact inj x y (K.inj e1 e2)
 keyed:=K
noncomputable def strView {P:Program} {k:TypeId} (hk:P.underlying k=some .string):KeyView P k ByteArray:=
 KeyView.of .string (fun s=>s.size≤maxLen) (fun s hs=>by rw[keyOf_string_mk hk hs];rfl) (fun x y h=>by simpa using h) (string_keyed hk)
theorem i64_wf {x:Int}:(Lit.int .i64 x).wf=true↔ -9223372036854775808≤x∧x≤9223372036854775807:=by
 simp[Lit.wf,IntKind.min,IntKind.max,IntKind.signed,IntKind.bits]
noncomputable def intView {P:Program} {k:TypeId} (hk:P.underlying k=some (.int .i64)):KeyView P k Int:=
 KeyView.of (.int .i64) (fun x=>(Lit.int .i64 x).wf=true) (fun s hs=>by rw[keyOf_int_mk hk hs];rfl) (fun x y h=>by simpa using h) (int_keyed hk)
open Go.RowKit
theorem isTk_neg {T:List ByteArray} {i:Int} (h:i<0):isTk T i=false:=by unfold isTk;simp;omega
theorem isTk_out {T:List ByteArray} {i:Int} (h:(T.length:Int)≤i):isTk T i=false:=by unfold isTk;simp;omega
theorem isTk_at {T:List ByteArray} {k:Nat} (h:k<T.length):isTk T (k:Int)=decide ((tk T k).size≠0):=by unfold isTk;simp[h]
theorem is_calls {T:List ByteArray} {ao:Option Addr} {n c:Nat} (i:Int) (w:World) (hT:SlS w ao n c T):
  Calls Tryz.prog 94 #[.slice ao n c, .int .i64 i] w fun e w'=>e= .returned (.bool (isTk T i))∧w=w':=by
 have hm:=Nat.le_trans (Sl.le hT) (Sl.max hT)
 unfold maxLen at hm
 have hlen:=Lib.hid hT.count
 by_cases h0:i<0
 ·have HF:=Lib.hid (isTk_neg (T:=T) h0)
  go_enter Tryz.func94,Tryz.ntmps94
  go_wp2
  go_ret
  exact⟨ret_bool HF.out.symm,rfl⟩
 ·obtain⟨k,rfl⟩:=Int.eq_ofNat_of_zero_le (Int.not_lt.1 h0)
  by_cases hk:k<n
  ·obtain⟨b,o,rfl,hc⟩:=hT.cell (tk_eq (T:=T) (i:=k) (by have:=hlen.out;omega))
   have HF:=Lib.hid (isTk_at (T:=T) (k:=k) (by have:=hlen.out;omega))
   by_cases hz:(tk T k).size=0
   ·obtain⟨e1,e2,e3⟩:=strE_yes hz
    have HZ:=Lib.hid hz
    clear hz
    go_enter Tryz.func94,Tryz.ntmps94
    go_wp2
    go_ret
    exact⟨ret_bool (by rw[HF.out];simp[HZ.out]),rfl⟩
   ·obtain⟨e1,e2,e3⟩:=strE_no hz
    have HZ:=Lib.hid hz
    clear hz
    go_enter Tryz.func94,Tryz.ntmps94
    go_wp2
    go_ret
    exact⟨ret_bool (by rw[HF.out];simp[HZ.out]),rfl⟩
  ·have HF:=Lib.hid (isTk_out (T:=T) (i:=(k:Int)) (by have:=hlen.out;omega))
   go_enter Tryz.func94,Tryz.ntmps94
   go_wp2
   go_ret
   exact⟨ret_bool HF.out.symm,rfl⟩
theorem ris_calls {T:List ByteArray} {ao:Option Addr} {n c:Nat} (i:Int) (w:World) (hT:SlS w ao n c T):
  Calls Tryz.prog 114 #[.slice ao n c, .int .i64 i] w fun e w'=>e= .returned (.bool (isTk T i))∧w=w':=by
 have hm:=Nat.le_trans (Sl.le hT) (Sl.max hT)
 unfold maxLen at hm
 have hlen:=Lib.hid hT.count
 by_cases h0:i<0
 ·have HF:=Lib.hid (isTk_neg (T:=T) h0)
  go_enter Tryz.func114,Tryz.ntmps114
  go_wp2
  go_ret
  exact⟨ret_bool HF.out.symm,rfl⟩
 ·obtain⟨k,rfl⟩:=Int.eq_ofNat_of_zero_le (Int.not_lt.1 h0)
  by_cases hk:k<n
  ·obtain⟨b,o,rfl,hc⟩:=hT.cell (tk_eq (T:=T) (i:=k) (by have:=hlen.out;omega))
   have HF:=Lib.hid (isTk_at (T:=T) (k:=k) (by have:=hlen.out;omega))
   by_cases hz:(tk T k).size=0
   ·obtain⟨e1,e2,e3⟩:=strE_yes hz
    have HZ:=Lib.hid hz
    clear hz
    go_enter Tryz.func114,Tryz.ntmps114
    go_wp2
    go_ret
    exact⟨ret_bool (by rw[HF.out];simp[HZ.out]),rfl⟩
   ·obtain⟨e1,e2,e3⟩:=strE_no hz
    have HZ:=Lib.hid hz
    clear hz
    go_enter Tryz.func114,Tryz.ntmps114
    go_wp2
    go_ret
    exact⟨ret_bool (by rw[HF.out];simp[HZ.out]),rfl⟩
  ·have HF:=Lib.hid (isTk_out (T:=T) (i:=(k:Int)) (by have:=hlen.out;omega))
   go_enter Tryz.func114,Tryz.ntmps114
   go_wp2
   go_ret
   exact⟨ret_bool HF.out.symm,rfl⟩
theorem T_none {T:List ByteArray} {s:ByteArray} {n k:Nat} (hl:T.length=n) (hk:¬k<n) (h:∀j,j<k→tk T j≠s):ofT T s= -1:=ofT_none fun j hj=>h j (by omega)
theorem rof_calls {T:List ByteArray} {ao:Option Addr} {n c:Nat} (s:ByteArray) (w:World) (hT:SlS w ao n c T):
  Calls Tryz.prog 109 #[.slice ao n c, .string s] w fun e w'=>e= .returned (.int .i64 (ofT T s))∧w=w':=by
 have hm:=Nat.le_trans (Sl.le hT) (Sl.max hT)
 unfold maxLen at hm
 have hlen:=Lib.hid hT.count
 by_cases hz:s.size=0
 ·obtain⟨e1,e2,e3⟩:=strE_yes hz
  have HF:=Lib.hid (ofT_empty T hz)
  clear hz
  go_enter Tryz.func109,Tryz.ntmps109
  go_wp2
  go_ret
  exact⟨ret_i64 HF.out.symm,rfl⟩
 ·obtain⟨e1,e2,e3⟩:=strE_no hz
  have HZ:=Lib.hid hz
  clear hz
  go_enter Tryz.func109,Tryz.ntmps109
  go_wp2
  go_loop [5,10] (fun _ i=>∃k:Nat,k≤n∧i= .int .i64 k∧Hid (∀j,j<k→tk T j≠s)) (fun _ i=>n-(intOf i).toNat)
  case atStart=>exact⟨0,Nat.zero_le _,rfl,Lib.hid (fun j h=>by omega)⟩
  case round=>
   obtain⟨k,hk,rfl,hno⟩:=hrel
   by_cases hlt:k<n
   ·obtain⟨b,o,rfl,hc⟩:=hT.cell (tk_eq (T:=T) (i:=k) (by have:=hlen.out;omega))
    by_cases hkk:tk T k=s
    ·have hb:=beqS_yes hkk
     have HF:=Lib.hid (ofT_some HZ.out (by have:=hlen.out;omega) hkk hno.out)
     clear hkk
     go_wp2
     go_ret
     exact⟨ret_i64 HF.out.symm,rfl⟩
    ·have hb:=beqS_no hkk
     have Hk:=Lib.hid hkk
     clear hkk
     go_wp2
     go_round
     case rel=>exact⟨k+1,by omega,by go_num,Lib.hid (fun j hj=>by
      by_cases ej:j=k
      ·subst ej;exact Hk.out
      ·exact hno.out j (by omega))⟩
     case measure=>simp[intOf];omega
   ·have HF:=Lib.hid (T_none hlen.out hlt hno.out)
    go_wp2
    go_ret
    exact⟨ret_i64 HF.out.symm,rfl⟩
theorem index_calls {T:List ByteArray} {ao:Option Addr} {n c:Nat} (s:ByteArray) (w:World) (hT:SlS w ao n c T) (hz:s.size≠0):
  Calls Tryz.prog 113 #[.slice ao n c, .string s] w fun e w'=>e= .returned (.int .i64 (ofT T s))∧w=w':=by
 have hm:=Nat.le_trans (Sl.le hT) (Sl.max hT)
 unfold maxLen at hm
 have hlen:=Lib.hid hT.count
 have HZ:=Lib.hid hz
 clear hz
 go_enter Tryz.func113,Tryz.ntmps113
 go_wp2
 go_loop [5,8] (fun _ i=>∃k:Nat,k≤n∧i= .int .i64 k∧Hid (∀j,j<k→tk T j≠s)) (fun _ i=>n-(intOf i).toNat)
 case atStart=>exact⟨0,Nat.zero_le _,rfl,Lib.hid (fun j h=>by omega)⟩
 case round=>
  obtain⟨k,hk,rfl,hno⟩:=hrel
  by_cases hlt:k<n
  ·obtain⟨b,o,rfl,hc⟩:=hT.cell (tk_eq (T:=T) (i:=k) (by have:=hlen.out;omega))
   by_cases hkk:tk T k=s
   ·have hb:=beqS_yes hkk.symm
    have HF:=Lib.hid (ofT_some HZ.out (by have:=hlen.out;omega) hkk hno.out)
    clear hkk
    go_wp2
    go_ret
    exact⟨ret_i64 HF.out.symm,rfl⟩
   ·have hb:=beqS_no (Ne.symm hkk)
    have Hk:=Lib.hid hkk
    clear hkk
    go_wp2
    go_round
    case rel=>exact⟨k+1,by omega,by go_num,Lib.hid (fun j hj=>by
     by_cases ej:j=k
     ·subst ej;exact Hk.out
     ·exact hno.out j (by omega))⟩
    case measure=>simp[intOf];omega
  ·have HF:=Lib.hid (T_none hlen.out hlt hno.out)
   go_wp2
   go_ret
   exact⟨ret_i64 HF.out.symm,rfl⟩
structure Vd where
 ta:Option Addr
 tn:Nat
 tc:Nat
 ma:Option Addr
 mn:Nat
 mc:Nat
 sa:Option Addr
 sn:Nat
 sc:Nat
abbrev Vd.val (d:Vd):Value:= .agg #[.slice d.ta d.tn d.tc, .slice d.ma d.mn d.mc, .slice d.sa d.sn d.sc]
def Mg.enc (m:Mg):List Value:=[.int .i64 m.left, .int .i64 m.right, .int .i64 m.out, .int .i64 m.order]
def Sp.enc (s:Sp):List Value:=[.string s.name, .int .i64 s.id]
theorem Mg.enc_len (m:Mg):m.enc.length=4:=rfl
theorem Sp.enc_len (m:Sp):m.enc.length=2:=rfl
structure VocR (w:World) (d:Vd) (V:Vc):Prop where
 tok:SlS w d.ta d.tn d.tc V.tokens
 mrg:SlF 4 w d.ma d.mn d.mc (flat Mg.enc V.merges)
 spc:SlF 2 w d.sa d.sn d.sc (flat Sp.enc V.specials)
theorem VocR.below {w w':World} {d:Vd} {V:Vc} (h:VocR w d V) (hb:Below w.heap.size w w'):VocR w' d V:=⟨Sl.below h.tok hb,h.mrg.below hb,h.spc.below hb⟩
theorem of_calls {V:Vc} {d:Vd} (s:ByteArray) (w:World) (hV:VocR w d V):
  Calls Tryz.prog 78 #[d.val, .string s] w fun e w'=>e= .returned (.int .i64 (ofT V.tokens s))∧Below w.heap.size w w':=by
 have hw:=below_alloc w (.cells #[.slice d.ta d.tn d.tc, .slice d.ma d.mn d.mc, .slice d.sa d.sn d.sc] 26)
 have HT:=Lib.hid (Sl.below hV.tok hw)
 have HW:=Lib.hid hw
 clear hw hV
 by_cases hz:s.size=0
 ·obtain⟨e1,e2,e3⟩:=strE_yes hz
  have HF:=Lib.hid (ofT_empty V.tokens hz)
  clear hz
  go_enter Tryz.func78,Tryz.ntmps78
  go_wp2
  go_ret
  exact⟨ret_i64 HF.out.symm,HW.out⟩
 ·obtain⟨e1,e2,e3⟩:=strE_no hz
  have HZ:=Lib.hid hz
  clear hz
  go_enter Tryz.func78,Tryz.ntmps78
  go_wp2_with (fail)
  refine(index_calls s _ HT.out HZ.out).mono ?_
  rintro e w' ⟨rfl,rfl⟩
  go_wp2
  go_ret
  exact⟨rfl,HW.out⟩
theorem zeroInt (w:World):(zeroValue 3).run Tryz.prog w= .ok (.int .i64 0) w:=by kernel_rfl
noncomputable abbrev VS:KeyView Tryz.prog 9 ByteArray:=strView Tryz.underlying9
abbrev MapS (w:World) (mb sz:Nat) (f:ByteArray→Option Int):Prop:=MapK VS 3 w mb sz f
section
variable {w:World} {ops:Array Oper} {rest:List Oper} {o:Oper} {a:Act} {Q:Exit→Act→World→Prop}
theorem wpList_ms_ok (hg:o.guard=none) (m x:Operand) (hop:o.op=Op.lookup 131 m x true) {mb sz:Nat} {f:ByteArray→Option Int} (hm:a.eval m= .map (some mb)) (h:MapS w mb sz f)
  {s:ByteArray} (hx:a.eval x= .string s) (hs:s.size≤maxLen)
  (hK:wpList Tryz.prog ops Q rest (a.put o.dst (.tuple #[.int .i64 ((f s).getD 0), .bool (f s).isSome])) w):wpList Tryz.prog ops Q (o::rest) a w:=
 wpList_mk_ok (V:=VS) Tryz.underlying131 Tryz.underlying3 zeroInt hg m x hop hm h (s:=s) hx hs hK
theorem wpList_ms_put (hg:o.guard=none) (m x v:Operand) (hop:o.op=Op.mapUpdate 131 m x v) {mb sz:Nat} {f:ByteArray→Option Int} (hm:a.eval m= .map (some mb)) (h:MapS w mb sz f)
  {s:ByteArray} (hx:a.eval x= .string s) (hs:s.size≤maxLen) {c:Int} (hv:a.eval v= .int .i64 c) (hc:(Lit.int .i64 c).wf=true) (hn:sz<maxLen)
  (hK:∀w',MapS w' mb (if(f s).isSome then sz else sz+1) (fun t=>if t=s then some c else f t)→w.grownBy w' (some mb)→wpList Tryz.prog ops Q rest (a.put o.dst undef) w'):wpList Tryz.prog ops Q (o::rest) a w:=
 wpList_mk_put (V:=VS) Tryz.underlying131 Tryz.underlying3 hg m x v hop hm h (s:=s) hx hs hv hc hn hK
end
def PlaceR (T:List ByteArray) (k:Nat) (f:ByteArray→Option Int):Prop:=∀s i,f s=some i↔s.size≠0∧∃j,j<k∧i=((j:Nat):Int)∧tk T j=s
def UniqTo (T:List ByteArray) (k:Nat):Prop:=∀i j,i<j→j<k→tk T i=tk T j→(tk T i).size=0
theorem PlaceR.zero (T:List ByteArray):PlaceR T 0 (fun _=>none):=fun s i=>⟨(fun h=>by cases h),fun⟨_,j,hj,_⟩=>by omega⟩
theorem UniqTo.zero (T:List ByteArray):UniqTo T 0:=fun i j h1 h2=>by omega
theorem PlaceR.skip {T:List ByteArray} {k:Nat} {f:ByteArray→Option Int} (h:PlaceR T k f) (hz:(tk T k).size=0):PlaceR T (k+1) f:=fun s i=>by
 rw[h s i]
 constructor
 ·rintro⟨h1,j,h2,h3⟩;exact⟨h1,j,by omega,h3⟩
 ·rintro⟨h1,j,h2,h3,h4⟩
  refine⟨h1,j,?_,h3,h4⟩
  have:j≠k:=fun e=>h1 (by rw[←h4,e];exact hz)
  omega
theorem UniqTo.skip {T:List ByteArray} {k:Nat} (h:UniqTo T k) (hz:(tk T k).size=0):UniqTo T (k+1):=fun i j h1 h2 e=>by
 by_cases hj:j=k
 ·rw[e,hj];exact hz
 ·exact h i j h1 (by omega) e
theorem PlaceR.put {T:List ByteArray} {k:Nat} {f:ByteArray→Option Int} (h:PlaceR T k f) (hz:(tk T k).size≠0) (hf:f (tk T k)=none):PlaceR T (k+1) (fun t=>if t=tk T k then some (k:Int)else f t):=fun s i=>by
 show(if s=tk T k then some (k:Int)else f s)=some i↔_
 by_cases e:s=tk T k
 ·rw[if_pos e]
  constructor
  ·intro h1;simp at h1;exact⟨by rw[e];exact hz,k,by omega,h1.symm,e.symm⟩
  ·rintro⟨h1,j,h2,h3,h4⟩
   by_cases hj:j=k
   ·rw[h3,hj]
   ·have:f s=some i:=(h s i).2 ⟨h1,j,by omega,h3,h4⟩
    rw[e,hf]at this;cases this
 ·rw[if_neg e,h s i]
  constructor
  ·rintro⟨h1,j,h2,h3⟩;exact⟨h1,j,by omega,h3⟩
  ·rintro⟨h1,j,h2,h3,h4⟩
   have:j≠k:=fun ej=>e (by rw[←h4,ej])
   exact⟨h1,j,by omega,h3,h4⟩
theorem UniqTo.put {T:List ByteArray} {k:Nat} {f:ByteArray→Option Int} (h:UniqTo T k) (hp:PlaceR T k f) (hz:(tk T k).size≠0) (hf:f (tk T k)=none):UniqTo T (k+1):=fun i j h1 h2 e=>by
 by_cases hj:j=k
 ·subst hj
  have:f (tk T j)=some (i:Int):=(hp _ _).2 ⟨hz,i,h1,rfl,e⟩
  rw[hf]at this;cases this
 ·exact h i j h1 (by omega) e
theorem PlaceR.twice {T:List ByteArray} {k:Nat} {f:ByteArray→Option Int} (hp:PlaceR T k f) (hk:k<T.length) {i:Int} (hf:f (tk T k)=some i):¬Uniq T:=fun hu=>by
 obtain⟨h1,j,h2,h3,h4⟩:=(hp _ _).1 hf
 exact h1 (by rw[←h4];exact hu j k h2 hk h4)
theorem UniqTo.all {T:List ByteArray} {k n:Nat} (h:UniqTo T k) (hl:T.length=n) (hk:¬k<n):Uniq T:=fun i j h1 h2 e=>h i j h1 (by omega) e
theorem PlaceR.all {T:List ByteArray} {k n:Nat} {f:ByteArray→Option Int} (h:PlaceR T k f) (hk:k≤n) (hk2:¬k<n):PlaceR T n f:=by
 obtain rfl:k=n:=by omega
 exact h
theorem PlaceR.of {T:List ByteArray} {n:Nat} {f:ByteArray→Option Int} (h:PlaceR T n f) (hl:T.length=n) (hu:Uniq T) (s:ByteArray):f s=if 0≤ofT T s then some (ofT T s)else none:=by
 rcases ofT_cases T s with⟨h0,e⟩ | ⟨h0,⟨i,hi,h1,h2,e⟩⟩ | ⟨h0,h1,e⟩
 ·rw[e,if_neg (by omega)]
  cases hf:f s with
  | none=>rfl
  | some i=>exact absurd h0 ((h s i).1 hf).1
 ·rw[e,if_pos (by omega)]
  exact(h s i).2 ⟨h0,i,by omega,rfl,h1⟩
 ·rw[e,if_neg (by omega)]
  cases hf:f s with
  | none=>rfl
  | some i=>
   obtain⟨_,j,h2,_,h4⟩:=(h s i).1 hf
   exact absurd h4 (h1 j (by omega))
def PlacesPost (T:List ByteArray) (w:World) (e:Ending) (w':World):Prop:=
 ((Uniq T∧∃mb sz f,e= .returned (.tuple #[.map (some mb), .bool true])∧w.heap.size≤mb∧MapS w' mb sz f∧PlaceR T T.length f)∨(¬Uniq T∧e= .returned (.tuple #[.map none, .bool false])))∧Below w.heap.size w w'
theorem places_calls {T:List ByteArray} {ao:Option Addr} {n c:Nat} (w:World) (hT:SlS w ao n c T) (hsz:∀s∈T,s.size≤maxLen) (hn:n≤1048576):
  Calls Tryz.prog 168 #[.slice ao n c] w (PlacesPost T w):=by
 have hm:=Nat.le_trans (Sl.le hT) (Sl.max hT)
 unfold maxLen at hm
 have hlen:=Lib.hid hT.count
 have hmm:=@run_makeMap Tryz.prog
 have HT:=Lib.hid hT
 have HS:=Lib.hid hsz
 have H0:=Lib.hid (MapK.new VS 3 w)
 have HB0:=Lib.hid (below_alloc w (.map #[] 0))
 clear hT hsz
 go_enter Tryz.func168,Tryz.ntmps168
 go_wp2
 go_loopw [5,6,7,8,12] (fun _ _ _ _ i wr=>∃(k sz:Nat) (f:ByteArray→Option Int),k≤n∧i= .int .i64 k∧sz≤k∧MapS wr w.heap.size sz f∧Hid (PlaceR T k f)∧Hid (UniqTo T k)∧Below w.heap.size w wr) (fun _ _ _ _ i _=>n-(intOf i).toNat)
 case atStart=>exact⟨0,0,_,Nat.zero_le _,rfl,Nat.le_refl _,H0.out,Lib.hid (PlaceR.zero T),Lib.hid (UniqTo.zero T),HB0.out⟩
 case round=>
  obtain⟨k,sz,f,hk,rfl,hszk,hmap,HP,HU,hb⟩:=hrel
  have HM:=Lib.hid hmap
  have HB:=Lib.hid hb
  clear hmap hb
  by_cases hlt:k<n
  ·have hkT:k<T.length:=by have:=hlen.out;omega
   obtain⟨b,o,rfl,hc⟩:=SlS.cell (Sl.below HT.out HB.out) (tk_eq (T:=T) (i:=k) hkT)
   have hks:=Lib.hid (HS.out _ (tk_mem hkT))
   by_cases hz:(tk T k).size=0
   ·obtain⟨e1,e2,e3⟩:=strE_yes hz
    have HP2:=Lib.hid (HP.out.skip hz)
    have HU2:=Lib.hid (HU.out.skip hz)
    clear hz
    go_wp2
    go_roundw
    case rel=>exact⟨k+1,sz,f,by omega,by go_num,by omega,HM.out,HP2,HU2,HB.out⟩
    case measure=>simp[intOf];omega
   ·obtain⟨e1,e2,e3⟩:=strE_no hz
    have HZ:=Lib.hid hz
    clear hz
    cases hf:f (tk T k)with
    | some i=>
     have hnu:=Lib.hid (HP.out.twice hkT hf)
     go_wp2_with (with_reducible show wpList _ _ _ (⟨_, .lookup _ _ _ _,_,_,_,_⟩::_) _ _;refine wpList_ms_ok rfl _ _ rfl rfl HM.out rfl hks.out ?_;rw[hf])
     go_ret2
     exact⟨.inr ⟨hnu.out,rfl⟩,HB.out⟩
    | none=>
     have HP2:=Lib.hid (HP.out.put HZ.out hf)
     have HU2:=Lib.hid (HU.out.put HP.out HZ.out hf)
     have hwf:(Lit.int .i64 (k:Int)).wf=true:=by rw[i64_wf];omega
     go_wp2_with (first
      | (with_reducible show wpList _ _ _ (⟨_, .lookup _ _ _ _,_,_,_,_⟩::_) _ _;refine wpList_ms_ok rfl _ _ rfl rfl HM.out rfl hks.out ?_;rw[hf])
      | (with_reducible show wpList _ _ _ (⟨_, .mapUpdate _ _ _ _,_,_,_,_⟩::_) _ _;refine wpList_ms_put rfl _ _ _ rfl rfl HM.out rfl hks.out rfl hwf (by unfold maxLen;omega) ?_))
     intro w2 hm2 hg2
     have HM2:=Lib.hid hm2
     have HB2:=Lib.hid (HB.out.grown hg2 HB.out.size fun q hq=>by simp at hq;omega)
     clear hm2 hg2
     go_wp2
     go_roundw
     case rel=>exact⟨k+1,_,_,by omega,by go_num,by omega,HM2.out,HP2,HU2,HB2.out⟩
     case measure=>simp[intOf];omega
  ·have HF:=Lib.hid (HU.out.all hlen.out hlt)
   have HP2:=Lib.hid (HP.out.all hk hlt)
   go_wp2
   go_ret2
   exact⟨.inl ⟨HF.out,_,_,_,rfl,Nat.le_refl _,HM.out,by rw[hlen.out];exact HP2.out⟩,HB.out⟩
theorem long_calls (s:ByteArray) (hs:s.size≤maxLen) (w:World):
  Calls Tryz.prog 167 #[.string s] w fun e w'=>e= .returned (.bool (decide (64<s.size)))∧w=w':=by
 unfold maxLen at hs
 by_cases h:(64:Int)<s.size
 ·have h2:64<s.size:=by omega
  go_enter Tryz.func167,Tryz.ntmps167
  go_wp2
  go_ret
  exact⟨ret_bool (by simp;omega),rfl⟩
 ·have h2:¬64<s.size:=by omega
  go_enter Tryz.func167,Tryz.ntmps167
  go_wp2
  go_ret
  exact⟨ret_bool (by simp),rfl⟩
def LongPost (T:List ByteArray) (w:World) (e:Ending) (w':World):Prop:=(∃i:Int,e= .returned (.int .i64 i)∧(0≤i↔∃s∈T,64<s.size))∧w=w'
theorem indexLong_calls {T:List ByteArray} {ao:Option Addr} {n c:Nat} (w:World) (hT:SlS w ao n c T) (hsz:∀s∈T,s.size≤maxLen):
  Calls Tryz.prog 180 #[.slice ao n c, .func (.func 167) #[] #[]] w (LongPost T w):=by
 have hm:=Nat.le_trans (Sl.le hT) (Sl.max hT)
 unfold maxLen at hm
 have hlen:=Lib.hid hT.count
 have HS:=Lib.hid hsz
 clear hsz
 go_enter Tryz.func180,Tryz.ntmps180
 go_wp2
 go_loop [5,8] (fun _ i=>∃k:Nat,k≤n∧i= .int .i64 k∧Hid (∀j,j<k→¬64<(tk T j).size)) (fun _ i=>n-(intOf i).toNat)
 case atStart=>exact⟨0,Nat.zero_le _,rfl,Lib.hid (fun j h=>by omega)⟩
 case round=>
  obtain⟨k,hk,rfl,hno⟩:=hrel
  by_cases hlt:k<n
  ·have hkT:k<T.length:=by have:=hlen.out;omega
   obtain⟨b,o,rfl,hc⟩:=hT.cell (tk_eq (T:=T) (i:=k) hkT)
   have hks:=Lib.hid (HS.out _ (tk_mem hkT))
   go_wp2_with (fail)
   refine(long_calls (tk T k) hks.out w).mono ?_
   rintro e w' ⟨rfl,rfl⟩
   by_cases hl:64<(tk T k).size
   ·have hfin:Hid ((0:Int)≤(k:Int)↔∃s∈T,64<s.size):=Lib.hid ⟨fun _=>⟨_,tk_mem hkT,hl⟩,fun _=>by omega⟩
    go_wp2
    go_ret
    exact⟨⟨_,rfl,hfin.out⟩,rfl⟩
   ·have hno2:Hid (∀j,j<k+1→¬64<(tk T j).size):=Lib.hid (fun j hj=>by
     by_cases ej:j=k
     ·subst ej;exact hl
     ·exact hno.out j (by omega))
    go_wp2
    go_round
    case rel=>exact⟨k+1,by omega,by go_num,hno2⟩
    case measure=>simp[intOf];omega
  ·have hfin:Hid ((0:Int)≤ -1↔∃s∈T,64<s.size):=Lib.hid ⟨fun h=>by omega,fun⟨s,hs,h⟩=>by
    obtain⟨j,hj,rfl⟩:=mem_tk hs
    exact absurd h (hno.out j (by have:=hlen.out;omega))⟩
   go_wp2
   go_ret
   exact⟨⟨_,rfl,hfin.out⟩,rfl⟩
theorem containsLong_calls {T:List ByteArray} {ao:Option Addr} {n c:Nat} (w:World) (hT:SlS w ao n c T) (hsz:∀s∈T,s.size≤maxLen):
  Calls Tryz.prog 166 #[.slice ao n c, .func (.func 167) #[] #[]] w fun e w'=>(∃b,e= .returned (.bool b)∧(b=true↔∃s∈T,64<s.size))∧w=w':=by
 go_enter Tryz.func166,Tryz.ntmps166
 go_wp2_with (fail)
 refine(indexLong_calls w hT hsz).mono ?_
 rintro e w' ⟨⟨i,rfl,hi⟩,rfl⟩
 have HI:=Lib.hid hi
 clear hi
 go_wp2
 go_ret
 exact⟨⟨_,rfl,by simp[HI.out]⟩,rfl⟩
def MayTokPost (T:List ByteArray) (w:World) (e:Ending) (w':World):Prop:=(∃b,e= .returned (.bool b)∧(b=true↔MayTok T))∧Below w.heap.size w w'
theorem notMayTok_long {T:List ByteArray} (h:4096<T.length):(false=true↔MayTok T):=⟨(fun h=>by cases h),fun h2=>by have:=h2.1;omega⟩
theorem notMayTok_tok {T:List ByteArray} (h:∃s∈T,64<s.size):(false=true↔MayTok T):=⟨(fun h=>by cases h),fun h2=>by obtain⟨s,hs,h⟩:=h;have:=h2.2.1 s hs;omega⟩
theorem notMayTok_uniq {T:List ByteArray} (h:¬Uniq T):(false=true↔MayTok T):=⟨(fun h=>by cases h),fun h2=>absurd h2.2.2.1 h⟩
theorem notMayTok_byte {T:List ByteArray} {b:Nat} (hb:b<256) (h:one b∉T):(false=true↔MayTok T):=⟨(fun h=>by cases h),fun h2=>absurd (h2.2.2.2 b hb) h⟩
theorem mayTok_yes {T:List ByteArray} (h1:T.length≤4096) (h2:∀s∈T,s.size≤64) (h3:Uniq T) (h4:∀b,b<256→one b∈T):MayTok T:=⟨h1,h2,h3,h4⟩
theorem one_size (b:Nat):(one b).size=1:=rfl
theorem one_maxLen (b:Nat):(one b).size≤maxLen:=by rw[one_size];unfold maxLen;omega
theorem PlaceR.one_in {T:List ByteArray} {f:ByteArray→Option Int} (h:PlaceR T T.length f) (b:Nat):(f (one b)).isSome=true↔one b∈T:=by
 constructor
 ·intro h1
  obtain⟨i,hi⟩:=Option.isSome_iff_exists.1 h1
  obtain⟨_,j,h2,_,h4⟩:=(h _ _).1 hi
  rw[←h4];exact tk_mem h2
 ·intro h1
  obtain⟨j,hj,e⟩:=mem_tk h1
  have:f (one b)=some (j:Int):=(h _ _).2 ⟨by rw[one_size];omega,j,hj,rfl,e⟩
  rw[this];rfl
theorem lawStr:Go.Maps.Keyed Tryz.prog 9:=Go.Maps.string_keyed Tryz.underlying9
theorem conv_one (w:World) (k:Nat):(convert 121 9 (.slice (some ⟨w.heap.size,0,none⟩) 1 1)).run Tryz.prog (w.alloc (.cells #[.int .u8 (k:Int)] 5))= .ok (.string (one k)) (w.alloc (.cells #[.int .u8 (k:Int)] 5)):=by
 rw[run_convert_bytes_string (P:=Tryz.prog) _ 121 9 5 _ _ _ Tryz.underlying121 Tryz.underlying5 Tryz.underlying9]
 rw[run_bytesToString _ _ _ _ [(k:Int)] (by
  exact run_loadCells_list (w:=w.alloc (.cells #[.int .u8 (k:Int)] 5)) (P:=Tryz.prog) ⟨w.heap.size,0,none⟩ [.int .u8 (k:Int)] (fun j v hj=>by
   match j,hj with
   | 0,hj=>simp at hj;subst hj;rw[Addr.add_lit];simp
   | j+1,hj=>simp at hj))]
 rfl
theorem mayTokens_calls {T:List ByteArray} {ao:Option Addr} {n c:Nat} (w:World) (hT:SlS w ao n c T) (hsz:∀s∈T,s.size≤maxLen):
  Calls Tryz.prog 143 #[.slice ao n c] w (MayTokPost T w):=by
 have hm:=Nat.le_trans (Sl.le hT) (Sl.max hT)
 unfold maxLen at hm
 have hlen:=Lib.hid hT.count
 have HT:=Lib.hid hT
 have HS:=Lib.hid hsz
 clear hT hsz
 by_cases hl:(4096:Int)<n
 ·have HF:=Lib.hid (notMayTok_long (T:=T) (by have:=hlen.out;omega))
  go_enter Tryz.func143,Tryz.ntmps143
  go_wp2_with (fail)
  go_ret
  exact⟨⟨_,rfl,HF.out⟩,Below.refl _ _⟩
 ·go_enter Tryz.func143,Tryz.ntmps143
  go_wp2_with (fail)
  refine(containsLong_calls w HT.out HS.out).mono ?_
  rintro e w' ⟨⟨b,rfl,hb⟩,rfl⟩
  cases b with
  | true=>
   have HF:=Lib.hid (notMayTok_tok (hb.1 rfl))
   clear hb
   go_wp2
   go_ret
   exact⟨⟨_,rfl,HF.out⟩,Below.refl _ _⟩
  | false=>
   have H64:Hid (∀s∈T,s.size≤64):=Lib.hid (fun s hs=>by
    rcases Nat.lt_or_ge 64 s.size with h | h
    ·have:=hb.2 ⟨s,hs,h⟩;cases this
    ·exact h)
   clear hb
   go_wp2_with (fail)
   refine(places_calls _ HT.out HS.out (by omega)).mono ?_
   rintro e w1 ⟨⟨hu,mb,sz,f,rfl,hmb,hmap,hpl⟩ | ⟨hnu,rfl⟩,hb1⟩
   ·have HU:=Lib.hid hu
    have HM:=Lib.hid hmap
    have HP:=Lib.hid hpl
    have HB1:=Lib.hid hb1
    clear hu hmap hpl hb1
    go_wp2
    go_loopw [5,6,7,20] (fun _ _ _ i wr=>∃k:Nat,k≤256∧i= .int .i64 k∧Below w.heap.size w wr∧MapS wr mb sz f∧Hid (∀b,b<k→one b∈T)) (fun _ _ _ i _=>256-(intOf i).toNat)
    case atStart=>exact⟨0,by omega,rfl,HB1.out,HM.out,Lib.hid (fun b hb=>by omega)⟩
    case round=>
     obtain⟨k,hk,rfl,hb,hmap,hall⟩:=hrel
     have HB:=Lib.hid hb
     have HM2:=Lib.hid hmap
     clear hb hmap
     by_cases hlt:k<256
     ·have hw8:IntKind.u8.wrap (k:Int)=(k:Int):=by rw[IntKind.wrap_u8];omega
      have hcv:=conv_one wr k
      have HB3:=Lib.hid (HB.out.alloc HB.out.size (.cells #[.int .u8 (k:Int)] 5))
      have HM3:=Lib.hid (HM2.out.alloc (.cells #[.int .u8 (k:Int)] 5))
      cases hf:(f (one k)).isSome with
      | true=>
       have hin:Hid (∀b,b<k+1→one b∈T):=Lib.hid (fun b hb=>by
        by_cases e:b=k
        ·subst e;exact(HP.out.one_in b).1 hf
        ·exact hall.out b (by omega))
       go_wp2_with (with_reducible show wpList _ _ _ (⟨_, .lookup _ _ _ _,_,_,_,_⟩::_) _ _;refine wpList_ms_ok rfl _ _ rfl rfl HM3.out rfl (one_maxLen k) ?_;rw[hf])
       go_roundw
       case rel=>exact⟨k+1,by omega,by go_num,HB3.out,HM3.out,hin⟩
       case measure=>simp[intOf];omega
      | false=>
       have HF:=Lib.hid (notMayTok_byte hlt (fun h=>by rw[(HP.out.one_in k).2 h]at hf;cases hf))
       go_wp2_with (with_reducible show wpList _ _ _ (⟨_, .lookup _ _ _ _,_,_,_,_⟩::_) _ _;refine wpList_ms_ok rfl _ _ rfl rfl HM3.out rfl (one_maxLen k) ?_;rw[hf])
       go_ret
       exact⟨⟨_,rfl,HF.out⟩,HB3.out⟩
     ·have HF:=Lib.hid (mayTok_yes (by have:=hlen.out;omega) H64.out HU.out (fun b hb=>hall.out b (by omega)))
      go_wp2
      go_ret
      exact⟨⟨_,rfl,(fun _=>HF.out),(fun _=>rfl)⟩,HB.out⟩
   ·have HF:=Lib.hid (notMayTok_uniq hnu)
    have HB1:=Lib.hid hb1
    have hcv:=conv_one w1 0
    rw[show((0:Nat):Int)=0 from rfl]at hcv
    have HB3:=Lib.hid (HB1.out.alloc HB1.out.size (.cells #[.int .u8 ((0:Nat):Int)] 5))
    have hlk:=fun w:World=>Go.Maps.look_nil (P:=Tryz.prog) (w:=w) true lawStr Tryz.underlying131 (zeroInt w) (key:= .string (one 0)) (keyOf_string_mk Tryz.underlying9 (one_maxLen 0))
    clear hnu hb1
    go_wp2
    go_loopw [5,6,7,20] (fun _ _ _ i wr=>i= .int .i64 0∧wr=w1) (fun _ _ _ i _=>0)
    case atStart=>exact⟨rfl,rfl⟩
    case round=>
     obtain⟨rfl,rfl⟩:=hrel
     go_wp2
     go_ret
     exact⟨⟨_,rfl,HF.out⟩,HB3.out⟩
def GoodTo (T:List ByteArray) (k:Nat):Prop:=∀j,j<k→(tk T j).size≤64∧((tk T j).size≠0→ofT T (tk T j)=j)
theorem GoodTo.uniq {T:List ByteArray} (h:GoodTo T T.length):Uniq T:=fun i j h1 h2 e=>by
 by_cases hz:(tk T i).size=0
 ·exact hz
 ·have a:=(h i (by omega)).2 hz
  have b:=(h j h2).2 (by rw[←e];exact hz)
  rw[←e,a]at b
  omega
theorem GoodTo.next {T:List ByteArray} {k:Nat} (h:GoodTo T k) (h1:(tk T k).size≤64) (h2:(tk T k).size≠0→ofT T (tk T k)=k):GoodTo T (k+1):=fun j hj=>by
 by_cases e:j=k
 ·subst e;exact⟨h1,h2⟩
 ·exact h j (by omega)
theorem not_uniq {T:List ByteArray} {k:Nat} (hk:k<T.length) (hz:(tk T k).size≠0) (h:ofT T (tk T k)≠k):¬Uniq T:=fun hu=>h (hu.of hk hz)
theorem ofT_one {T:List ByteArray} {b:Nat}:ofT T (one b)<0↔one b∉T:=by
 rcases ofT_cases T (one b)with⟨h0,_⟩ | ⟨_,⟨i,hi,h1,_,e⟩⟩ | ⟨_,h1,e⟩
 ·rw[one_size]at h0;omega
 ·rw[e]
  constructor
  ·intro h;omega
  ·intro h;exact absurd (h1▸tk_mem hi) h
 ·rw[e]
  constructor
  ·intro _ h
   obtain⟨j,hj,e2⟩:=mem_tk h
   exact h1 j hj e2
  ·intro _;omega
theorem rmayTokens_calls {T:List ByteArray} {ao:Option Addr} {n c:Nat} (w:World) (hT:SlS w ao n c T) (hsz:∀s∈T,s.size≤maxLen):
  Calls Tryz.prog 82 #[.slice ao n c] w (MayTokPost T w):=by
 have hm:=Nat.le_trans (Sl.le hT) (Sl.max hT)
 unfold maxLen at hm
 have hlen:=Lib.hid hT.count
 have HT:=Lib.hid hT
 have HS:=Lib.hid hsz
 clear hT hsz
 by_cases hl:(4096:Int)<n
 ·have HF:=Lib.hid (notMayTok_long (T:=T) (by have:=hlen.out;omega))
  go_enter Tryz.func82,Tryz.ntmps82
  go_wp2_with (fail)
  go_ret
  exact⟨⟨_,rfl,HF.out⟩,Below.refl _ _⟩
 ·go_enter Tryz.func82,Tryz.ntmps82
  go_wp2_with (fail)
  go_loop [3,10] (fun _ i=>∃k:Nat,k≤n∧i= .int .i64 k∧Hid (GoodTo T k)) (fun _ i=>n-(intOf i).toNat)
  case atStart=>exact⟨0,Nat.zero_le _,rfl,Lib.hid (fun j h=>by omega)⟩
  case round=>
   obtain⟨k,hk,rfl,hg⟩:=hrel
   by_cases hlt:k<n
   ·have hkT:k<T.length:=by have:=hlen.out;omega
    obtain⟨b,o,rfl,hc⟩:=SlS.cell HT.out (tk_eq (T:=T) (i:=k) hkT)
    have hks:=HS.out _ (tk_mem hkT)
    unfold maxLen at hks
    by_cases h64:(64:Int)<(tk T k).size
    ·have HF:=Lib.hid (notMayTok_tok ⟨_,tk_mem hkT,by omega⟩)
     go_wp2_with (fail)
     go_ret
     exact⟨⟨_,rfl,HF.out⟩,Below.refl _ _⟩
    ·have h64':(tk T k).size≤64:=by omega
     by_cases hz:(tk T k).size=0
     ·obtain⟨e1,e2,e3⟩:=strE_yes hz
      have hg2:=Lib.hid (hg.out.next h64' (fun h=>absurd hz h))
      clear hz
      go_wp2_with (fail)
      go_round
      case rel=>exact⟨k+1,by omega,by go_num,hg2⟩
      case measure=>simp[intOf];omega
     ·obtain⟨e1,e2,e3⟩:=strE_no hz
      have HZ:=Lib.hid hz
      clear hz
      go_wp2_with (fail)
      refine(rof_calls (tk T k) w HT.out).mono ?_
      rintro e w' ⟨rfl,rfl⟩
      by_cases he:ofT T (tk T k)=k
      ·have hg2:=Lib.hid (hg.out.next h64' (fun _=>he))
       rw[he]
       have hne:((k:Int) != (k:Int))=false:=by simp
       clear he
       go_wp2_with (fail)
       go_round
       case rel=>exact⟨k+1,by omega,by go_num,hg2⟩
       case measure=>simp[intOf];omega
      ·have HF:=Lib.hid (notMayTok_uniq (not_uniq hkT HZ.out he))
       have hne:(ofT T (tk T k) != (k:Int))=true:=by simpa using he
       clear he
       go_wp2_with (fail)
       go_ret
       exact⟨⟨_,rfl,HF.out⟩,Below.refl _ _⟩
   ·have HG:Hid (GoodTo T T.length):=Lib.hid (by rw[hlen.out];have:n=k:=(by omega);rw[this];exact hg.out)
    go_wp2_with (fail)
    go_loopw [4] (fun i wr=>∃k:Nat,k≤256∧i= .int .i64 k∧Below w.heap.size w wr∧Hid (∀b,b<k→one b∈T)) (fun i _=>256-(intOf i).toNat)
    case atStart=>exact⟨0,by omega,rfl,Below.refl _ _,Lib.hid (fun b hb=>by omega)⟩
    case round=>
     obtain⟨q,hq,rfl,hb,hall⟩:=hrel
     have HB:=Lib.hid hb
     clear hb
     by_cases hlt:q<256
     ·have hw8:IntKind.u8.wrap (q:Int)=(q:Int):=by rw[IntKind.wrap_u8];omega
      have hcv:=conv_one wr q
      have HB3:=Lib.hid (HB.out.alloc HB.out.size (.cells #[.int .u8 (q:Int)] 5))
      go_wp2_with (fail)
      refine(rof_calls (one q) _ (Sl.below HT.out HB3.out)).mono ?_
      rintro e w' ⟨rfl,rfl⟩
      by_cases hneg:ofT T (one q)<0
      ·have HF:=Lib.hid (notMayTok_byte hlt (ofT_one.1 hneg))
       go_wp2_with (fail)
       go_ret
       exact⟨⟨_,rfl,HF.out⟩,HB3.out⟩
      ·have hin:Hid (∀b,b<q+1→one b∈T):=Lib.hid (fun b hb=>by
        by_cases e:b=q
        ·subst e
         exact Classical.byContradiction fun h=>hneg (ofT_one.2 h)
        ·exact hall.out b (by omega))
       go_wp2_with (fail)
       go_roundw
       case rel=>exact⟨q+1,by omega,by go_num,HB3.out,hin⟩
       case measure=>simp[intOf];omega
     ·have HF:=Lib.hid (mayTok_yes (T:=T) (by have:=hlen.out;omega) (fun s hs=>by obtain⟨j,hj,rfl⟩:=mem_tk hs;exact(HG.out j hj).1) HG.out.uniq (fun b hb=>hall.out b (by omega)))
      go_wp2_with (fail)
      go_ret
      exact⟨⟨_,rfl,(fun _=>HF.out),(fun _=>rfl)⟩,HB.out⟩
def cmpI (a b:Int):Int:=if a<b then -1 else if b<a then 1 else 0
theorem cmpI_lt {a b:Int} (h:a<b):cmpI a b= -1:=by unfold cmpI;rw[if_pos h]
theorem cmpI_gt {a b:Int} (h:b<a):cmpI a b=1:=by unfold cmpI;rw[if_neg (by omega),if_pos h]
theorem cmpI_eq (a:Int):cmpI a a=0:=by unfold cmpI;rw[if_neg (by omega),if_neg (by omega)]
def orI (a b c:Int):Int:=if a≠0 then a else if b≠0 then b else c
theorem compareI_calls (a b:Int) (w:World):Calls Tryz.prog 182 #[.int .i64 a, .int .i64 b] w fun e w'=>e= .returned (.int .i64 (cmpI a b))∧w=w':=by
 have ha:(a != a)=false:=by simp
 have hb:(b != b)=false:=by simp
 rcases Int.lt_trichotomy a b with h | h | h
 ·have HF:=Lib.hid (cmpI_lt h)
  go_enter Tryz.func182,Tryz.ntmps182
  go_wp2
  go_ret
  exact⟨ret_i64 HF.out.symm,rfl⟩
 ·subst h
  have HF:=Lib.hid (cmpI_eq a)
  go_enter Tryz.func182,Tryz.ntmps182
  go_wp2
  go_ret
  exact⟨ret_i64 HF.out.symm,rfl⟩
 ·have HF:=Lib.hid (cmpI_gt h)
  have h2:¬a<b:=by omega
  go_enter Tryz.func182,Tryz.ntmps182
  go_wp2
  go_ret
  exact⟨ret_i64 HF.out.symm,rfl⟩
theorem orI_first {a b c:Int} (h:a≠0):orI a b c=a:=by unfold orI;rw[if_pos h]
theorem orI_second {a b c:Int} (h:a=0) (h2:b≠0):orI a b c=b:=by unfold orI;rw[if_neg (by omega),if_pos h2]
theorem orI_third {a b c:Int} (h:a=0) (h2:b=0):orI a b c=c:=by unfold orI;rw[if_neg (by omega),if_neg (by omega)]
def nz (A:List Int):Int:=(A.find? (fun x=>decide (x≠0))).getD 0
theorem nz_at {A:List Int} {k:Nat} (hk:k<A.length) (h:∀j,j<k→ix A j=0) (h2:ix A k≠0):nz A=ix A k:=by
 unfold nz
 have:A.find? (fun x=>decide (x≠0))=some (ix A k):=by
  rw[List.find?_eq_some_iff_getElem]
  refine⟨by simpa using h2,k,hk,?_,fun j hj=> ?_⟩
  ·have:=ix_eq hk;rw[List.getElem?_eq_getElem hk]at this;exact Option.some.inj this
  ·have e:A[j]'(by omega)=ix A j:=by have:=ix_eq (A:=A) (i:=j) (by omega);rw[List.getElem?_eq_getElem (by omega)]at this;exact Option.some.inj this
   rw[e,h j hj];simp
 rw[this];rfl
theorem nz_none {A:List Int} (h:∀j,j<A.length→ix A j=0):nz A=0:=by
 unfold nz
 have:A.find? (fun x=>decide (x≠0))=none:=by
  rw[List.find?_eq_none]
  intro x hx
  obtain⟨j,hj,rfl⟩:=List.getElem_of_mem hx
  have e:A[j]=ix A j:=by have:=ix_eq hj;rw[List.getElem?_eq_getElem hj]at this;exact Option.some.inj this
  rw[e,h j hj];simp
 rw[this];rfl
theorem nz_three (a b c:Int):nz [a,b,c]=orI a b c:=by
 unfold nz orI
 by_cases h1:a=0<;>by_cases h2:b=0<;>by_cases h3:c=0<;>simp[List.find?,h1,h2,h3]
theorem or_calls {A:List Int} {ao:Option Addr} {n c:Nat} (w:World) (hA:SlI w ao n c A):Calls Tryz.prog 181 #[.slice ao n c] w fun e w'=>e= .returned (.int .i64 (nz A))∧w=w':=by
 have hm:=Nat.le_trans (Sl.le hA) (Sl.max hA)
 unfold maxLen at hm
 have hlen:=Lib.hid hA.len
 go_enter Tryz.func181,Tryz.ntmps181
 go_wp2
 go_loop [5,8] (fun _ i=>∃k:Nat,k≤n∧i= .int .i64 k∧Hid (∀j,j<k→ix A j=0)) (fun _ i=>n-(intOf i).toNat)
 case atStart=>exact⟨0,Nat.zero_le _,rfl,Lib.hid (fun j h=>by omega)⟩
 case round=>
  obtain⟨k,hk,rfl,hno⟩:=hrel
  by_cases hlt:k<n
  ·obtain⟨b1,o1,rfl,c1⟩:=hA.at_ hlt
   by_cases hz:ix A k=0
   ·have hb:(ix A k != 0)=false:=by simpa using hz
    have hno2:Hid (∀j,j<k+1→ix A j=0):=Lib.hid (fun j hj=>by
     by_cases e:j=k
     ·subst e;exact hz
     ·exact hno.out j (by omega))
    clear hz
    go_wp2
    go_round
    case rel=>exact⟨k+1,by omega,by go_num,hno2⟩
    case measure=>simp[intOf];omega
   ·have hb:(ix A k != 0)=true:=by simpa using hz
    have HF:=Lib.hid (nz_at (by rw[hlen.out];exact hlt) hno.out hz)
    clear hz
    go_wp2
    go_ret
    exact⟨ret_i64 HF.out.symm,rfl⟩
  ·have HF:=Lib.hid (nz_none (A:=A) (fun j hj=>hno.out j (by rw[hlen.out]at hj;omega)))
   go_wp2
   go_ret
   exact⟨ret_i64 HF.out.symm,rfl⟩
open Go.RowKit Go.Sort
def cmpM (a b:Mg):Int:=orI (cmpI a.order b.order) (cmpI a.left b.left) (cmpI a.right b.right)
theorem cmpM_lt {a b:Mg}:cmpM a b<0↔ahead a b=true:=by
 rw[ahead_iff]
 unfold cmpM
 rcases Int.lt_trichotomy a.order b.order with h | h | h
 ·rw[cmpI_lt h,orI_first (by omega)];omega
 ·rw[h,cmpI_eq]
  rcases Int.lt_trichotomy a.left b.left with h2 | h2 | h2
  ·rw[cmpI_lt h2,orI_second rfl (by omega)];omega
  ·rw[h2,cmpI_eq,orI_third rfl rfl]
   rcases Int.lt_trichotomy a.right b.right with h3 | h3 | h3
   ·rw[cmpI_lt h3];omega
   ·rw[h3,cmpI_eq];omega
   ·rw[cmpI_gt h3];omega
  ·rw[cmpI_gt h2,orI_second rfl (by omega)];omega
 ·rw[cmpI_gt h,orI_first (by omega)];omega
theorem ld4 {P:Program} {w:World} {b o:Nat} {x y z u:Value} (h0:w.cell? ⟨b,o,none⟩=some x) (h1:w.cell? ⟨b,o+1,none⟩=some y) (h2:w.cell? ⟨b,o+2,none⟩=some z) (h3:w.cell? ⟨b,o+3,none⟩=some u):
  Sem.run P (loadCellsFrom ⟨b,o,none⟩ 0 4 #[]) w= .ok #[x,y,z,u] w:=
 run_loadCellsFrom_list P w ⟨b,o,none⟩ [x,y,z,u] 4 rfl (fun j v hj=>by
  rw[Addr.add_lit]
  match j,hj with
  | 0,hj=>simp at hj;subst hj;exact h0
  | 1,hj=>simp at hj;subst hj;exact h1
  | 2,hj=>simp at hj;subst hj;exact h2
  | 3,hj=>simp at hj;subst hj;exact h3
  | j+4,hj=>simp at hj)
theorem mixedOrders:Tryz.prog.follows .mixedOrders=true:=by kernel_rfl
theorem box4 {w:World} {g:Nat} {x y z u:Value} {t:TypeId} (h:w.heap[g]?=some (.cells #[x,y,z,u] t)):w.cell? ⟨g,0,none⟩=some x∧w.cell? ⟨g,1,none⟩=some y∧w.cell? ⟨g,2,none⟩=some z∧w.cell? ⟨g,3,none⟩=some u:=by
 simp[World.cell?,h]
theorem keep6 {w0 w w':World} {p1 p2 p3 p4 p5 p6:Addr} {v1 v2 v3 v4 v5 v6:Value} (h:w.cell? p1=some v1∧w.cell? p2=some v2∧w.cell? p3=some v3∧w.cell? p4=some v4∧w.cell? p5=some v5∧w.cell? p6=some v6∧Below w0.heap.size w0 w) (hb:Below w.heap.size w w'):
  w'.cell? p1=some v1∧w'.cell? p2=some v2∧w'.cell? p3=some v3∧w'.cell? p4=some v4∧w'.cell? p5=some v5∧w'.cell? p6=some v6∧Below w0.heap.size w0 w':=
 ⟨cell_below hb _ _ h.1,cell_below hb _ _ h.2.1,cell_below hb _ _ h.2.2.1,cell_below hb _ _ h.2.2.2.1,cell_below hb _ _ h.2.2.2.2.1,cell_below hb _ _ h.2.2.2.2.2.1,h.2.2.2.2.2.2.trans (hb.mono h.2.2.2.2.2.2.size)⟩
theorem SlI.three (w:World) (x y z:Int) (t:TypeId):SlI (w.alloc (.cells #[.int .i64 x, .int .i64 y, .int .i64 z] t)) (some ⟨w.heap.size,0, .none⟩) 3 3 [x,y,z]:=by
 refine⟨rfl,Nat.le_refl _,by unfold maxLen;omega,by simp,fun i u hu=> ?_⟩
 match i,hu with
 | 0,hu=>simp at hu;subst hu;exact⟨_,_,rfl,by simp⟩
 | 1,hu=>simp at hu;subst hu;exact⟨_,_,rfl,by simp⟩
 | 2,hu=>simp at hu;subst hu;exact⟨_,_,rfl,by simp⟩
 | i+3,hu=>simp at hu
theorem order_g (a b:Mg) (w:World):
  Calls Tryz.prog 169 #[.agg #[.int .i64 a.left, .int .i64 a.right, .int .i64 a.out, .int .i64 a.order], .agg #[.int .i64 b.left, .int .i64 b.right, .int .i64 b.out, .int .i64 b.order]] w
   fun e w'=>e= .returned (.int .i64 (cmpM a b))∧∃q os,w'=grow (w.drewN q) os:=by
 obtain⟨w1,hw1⟩:∃w1,w.alloc (.cells #[.int .i64 a.left, .int .i64 a.right, .int .i64 a.out, .int .i64 a.order] 165)=w1:=⟨_,rfl⟩
 obtain⟨w2,hw2⟩:∃w2,w1.alloc (.cells #[.int .i64 b.left, .int .i64 b.right, .int .i64 b.out, .int .i64 b.order] 165)=w2:=⟨_,rfl⟩
 have hb1:Below w.heap.size w w1:=hw1▸below_alloc w _
 have hb2:Below w1.heap.size w1 w2:=hw2▸below_alloc w1 _
 have hs1:w1.heap.size=w.heap.size+1:=by rw[←hw1];simp
 have ha1:w1.heap[w.heap.size]?=some (.cells #[.int .i64 a.left, .int .i64 a.right, .int .i64 a.out, .int .i64 a.order] 165):=by rw[←hw1];exact heap_alloc_new w _
 have ha2:=(hb2.block w.heap.size (by omega)).trans ha1
 have hbb:w2.heap[w1.heap.size]?=some (.cells #[.int .i64 b.left, .int .i64 b.right, .int .i64 b.out, .int .i64 b.order] 165):=by rw[←hw2];exact heap_alloc_new w1 _
 obtain⟨a0,a1,_,a3⟩:=box4 ha2
 obtain⟨b0,b1,_,b3⟩:=box4 hbb
 have HW:=Lib.hid (hb1.trans (hb2.mono hb1.size))
 have H1:=Lib.hid hw1
 have H2:=Lib.hid hw2
 have HS1:=Lib.hid hs1
 rw[hs1]at b0 b1 b3
 clear hb1 hb2 hs1 ha1 ha2 hbb hw1 hw2
 go_enter Tryz.func169,Tryz.ntmps169
 go_wp2_with (fail)
 rw[H1.out,H2.out]
 go_region_held3 (fun w'=>w'.cell? ⟨w.heap.size,3,none⟩=some (.int .i64 a.order)∧w'.cell? ⟨w.heap.size+1,3,none⟩=some (.int .i64 b.order)∧w'.cell? ⟨w.heap.size,0,none⟩=some (.int .i64 a.left)∧w'.cell? ⟨w.heap.size+1,0,none⟩=some (.int .i64 b.left)∧w'.cell? ⟨w.heap.size,1,none⟩=some (.int .i64 a.right)∧w'.cell? ⟨w.heap.size+1,1,none⟩=some (.int .i64 b.right)∧Below w2.heap.size w2 w')
  (first | assumption | exact⟨a3,b3,a0,b0,a1,b1,(Below.refl _ _).drew⟩ | exact keep6 (by assumption) (below_alloc _ _))
  (first
   | (go_at_call_of 182 (Value.int .i64 a.order);refine(compareI_calls a.order b.order _).mono ?_;rintro e w' ⟨rfl,rfl⟩)
   | (go_at_call_of 182 (Value.int .i64 a.left);refine(compareI_calls a.left b.left _).mono ?_;rintro e w' ⟨rfl,rfl⟩)
   | (go_at_call_of 182 (Value.int .i64 a.right);refine(compareI_calls a.right b.right _).mono ?_;rintro e w' ⟨rfl,rfl⟩)
   | (go_at_call 181;refine(or_calls _ (SlI.drew (SlI.three w2 _ _ _ _))).mono ?_;rintro e w' ⟨rfl,rfl⟩))
 all_goals(go_wp2_with (fail);go_ret;refine⟨ret_i64 (nz_three _ _ _),1,#[.cells #[.int .i64 a.left, .int .i64 a.right, .int .i64 a.out, .int .i64 a.order] 165, .cells #[.int .i64 b.left, .int .i64 b.right, .int .i64 b.out, .int .i64 b.order] 165, .cells #[.int .i64 (cmpI a.order b.order), .int .i64 (cmpI a.left b.left), .int .i64 (cmpI a.right b.right)] 3],?_⟩)
 rw[←H2.out,←H1.out,alloc_eq_grow,alloc_eq_grow,alloc_eq_grow,grow_grow,grow_grow]
 rfl
theorem below_grow (w:World) (n:Nat) (os:Array Obj):Below w.heap.size w (grow (w.drewN n) os):=by
 refine⟨rfl,rfl,rfl,by show w.heap.size≤(w.heap++os).size;simp,fun k hk=> ?_⟩
 show(w.heap++os)[k]?=w.heap[k]?
 exact Array.getElem?_append_left hk
theorem ahead_calls (a b:Mg) (w:World):
  Calls Tryz.prog 115 #[.agg #[.int .i64 a.left, .int .i64 a.right, .int .i64 a.out, .int .i64 a.order], .agg #[.int .i64 b.left, .int .i64 b.right, .int .i64 b.out, .int .i64 b.order]] w
   fun e w'=>e= .returned (.bool (ahead a b))∧Below w.heap.size w w':=by
 obtain⟨w1,hw1⟩:∃w1,w.alloc (.cells #[.int .i64 a.left, .int .i64 a.right, .int .i64 a.out, .int .i64 a.order] 165)=w1:=⟨_,rfl⟩
 obtain⟨w2,hw2⟩:∃w2,w1.alloc (.cells #[.int .i64 b.left, .int .i64 b.right, .int .i64 b.out, .int .i64 b.order] 165)=w2:=⟨_,rfl⟩
 have hb1:Below w.heap.size w w1:=hw1▸below_alloc w _
 have hb2:Below w1.heap.size w1 w2:=hw2▸below_alloc w1 _
 have hs1:w1.heap.size=w.heap.size+1:=by rw[←hw1];simp
 have ha1:w1.heap[w.heap.size]?=some (.cells #[.int .i64 a.left, .int .i64 a.right, .int .i64 a.out, .int .i64 a.order] 165):=by rw[←hw1];exact heap_alloc_new w _
 have ha2:=(hb2.block w.heap.size (by omega)).trans ha1
 have hbb:w2.heap[w1.heap.size]?=some (.cells #[.int .i64 b.left, .int .i64 b.right, .int .i64 b.out, .int .i64 b.order] 165):=by rw[←hw2];exact heap_alloc_new w1 _
 obtain⟨a0,a1,_,a3⟩:=box4 ha2
 obtain⟨b0,b1,_,b3⟩:=box4 hbb
 have HW:=Lib.hid (hb1.trans (hb2.mono hb1.size))
 have H1:=Lib.hid hw1
 have H2:=Lib.hid hw2
 have hq:ahead a b=decide (a.order<b.order∨(a.order=b.order∧(a.left<b.left∨(a.left=b.left∧a.right<b.right)))):=rfl
 have HQ:=Lib.hid hq
 rw[hs1]at b0 b1 b3
 clear hb1 hb2 hs1 ha1 ha2 hbb hw1 hw2 hq
 by_cases ho:a.order=b.order
 ·have n1:(a.order != b.order)=false:=by simpa using ho
  by_cases hl:a.left=b.left
  ·have n2:(a.left != b.left)=false:=by simpa using hl
   have HF:Hid (ahead a b=decide (a.right<b.right)):=Lib.hid (by rw[HQ.out];simp[ho,hl])
   clear ho hl
   go_enter Tryz.func115,Tryz.ntmps115
   go_wp2_with (fail)
   rw[H1.out,H2.out]
   go_ret
   exact⟨ret_bool HF.out.symm,HW.out⟩
  ·have n2:(a.left != b.left)=true:=by simpa using hl
   have HF:Hid (ahead a b=decide (a.left<b.left)):=Lib.hid (by rw[HQ.out];simp[ho,hl])
   clear ho hl
   go_enter Tryz.func115,Tryz.ntmps115
   go_wp2_with (fail)
   rw[H1.out,H2.out]
   go_ret
   exact⟨ret_bool HF.out.symm,HW.out⟩
 ·have n1:(a.order != b.order)=true:=by simpa using ho
  have HF:Hid (ahead a b=decide (a.order<b.order)):=Lib.hid (by rw[HQ.out];simp[ho])
  clear ho
  go_enter Tryz.func115,Tryz.ntmps115
  go_wp2_with (fail)
  rw[H1.out,H2.out]
  go_ret
  exact⟨ret_bool HF.out.symm,HW.out⟩
end Go.Proofs.YtimkkkdabmhedaaGreatDoor
