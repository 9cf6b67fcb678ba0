/- The frame that is common to all laws: a law's statement follows from its walk. Plain lemmas over any program. -/
import Derived.Test.YtahiballegpbgaaGreatDoorRows
import Derived.WalkKit
import Derived.ProofKit
import Derived.OpenShut
import Derived.ShutString
import Derived.ChangeOld
import Derived.Below
import Derived.WalkSpells
import Derived.WalkLawsBesides
import Derived.Lib.Hide
import Derived.BigQuiet
import Derived.Deep.QuietTactic
import Derived.Laws.AppendOwnNone
import Derived.Laws.CopyOwn
import Derived.Maps.OwnOps
import Derived.Maps.OwnSet
import Derived.Maps.Views
import Derived.Deep.RegionHeld3
import Derived.Shelf.SlSortCmp.QuietGrown
import Derived.Shelf.SlicesQ.Load
import Derived.DeepKeys4
import Derived.Maps.Own
namespace Go.Proofs.YtahiballegpbgaaGreatDoor
theorem hW_ {p:Prop} (h:p):Go.RowKit.Hid p:=h
end Go.Proofs.YtahiballegpbgaaGreatDoor
set_option linter.unusedVariables false
set_option maxHeartbeats 1000000
set_option maxRecDepth 100000
namespace Go.Proofs.YtahiballegpbgaaGreatDoor.Frame
open Go.ChangeShapes Go.WideShapes Go.ChangeAt Go.RowKit
section
variable {H:Type} {enc:TypeId×Value->H} {P:Program}
theorem oS {w:World} {base:Nat} {sp:Nat->Bool} {held:Bool}:∀{ts:List TypeId} {vs:List Value} {ds:List (DataW H)} {ps:List MemPlace},DataW.TrodAll enc P w base sp held ts vs ds ps->ds.length=ts.length
 | [],_,_,_,h=>by
  obtain⟨_,rfl,_⟩:=trodAll_nil h;rfl
 | _::_,_,_,_,h=>by
  obtain⟨v,vs1,d,ds1,a,b,rfl,rfl,rfl,_,h2⟩:=trodAll_cons h;have:=oS h2;simp[this]
theorem aAp {W:World} {b:Nat} {sp:Nat->Bool} {held:Bool}:∀{ts:List TypeId} {vs:List Value} {ds:List (DataW H)} {ps:List MemPlace},
  DataW.TrodAll enc P W b sp held ts vs ds ps->∀x∈ps,x.block<W.heap.size:=by
 intro ts vs ds ps h;exact DataW.TrodAll.lt h
theorem dU (hl:laidOutB P=true) {W W':World} (hb:Below W.heap.size W W'):∀{ts:List TypeId} {vs:List Value} {ds:List (DataW H)} {ps:List MemPlace},
  (∀t∈ts,P.readableRec t=true/\t<P.types.size)->DataW.TrodAll enc P W 0 (fun _=>true) true ts vs ds ps->(∀x∈ps,x.block<W.heap.size)->
  DataW.TrodAll enc P W' 0 (fun b=>decide (b<W.heap.size)) true ts vs ds ps:=by
 intro ts
 induction ts with
 | nil=>
  intro vs ds ps _ h _
  cases vs<;>cases ds<;>simp_all [DataW.TrodAll]
 | cons t ts ih=>
  intro vs ds ps ht h hlt;obtain⟨v,vs',d,ds',p,q,rfl,rfl,rfl,h0,h1⟩:=trodAll_cons h;exact trodAll_cons_mk (Below.trod hl (ht t (by simp)).1 (ht t (by simp)).2 h0 hb (fun x hx=>hlt x (by simp[hx])))
   (ih (fun t' h'=>ht t' (by simp[h'])) h1 (fun x hx=>hlt x (by simp[hx])))
def Law (P:Program) (f:FuncId) (args:Array Value) (W:World):Prop:=
 Calls P f args W fun e W'=>e= .returned (.bool true)/\Below W.heap.size W W'
theorem law_post {fn:Func} {s:ChangeSpec} {tb:TypeId} (hl:laidOutB P=true) (hp:∀t∈fn.params.toList,P.readableRec t=true/\t<P.types.size)
  (hr:fn.resultTypes= #[tb]) (hb:P.underlying tb=some .bool) (hv:s.vars= [])
  (hs:∀ds:List (DataW H),ds.length=fn.params.size->s.fn H ds= {results:=[.lit (.bool true)],args:=ds})
  {f:FuncId} {W:World} {args:Array Value} {ds gs:List (DataW H)} {before:List MemPlace} (hW:DataW.Whole enc P fn.params.toList s.vars false W args.toList ds gs before)
  (walk:Law P f args W):Calls P f args W fun e W'=>∃v,e= .returned v/\s.post enc P fn false true false false W args v W':=by
 have hW':=hW;obtain⟨p,q,hA,hV,rfl,hfz,hnd⟩:=hW;rw[hv]at hV;obtain⟨rfl,rfl⟩:=trodVars_none hV;have hlen:ds.length=fn.params.size:=by
  have:=oS hA;simpa using this
 refine Calls.mono walk fun e W' ⟨he,bel⟩=> ?_
 subst he;have e1:s.fn H (ds++ [])= {results:=[.lit (.bool true)],args:=ds}:=by rw[List.append_nil];exact hs ds hlen
 refine⟨_,rfl,ds,[],_,[],p,[],hW',?_,?_,?_,bel.frame _,fun h=>by cases h⟩
 ·rw[e1,hr];exact trodAll_mk1 (shut_bool hb _)
 ·rw[e1];exact dU hl bel hp hA (aAp hA)
 ·rw[e1,hv];rfl
end
end Go.Proofs.YtahiballegpbgaaGreatDoor.Frame
namespace Go.Proofs.YtahiballegpbgaaGreatDoor
open Go.RowKit
def ix (A:List Int) (i:Nat):Int:=A.getD i 0
theorem gF {A:List Int} {i:Nat} (h:i<A.length):A[i]?=some (ix A i):=by
 simp[ix,List.getD,h]
structure Sl (w:World) (ao:Option Addr) (n cap:Nat) (vs:List Value):Prop where
 len:vs.length=n
 le:n<=cap
 max:cap<=maxLen
 nil:ao=none->cap=0
 at_:∀i u,vs[i]?=some u->∃b o,ao=some ⟨b,o,none⟩/\w.cell? ⟨b,o+i,none⟩=some u
def SlI (w:World) (ao:Option Addr) (n cap:Nat) (A:List Int):Prop:=Sl w ao n cap (A.map (.int .i64))
theorem SlI.len {w:World} {ao:Option Addr} {n cap:Nat} {A:List Int} (h:SlI w ao n cap A):A.length=n:=by simpa using Sl.len h
theorem SlI.at_ {w:World} {ao:Option Addr} {n cap:Nat} {A:List Int} (h:SlI w ao n cap A) {i:Nat} (hi:i<n):
  ∃b o,ao=some ⟨b,o,none⟩/\w.cell? ⟨b,o+i,none⟩=some (.int .i64 (ix A i)):=
 Sl.at_ h i _ (by rw[List.getElem?_map,gF (by rw[h.len];exact hi)];rfl)
theorem Sl.stay {w w':World} {ao:Option Addr} {n cap:Nat} {vs:List Value} (h:Sl w ao n cap vs) (hc:∀p u,w.cell? p=some u->w'.cell? p=some u):Sl w' ao n cap vs:=
 ⟨h.len,h.le,h.max,h.nil,fun i u hu=>let ⟨b,o,e,c⟩:=h.at_ i u hu;⟨b,o,e,hc _ _ c⟩⟩
theorem eA {w w':World} (h:Below w.heap.size w w'):∀p u,w.cell? p=some u->w'.cell? p=some u:=
 fun p u hc=>(h.cell (World.block_lt_of_cell? w p hc)).trans hc
theorem Sl.below {w w':World} {ao:Option Addr} {n cap:Nat} {vs:List Value} (h:Sl w ao n cap vs) (hb:Below w.heap.size w w'):Sl w' ao n cap vs:=h.stay (eA hb)
theorem SlI.below {w w':World} {ao:Option Addr} {n cap:Nat} {A:List Int} (h:SlI w ao n cap A) (hb:Below w.heap.size w w'):SlI w' ao n cap A:=Sl.below h hb
theorem SlI.drewN {w:World} {ao:Option Addr} {n cap:Nat} {A:List Int} (h:SlI w ao n cap A) (k:Nat):SlI (w.drewN k) ao n cap A:=Sl.stay h fun _ _ h=>h
theorem SlI.drew {w:World} {ao:Option Addr} {n cap:Nat} {A:List Int} (h:SlI w ao n cap A):SlI w.drew ao n cap A:=Sl.stay h fun _ _ h=>h
theorem bA {B:Nat} {a w:World} (h:Below B a w) (n:Nat):Below B a (w.drewN n):=⟨h.os,h.tape,h.output,h.size,h.block⟩
theorem aA (w:World) (o:Obj):Below w.heap.size w (w.alloc o):=(Below.refl _ _).alloc (Nat.le_refl _) o
theorem SlI.alloc {w:World} {ao:Option Addr} {n cap:Nat} {A:List Int} (h:SlI w ao n cap A) (o:Obj):SlI (w.alloc o) ao n cap A:=h.below (aA w o)
theorem Sl.take {w:World} {ao:Option Addr} {n cap:Nat} {vs:List Value} (h:Sl w ao n cap vs) {k:Nat} (hk:k<=n):Sl w ao k cap (vs.take k):=by
 have:=h.len;have:=h.le;refine⟨by simp;omega,by omega,h.max,h.nil,fun i u hu=>h.at_ i u ?_⟩;rw[List.getElem?_take]at hu;split at hu<;>simp_all
theorem SlI.take {w:World} {ao:Option Addr} {n cap:Nat} {A:List Int} (h:SlI w ao n cap A) {k:Nat} (hk:k<=n):SlI w ao k cap (A.take k):=by
 unfold SlI;rw[List.map_take];exact Sl.take h hk
theorem Sl.drop {w:World} {ao:Option Addr} {n cap:Nat} {vs:List Value} (h:Sl w ao n cap vs) {k:Nat} (hk:k<=n):
  Sl w (if cap=k then ao else ao.map (·.add k)) (n-k) (cap-k) (vs.drop k):=by
 have:=h.len;have:=h.le;have:=h.max;refine⟨by simp;omega,by omega,by omega,?_,fun i u hu=> ?_⟩
 ·intro e;split at e
  ·omega
  ·simp at e;have:=h.nil e;omega
 ·rw[List.getElem?_drop]at hu;obtain⟨b,o,e,hc⟩:=h.at_ _ _ hu;have:k+i<n:=by have:=(List.getElem?_eq_some_iff.1 hu).1;omega
  rw[if_neg (by omega),e];exact⟨b,o+k,by simp[Addr.add_lit],by rw[<-hc,Nat.add_assoc]⟩
theorem SlI.drop {w:World} {ao:Option Addr} {n cap:Nat} {A:List Int} (h:SlI w ao n cap A) {k:Nat} (hk:k<=n):
  SlI w (if cap=k then ao else ao.map (·.add k)) (n-k) (cap-k) (A.drop k):=by
 unfold SlI;rw[List.map_drop];exact Sl.drop h hk
theorem Sl.none {w:World}:Sl w none 0 0 []:=⟨rfl,Nat.le_refl _,by unfold maxLen;omega,fun _=>rfl,fun _ _ h=>by simp at h⟩
theorem Sl.of_own {w:World} {base:Nat} {e:TypeId} {v:Value} {n:Nat} {xs:List Value} (h:w.ownsRow base e 1 v n xs):∃ao cap,v= .slice ao n cap/\Sl w ao n cap xs:=by
 have hcell:=fun(g:Nat) (hg:v.ownBlock=some g)=>h.cells hg
 obtain⟨h1,h2⟩:=h;rcases h2 with⟨rfl,rfl⟩ | ⟨g,cap,cur,rfl,hg,hh,hn,hm,hs,ht⟩
 ·have:xs= []:=List.eq_nil_of_length_eq_zero (by simpa using h1);subst this;exact⟨_,_,rfl,Sl.none⟩
 ·refine⟨_,_,rfl,⟨by simpa using h1,hn,hm,by simp,fun i u hu=>⟨g,0,rfl,?_⟩⟩⟩;have:=hcell g rfl i u hu;rw[Addr.add_lit]at this;simpa using this
def Own (w:World) (base:Nat) (v:Value) (A:List Int):Prop:=w.ownsRow base 3 1 v A.length (A.map (.int .i64))
theorem Own.sl {w:World} {base:Nat} {v:Value} {A:List Int} (h:Own w base v A):∃ao cap,v= .slice ao A.length cap/\SlI w ao A.length cap A:=Sl.of_own h
theorem Own.nil (w:World) (base:Nat):Own w base (.slice none 0 0) []:=World.ownsRow_nil _ _ _ _
theorem Own.mono {w:World} {base base':Nat} {v:Value} {A:List Int} (h:Own w base v A) (hb:base'<=base):Own w base' v A:=by
 obtain⟨h1,h2⟩:=h;refine⟨h1,?_⟩;rcases h2 with h2 | ⟨g,cap,cur,hv,hg,r⟩
 ·exact .inl h2
 ·exact .inr ⟨g,cap,cur,hv,by omega,r⟩
theorem Own.below {w w':World} {base:Nat} {v:Value} {A:List Int} (h:Own w base v A) (hb:Below w.heap.size w w'):Own w' base v A:=by
 have hlt:=World.ownsRow.lt h;obtain⟨h1,h2⟩:=h;refine⟨h1,?_⟩;rcases h2 with h2 | ⟨g,cap,cur,hv,hg,hh,r⟩
 ·exact .inl h2
 ·exact .inr ⟨g,cap,cur,hv,hg,by rw[hb.block g (hlt g (by rw[hv];rfl)).2];exact hh,r⟩
theorem aR {P:Program} {w:World} {ops:Array Oper} {rest:List Oper} {o:Oper} {a:Act} {Q:Exit->Act->World->Prop} (hgd:o.guard= .none) (s x:Operand) (t:TypeId)
  (ho:o.op= .call {callee:= .builtin .append,args:=#[s,x],argTypes:=#[t,t]})
  (base:Nat) (e:TypeId) (i:TypeInfo) (z:Value) (bytes:Nat) (ht:P.underlying t=some (.slice e)) (hi:P.info? e=some i) (hz:i.zero=some z)
  (hsize:i.size=1) (hby:i.bytes=bytes) (hzs:z.cells.size=1)
  (v:Value) (n:Nat) (xs:List Value) (hs:a.eval s=v) (hown:w.ownsRow base e 1 v n xs)
  (ao:Option Addr) (m c:Nat) (news:List Value) (hx:a.eval x= .slice ao m c) (hl:Sl w ao m c news) (h1:∀u∈news,u.oneCell'=true)
  (h63:n+m<=maxLen) (hbytes:(n+m)*bytes<=140737488355328) (hbase:base<=w.heap.size)
  (h:∀v' w',w'.ownsRow base e 1 v' (n+m) (xs++news)->w.grownBy w' v.ownBlock->(v'= .slice .none 0 0↔v= .slice .none 0 0/\m=0)->wpList P ops Q rest (a.put o.dst v') w'):wpList P ops Q (o::rest) a w:=by
 cases ao with
 | none=>
  have hc:=hl.nil rfl;have hm:m=0:=by have:=hl.le;omega
  subst hc hm;have hn:news= []:=List.eq_nil_of_length_eq_zero hl.len;subst hn;refine wpList_append_own_none hgd s x t ho base e i 1 ht hi v n xs hs hown hx ?_
  exact h v w (by simpa using hown) (World.grownBy.refl _ _) (by simp)
 | some ad=>
  refine wpList_append_own _ hgd s x t ho base e i z 1 bytes ht hi hz hsize hby hzs (by decide) v n xs hs hown ad m c news hx (by simpa using hl.len) ?_ h1 h63 hbytes hbase h
  intro j u hu;obtain⟨b,of,e,hc⟩:=hl.at_ j u hu;obtain rfl:=Option.some.inj e;rw[Addr.add_lit];exact hc
theorem vV {P:Program} {t:TypeId} {i:TypeInfo} (h:P.info? t=some i) {w:World}:(typeInfo t).run P w= .ok i w:=by
 simp[typeInfo,h]
theorem mE {P:Program} {w:World} {ops:Array Oper} {rest:List Oper} {o:Oper} {a:Act} {Q:Exit->Act->World->Prop} (hgd:o.guard= .none) {v:Value} {w':World}
  (hr:(execOp a.eval o).run P w= .ok (.value v) w') (h:wpList P ops Q rest (a.put o.dst v) w'):wpList P ops Q (o::rest) a w:=by
 refine wpList_plain hgd fun K hK=> ?_
 unfold Oper.wp;simp[hr];exact hK _ _ h
theorem tA {P:Program} {t e:TypeId} {i:TypeInfo} (ht:P.underlying t=some (.slice e)) (hi:P.info? e=some i) (w:World) (ao:Option Addr) (n cap:Nat) (lo hi':Option Value) (l h:Nat)
  (hb:∀w,(Instr.sliceBounds true n cap lo hi' .none).run P w= .ok (l,h,cap) w):
  (Instr.sliceAt t (.slice ao n cap) lo hi' .none).run P w= .ok (.slice (if cap=l then ao else ao.map (·.add (l*i.size))) (h-l) (cap-l)) w:=by
 have e1:P.elem t=e:=by simp[Program.elem,ht]
 have ht':P.underlying t=some (.slice (P.elem t)):=by rw[e1];exact ht
 rw[run_sliceAt_slice w t _ _ _ _ ht',run_slice_any w t ao n cap ht',hb,e1];simp[Result.andThen,sizeOf,vV hi,sliced]
theorem pO {P:Program} {w:World} {ops:Array Oper} {rest:List Oper} {o:Oper} {a:Act} {Q:Exit->Act->World->Prop} (hgd:o.guard= .none) (t:TypeId) (x l:Operand)
  (ho:o.op= .slice t x (some l) .none .none) (e:TypeId) (i:TypeInfo) (ht:P.underlying t=some (.slice e)) (hi:P.info? e=some i) (hsz:i.size=1)
  (ao:Option Addr) (n cap:Nat) (vs:List Value) (hx:a.eval x= .slice ao n cap) (hS:Sl w ao n cap vs) (kl:IntKind) (L:Int) (k:Nat) (hl:a.eval l= .int kl L) (hL:L=(k:Int)) (hk:k<=n)
  (h:∀ao',Sl w ao' (n-k) (cap-k) (vs.drop k)->wpList P ops Q rest (a.put o.dst (.slice ao' (n-k) (cap-k))) w):wpList P ops Q (o::rest) a w:=by
 subst hL;refine mE hgd (v:= .slice (if cap=k then ao else ao.map (·.add k)) (n-k) (cap-k)) (w':=w) ?_ (h _ (hS.drop hk))
 have hr:=tA ht hi w ao n cap (some (.int kl k)) .none k n (fun w=>by simp[Instr.sliceBounds,run_sliceBound,hk]);simp only[execOp,ho,hx,hl,Option.map_some,Option.map_none,Sem.run_bind,hr,Result.andThen_ok,Sem.run_pure,hsz,Nat.mul_one]
theorem M3 {P:Program} {w:World} {ops:Array Oper} {rest:List Oper} {o:Oper} {a:Act} {Q:Exit->Act->World->Prop} (hgd:o.guard= .none) (t:TypeId) (x l:Operand)
  (ho:o.op= .slice t x .none (some l) .none) (e:TypeId) (i:TypeInfo) (ht:P.underlying t=some (.slice e)) (hi:P.info? e=some i) (hsz:i.size=1)
  (ao:Option Addr) (n cap:Nat) (vs:List Value) (hx:a.eval x= .slice ao n cap) (hS:Sl w ao n cap vs) (kl:IntKind) (L:Int) (k:Nat) (hl:a.eval l= .int kl L) (hL:L=(k:Int)) (hk:k<=n)
  (h:Sl w ao k cap (vs.take k)->wpList P ops Q rest (a.put o.dst (.slice ao k cap)) w):wpList P ops Q (o::rest) a w:=by
 subst hL;have hle:=hS.le;refine mE hgd (v:= .slice ao k cap) (w':=w) ?_ (h (hS.take hk))
 have hr:=tA ht hi w ao n cap .none (some (.int kl k)) 0 k (fun w=>by simp[Instr.sliceBounds,run_sliceBound,Nat.le_trans hk hle]);simp only[execOp,ho,hx,hl,Option.map_some,Option.map_none,Sem.run_bind,hr,Result.andThen_ok,Sem.run_pure,hsz,Nat.mul_one];congr 3
 cases ao<;>simp[Addr.add]
theorem Q9 {P:Program} {w:World} {ops:Array Oper} {rest:List Oper} {o:Oper} {a:Act} {Q:Exit->Act->World->Prop} (hgd:o.guard= .none) (t:TypeId) (x l:Operand)
  (ho:o.op= .slice t x (some l) .none .none) (e:TypeId) (i:TypeInfo) (ht:P.underlying t=some (.slice e)) (hi:P.info? e=some i) (hsz:i.size=1)
  {ao:Option Addr} {n cap:Nat} {A:List Int} (hx:a.eval x= .slice ao n cap) (hS:SlI w ao n cap A) {kl:IntKind} {L:Int} {k:Nat} (hl:a.eval l= .int kl L) (hL:L=(k:Int)) (hk:k<=n)
  (h:∀ao',SlI w ao' (n-k) (cap-k) (A.drop k)->wpList P ops Q rest (a.put o.dst (.slice ao' (n-k) (cap-k))) w):wpList P ops Q (o::rest) a w:=
 pO hgd t x l ho e i ht hi hsz ao n cap _ hx hS kl L k hl hL hk fun ao' h'=>h ao' (by unfold SlI;rw[List.map_drop];exact h')
theorem gQ {P:Program} {w:World} {ops:Array Oper} {rest:List Oper} {o:Oper} {a:Act} {Q:Exit->Act->World->Prop} (hgd:o.guard= .none) (t:TypeId) (x l:Operand)
  (ho:o.op= .slice t x .none (some l) .none) (e:TypeId) (i:TypeInfo) (ht:P.underlying t=some (.slice e)) (hi:P.info? e=some i) (hsz:i.size=1)
  {ao:Option Addr} {n cap:Nat} {A:List Int} (hx:a.eval x= .slice ao n cap) (hS:SlI w ao n cap A) {kl:IntKind} {L:Int} {k:Nat} (hl:a.eval l= .int kl L) (hL:L=(k:Int)) (hk:k<=n)
  (h:SlI w ao k cap (A.take k)->wpList P ops Q rest (a.put o.dst (.slice ao k cap)) w):wpList P ops Q (o::rest) a w:=
 M3 hgd t x l ho e i ht hi hsz ao n cap _ hx hS kl L k hl hL hk fun h'=>h (by unfold SlI;rw[List.map_take];exact h')
theorem Q1 (A:List Int):∀u∈A.map (Value.int .i64),u.oneCell'=true:=by
 intro u hu;obtain⟨_,_,rfl⟩:=List.mem_map.1 hu;rfl
theorem J7 {P:Program} {w:World} {ops:Array Oper} {rest:List Oper} {o:Oper} {a:Act} {Q:Exit->Act->World->Prop} (hgd:o.guard= .none) (s x:Operand) (t:TypeId)
  (ho:o.op= .call {callee:= .builtin .append,args:=#[s,x],argTypes:=#[t,t]})
  {base:Nat} (i:TypeInfo) (ht:P.underlying t=some (.slice 3)) (hi:P.info? 3=some i) (hz:i.zero=some (.int .i64 0)) (hsize:i.size=1) (hby:i.bytes=8)
  {v:Value} {A:List Int} (hs:a.eval s=v) (hown:Own w base v A) {ao:Option Addr} {m c:Nat} {B:List Int} (hx:a.eval x= .slice ao m c) (hl:SlI w ao m c B)
  (hlen:(A.length+m)*8<=140737488355328) (hbase:base<=w.heap.size)
  (h:∀v' w',Own w' base v' (A++B)->w.grownBy w' v.ownBlock->Below base w w'->wpList P ops Q rest (a.put o.dst v') w'):wpList P ops Q (o::rest) a w:=
 aR hgd s x t ho base _ i (.int .i64 0) 8 ht hi hz hsize hby rfl v A.length _ hs hown ao m c _ hx hl (Q1 B) (by unfold maxLen;omega) hlen hbase
  fun v' w' h1 h2 _=>h v' w' (by unfold Own;have:=hl.len;rw[List.length_append,List.map_append,this];exact h1) h2
   ((Below.refl _ _).grown h2 hbase fun k hk=>(World.ownsRow.lt hown k hk).1)
theorem SlI.one (w:World) (x:Int) (t:TypeId):SlI (w.alloc (.cells #[.int .i64 x] t)) (some ⟨w.heap.size,0, .none⟩) 1 1 [x]:=by
 refine⟨rfl,Nat.le_refl _,by unfold maxLen;omega,by simp,fun i u hu=>⟨_,_,rfl,?_⟩⟩
 match i,hu with
 | 0,hu=>simp at hu;subst hu;simp
 | i+1,hu=>simp at hu
theorem vI {A:List Int} {k:Nat} (h:k<A.length):A.take k++ [ix A k]=A.take (k+1):=by
 rw[List.take_add_one,gF h];rfl
theorem Own.alloc {w:World} {base:Nat} {v:Value} {A:List Int} (h:Own w base v A) (o:Obj):Own (w.alloc o) base v A:=World.ownsRow.alloc h o
theorem Own.block {w:World} {base:Nat} {vo:Option Addr} {n c:Nat} {A:List Int} (h:Own w base (.slice vo n c) A):
  A.length=n/\(vo= .none/\n=0/\c=0\/∃g cur,vo=some ⟨g,0, .none⟩/\base<=g/\w.heap[g]?=some (.cells (cur:List Value).toArray 3 (0,0))/\n<=c/\c<=maxLen/\cur.length=c/\cur.take n=A.map (.int .i64)):=by
 obtain⟨_,h2⟩:=h;rcases h2 with⟨hv,hn⟩ | ⟨g,cap,cur,hv,hg,hh,hn,hm,hs,ht⟩
 ·simp at hv;exact⟨by omega, .inl hv⟩
 ·simp at hv;obtain⟨rfl,rfl,rfl⟩:=hv;refine⟨rfl, .inr ⟨g,cur.toList,rfl,hg,by simpa using hh,hn,hm,by simpa using hs,by simpa using ht⟩⟩
theorem Own.mk {w:World} {base g n c:Nat} {cur:List Value} {A:List Int} (hg:base<=g) (hh:w.heap[g]?=some (.cells cur.toArray 3 (0,0))) (hn:n<=c) (hm:c<=maxLen) (hc:cur.length=c) (hA:A.length=n)
  (ht:cur.take n=A.map (.int .i64)):Own w base (.slice (some ⟨g,0, .none⟩) n c) A:=by
 subst hA;exact⟨by simp, .inr ⟨g,c,cur.toArray,rfl,hg,hh,hn,hm,by simpa using hc,by simpa using ht⟩⟩
theorem M4 {P:Program} {w:World} {ops:Array Oper} {rest:List Oper} {o:Oper} {a:Act} {Q:Exit->Act->World->Prop} (hgd:o.guard= .none) (s x:Operand) (t u:TypeId)
  (ho:o.op= .call {callee:= .builtin .append,args:=#[s,x],argTypes:=#[t,u]}) {v1 v2 v:Value} {w':World} (hs:a.eval s=v1) (hx:a.eval x=v2)
  (hr:∀ty,(Builtin.append_ #[t,u] ty #[v1,v2]).run P w= .ok v w') (h:wpList P ops Q rest (a.put o.dst v) w'):wpList P ops Q (o::rest) a w:=by
 refine wpList_plain hgd fun K hK=> ?_
 unfold Oper.wp;simp[execOp,ho,resolve,invoke,builtin,hs,hx,hr,Result.andThen];exact hK _ _ h
def rx (R:List (List Int)) (i:Nat):List Int:=R.getD i []
theorem rx_eq {R:List (List Int)} {i:Nat} (h:i<R.length):R[i]?=some (rx R i):=by
 simp[rx,List.getD,h]
structure aG (w:World) (ao:Option Addr) (n cap:Nat) (R:List (List Int)):Prop where
 len:R.length=n
 le:n<=cap
 max:cap<=maxLen
 nil:ao=none->cap=0
 at_:∀i,i<n->∃b o ra rc,ao=some ⟨b,o,none⟩/\w.cell? ⟨b,o+i,none⟩=some (.slice ra (rx R i).length rc)/\SlI w ra (rx R i).length rc (rx R i)
theorem aG.stay {w w':World} {ao:Option Addr} {n cap:Nat} {R:List (List Int)} (h:aG w ao n cap R) (hc:∀p u,w.cell? p=some u->w'.cell? p=some u):aG w' ao n cap R:=
 ⟨h.len,h.le,h.max,h.nil,fun i hi=>let ⟨b,o,ra,rc,e,c,r⟩:=h.at_ i hi;⟨b,o,ra,rc,e,hc _ _ c,Sl.stay r hc⟩⟩
theorem aG.below {w w':World} {ao:Option Addr} {n cap:Nat} {R:List (List Int)} (h:aG w ao n cap R) (hb:Below w.heap.size w w'):aG w' ao n cap R:=h.stay (eA hb)
def tot (R:List (List Int)) (k:Nat):Nat:=(R.take k).flatten.length
theorem tot_zero (R:List (List Int)):tot R 0=0:=by simp[tot]
theorem bV {R:List (List Int)} {k:Nat} (h:k<R.length):(R.take (k+1)).flatten=(R.take k).flatten++rx R k:=by
 rw[List.take_add_one,rx_eq h];simp
theorem tot_succ {R:List (List Int)} {k:Nat} (h:k<R.length):tot R (k+1)=tot R k+(rx R k).length:=by
 unfold tot;rw[bV h];simp
theorem aAq (R:List (List Int)) (k:Nat):tot R k<=R.flatten.length:=by
 unfold tot;have e:R.flatten=(R.take k).flatten++(R.drop k).flatten:=by rw[<-List.flatten_append,List.take_append_drop]
 rw[e,List.length_append];exact Nat.le_add_right _ _
theorem tot_all (R:List (List Int)):tot R R.length=R.flatten.length:=by simp[tot]
theorem aG.two {w:World} {ao bo:Option Addr} {c d:Nat} {A B:List Int} (hA:SlI w ao A.length c A) (hB:SlI w bo B.length d B) (t:TypeId) (g:Nat) (hg:g=w.heap.size):
  aG (w.alloc (.cells #[.slice ao A.length c, .slice bo B.length d] t)) (some ⟨g,0,none⟩) 2 2 [A,B]:=by
 subst hg;refine⟨rfl,Nat.le_refl _,by unfold maxLen;omega,by simp,fun i hi=> ?_⟩
 match i,hi with
 | 0,_=>exact⟨_,_,ao,c,rfl,by simp[rx],hA.alloc _⟩
 | 1,_=>exact⟨_,_,bo,d,rfl,by simp[rx],hB.alloc _⟩
theorem sA {a b:Bool} (h:a=b):Ending.returned (.bool a)= .returned (.bool b):=by rw[h]
theorem C3 {a b:Int} (h:a=b):Ending.returned (.int .i64 a)= .returned (.int .i64 b):=by rw[h]
theorem tS {s t:ByteArray} (h:s.toList=t.toList):s=t:=by
 rw[ByteArray.toList_eq,ByteArray.toList_eq]at h;have:=Array.toList_inj.1 h
 cases s;cases t;simp_all
theorem gH {s t:ByteArray} (h:s=t):(s.toList==t.toList)=true:=by rw[h];simp
theorem oJ {s t:ByteArray} (h:s≠t):(s.toList==t.toList)=false:=beq_eq_false_iff_ne.2 fun e=>h (tS e)
theorem aAb {s t:ByteArray} (h:s=t):(s.toList != t.toList)=false:=by rw[h];simp
theorem aCE {s t:ByteArray} (h:s≠t):(s.toList != t.toList)=true:=by rw[bne_iff_ne];exact fun e=>h (tS e)
theorem lD {s:ByteArray} (h:s.size=0):s.toList= []/\s.toList.isEmpty=true/\(s.toList== [])=true:=by
 have e:s.toList= []:=by rw[ByteArray.toList_eq];exact List.eq_nil_of_length_eq_zero (by simpa using h)
 rw[e];simp
theorem E2 {s:ByteArray} (h:s.size≠0):s.toList≠[]/\s.toList.isEmpty=false/\(s.toList== [])=false:=by
 have e:s.toList≠[]:=fun e=>h (by
  rw[ByteArray.toList_eq]at e;have:=congrArg List.length e;simpa using this)
 refine⟨e,?_,?_⟩
 ·cases h':s.toList with
  | nil=>exact absurd h' e
  | cons _ _=>rfl
 ·exact beq_eq_false_iff_ne.2 e
abbrev SlS (w:World) (ao:Option Addr) (n c:Nat) (T:List ByteArray):Prop:=Sl w ao n c (T.map .string)
theorem SlS.count {w:World} {ao:Option Addr} {n c:Nat} {T:List ByteArray} (h:SlS w ao n c T):T.length=n:=by
 have:=Sl.len h;simpa using this
theorem SlS.cell {w:World} {ao:Option Addr} {n c:Nat} {T:List ByteArray} (h:SlS w ao n c T) {k:Nat} {s:ByteArray} (hk:T[k]?=some s):∃b o,ao=some ⟨b,o,none⟩/\w.cell? ⟨b,o+k,none⟩=some (.string s):=
 Sl.at_ h k _ (by rw[List.getElem?_map,hk];rfl)
structure SlF (s:Nat) (w:World) (ao:Option Addr) (n cap:Nat) (xs:List Value):Prop where
 len:xs.length=n*s
 le:n<=cap
 max:cap<=maxLen
 nil:ao= .none->cap=0
 at_:∀i u,xs[i]?=some u->∃b o,ao=some ⟨b,o, .none⟩/\w.cell? ⟨b,o+i, .none⟩=some u
theorem SlF.stay {s:Nat} {w w':World} {ao:Option Addr} {n cap:Nat} {xs:List Value} (h:SlF s w ao n cap xs) (hc:∀p u,w.cell? p=some u->w'.cell? p=some u):SlF s w' ao n cap xs:=
 ⟨h.len,h.le,h.max,h.nil,fun i u hu=>let ⟨b,o,e,c⟩:=h.at_ i u hu;⟨b,o,e,hc _ _ c⟩⟩
theorem SlF.below {s:Nat} {w w':World} {ao:Option Addr} {n cap:Nat} {xs:List Value} (h:SlF s w ao n cap xs) (hb:Below w.heap.size w w'):SlF s w' ao n cap xs:=h.stay (eA hb)
theorem SlF.alloc {s:Nat} {w:World} {ao:Option Addr} {n cap:Nat} {xs:List Value} (h:SlF s w ao n cap xs) (o:Obj):SlF s (w.alloc o) ao n cap xs:=h.below (aA w o)
theorem SlF.drew {s:Nat} {w:World} {ao:Option Addr} {n cap:Nat} {xs:List Value} (h:SlF s w ao n cap xs):SlF s w.drew ao n cap xs:=h.stay fun _ _ h=>h
theorem SlF.keep0 {s:Nat} {w w':World} {ao:Option Addr} {n cap:Nat} {xs:List Value} (h:SlF s w ao n cap xs) (hb:∀ad,ao=some ad->0<n->w'.heap[ad.block]?=w.heap[ad.block]?):SlF s w' ao n cap xs:=
 ⟨h.len,h.le,h.max,h.nil,fun i u hu=>let ⟨b,o,e,c⟩:=h.at_ i u hu;⟨b,o,e,by
  have hl:=h.len;have h1:=(List.getElem?_eq_some_iff.1 hu).1;have h0:0<n:=by
   rcases Nat.eq_zero_or_pos n with h' | h'
   ·subst h';rw[Nat.zero_mul]at hl;omega
   ·exact h'
  rw[World.cell?_of_block (w:=w) (a:=⟨b,o+i, .none⟩) (hb ⟨b,o, .none⟩ e h0)];exact c⟩⟩
theorem SlF.lt {s:Nat} {w:World} {ao:Option Addr} {n cap:Nat} {xs:List Value} (h:SlF s w ao n cap xs) (h0:0<s):∀ad,ao=some ad->0<n->ad.block<w.heap.size:=by
 intro ad e hn;have hl:=h.len;have hp:0<xs.length:=by rw[hl];exact Nat.mul_pos hn h0
 obtain⟨b,o,e',hc⟩:=h.at_ 0 _ (List.getElem?_eq_getElem hp);rw[e]at e'
 cases e'
 exact World.block_lt_of_cell? w _ hc
theorem SlF.nothing {s:Nat} (w:World):SlF s w .none 0 0 []:=⟨by simp,Nat.le_refl _,by unfold maxLen;omega,fun _=>rfl,fun _ _ h=>by simp at h⟩
theorem SlF.drop {s:Nat} {w:World} {ao:Option Addr} {n cap:Nat} {xs:List Value} (h:SlF s w ao n cap xs) {k:Nat} (hk:k<=n):
  SlF s w (if cap=k then ao else ao.map (·.add (k*s))) (n-k) (cap-k) (xs.drop (k*s)):=by
 have hl:=h.len;have:=h.le;have:=h.max;refine⟨by rw[List.length_drop,hl,Nat.sub_mul],by omega,by omega,?_,fun i u hu=> ?_⟩
 ·intro e;split at e
  ·omega
  ·simp at e;have:=h.nil e;omega
 ·rw[List.getElem?_drop]at hu;obtain⟨b,o,e,hc⟩:=h.at_ _ _ hu;have h1:k*s+i<n*s:=by have:=(List.getElem?_eq_some_iff.1 hu).1;omega
  have h2:k<n:=by
   rcases Nat.lt_or_ge k n with h' | h'
   ·exact h'
   ·have:=Nat.mul_le_mul_right s h';omega
  rw[if_neg (by omega),e];exact⟨b,o+k*s,by simp[Addr.add_lit],by rw[<-hc,Nat.add_assoc]⟩
theorem SlF.of_own {s:Nat} {w:World} {base:Nat} {e:TypeId} {v:Value} {n:Nat} {xs:List Value} (h:w.ownsRow base e s v n xs):∃ao cap,v= .slice ao n cap/\SlF s w ao n cap xs:=by
 have hcell:=fun(g:Nat) (hg:v.ownBlock=some g)=>h.cells hg
 obtain⟨h1,h2⟩:=h;rcases h2 with⟨rfl,rfl⟩ | ⟨g,cap,cur,rfl,hg,hh,hn,hm,hs,ht⟩
 ·have:xs= []:=List.eq_nil_of_length_eq_zero (by simpa using h1);subst this;exact⟨_,_,rfl,SlF.nothing _⟩
 ·refine⟨_,_,rfl,⟨by simpa using h1,hn,hm,by simp,fun i u hu=>⟨g,0,rfl,?_⟩⟩⟩;have:=hcell g rfl i u hu;rw[Addr.add_lit]at this;simpa using this
section
variable {α:Type} {enc:α->List Value} {s:Nat}
def flat (enc:α->List Value) (L:List α):List Value:=L.flatMap enc
theorem flat_nil:flat enc []= []:=rfl
theorem xD (x:α) (L:List α):flat enc (x::L)=enc x++flat enc L:=by simp[flat]
theorem cB (L M:List α):flat enc (L++M)=flat enc L++flat enc M:=by simp[flat]
theorem cE (x:α):flat enc [x]=enc x:=by simp[flat]
theorem lB (hs:∀x,(enc x).length=s) (L:List α):(flat enc L).length=L.length*s:=by
 induction L with
 | nil=>simp[flat]
 | cons x L ih=>rw[xD,List.length_append,ih,hs,List.length_cons,Nat.add_mul];omega
theorem yD (hs:∀x,(enc x).length=s):∀{L:List α} {k j:Nat} {x:α},L[k]?=some x->j<s->(flat enc L)[k*s+j]?=(enc x)[j]?
 | [],k,j,x,h,_=>by simp at h
 | y::L,0,j,x,h,hj=>by
  simp at h;subst h;rw[xD,List.getElem?_append_left (by rw[hs];omega)];simp
 | y::L,k+1,j,x,h,hj=>by
  rw[xD,List.getElem?_append_right (by rw[hs,Nat.add_mul];omega),hs];have:=yD hs (L:=L) (k:=k) (j:=j) (x:=x) (by simpa using h) hj;rw[<-this];congr 1;rw[Nat.add_mul];omega
theorem aP (hs:∀x,(enc x).length=s):∀(L:List α) (k:Nat),flat enc (L.drop k)=(flat enc L).drop (k*s)
 | [],k=>by simp[flat]
 | y::L,0=>by simp
 | y::L,k+1=>by
  rw[xD,List.drop_succ_cons,aP hs L k];have e:(k+1)*s=(enc y).length+k*s:=by rw[hs,Nat.add_mul];omega
  rw[e,<-List.drop_drop,List.drop_left]
theorem SlF.elem {w:World} {ao:Option Addr} {n cap:Nat} {L:List α} (h:SlF s w ao n cap (flat enc L)) (hs:∀x,(enc x).length=s) (h0:0<s) {k:Nat} {x:α} (hk:L[k]?=some x):
  ∃b o,ao=some ⟨b,o, .none⟩/\∀j u,(enc x)[j]?=some u->w.cell? ⟨b,o+k*s+j, .none⟩=some u:=by
 have hu0:∃u,(enc x)[0]?=some u:=⟨(enc x)[0]'(by rw[hs];exact h0),List.getElem?_eq_getElem _⟩
 obtain⟨u0,hu0⟩:=hu0;obtain⟨b,o,e,_⟩:=h.at_ (k*s+0) u0 (by rw[yD hs hk h0];exact hu0);refine⟨b,o,e,fun j u hu=> ?_⟩;have hj:j<s:=by have:=(List.getElem?_eq_some_iff.1 hu).1;rw[hs]at this;exact this
 obtain⟨b',o',e',hc⟩:=h.at_ (k*s+j) u (by rw[yD hs hk hj];exact hu);rw[e]at e';simp at e';obtain⟨rfl,rfl⟩:=e';rw[Nat.add_assoc];exact hc
theorem SlF.count {w:World} {ao:Option Addr} {n cap:Nat} {L:List α} (h:SlF s w ao n cap (flat enc L)) (hs:∀x,(enc x).length=s) (h0:0<s):L.length=n:=by
 have:=h.len;rw[lB hs]at this;exact Nat.eq_of_mul_eq_mul_right h0 this
def iA (enc:α->List Value) (s:Nat) (e:TypeId) (w:World) (base:Nat) (v:Value) (L:List α):Prop:=w.ownsRow base e s v L.length (flat enc L)
variable {e:TypeId}
theorem iA.sl {w:World} {base:Nat} {v:Value} {L:List α} (h:iA enc s e w base v L):∃ao cap,v= .slice ao L.length cap/\SlF s w ao L.length cap (flat enc L):=SlF.of_own h
theorem iA.nil (w:World) (base:Nat):iA enc s e w base (.slice .none 0 0) []:=World.ownsRow_nil _ _ _ _
theorem iA.made0 (w:World):iA enc s e (w.alloc (.cells #[] e)) w.heap.size (.slice (some ⟨w.heap.size,0, .none⟩) 0 0) []:=
 World.ownsRow_made w #[] 0 (Nat.le_refl _) (by unfold maxLen;omega) (by simp)
theorem iA.alloc {w:World} {base:Nat} {v:Value} {L:List α} (h:iA enc s e w base v L) (o:Obj):iA enc s e (w.alloc o) base v L:=World.ownsRow.alloc h o
theorem iA.mono {w:World} {base base':Nat} {v:Value} {L:List α} (h:iA enc s e w base v L) (hb:base'<=base):iA enc s e w base' v L:=by
 obtain⟨h1,h2⟩:=h;refine⟨h1,?_⟩;rcases h2 with h2 | ⟨g,cap,cur,hv,hg,r⟩
 ·exact .inl h2
 ·exact .inr ⟨g,cap,cur,hv,by omega,r⟩
theorem iA.below {w w':World} {base:Nat} {v:Value} {L:List α} (h:iA enc s e w base v L) (hb:Below w.heap.size w w'):iA enc s e w' base v L:=by
 have hlt:=World.ownsRow.lt h;obtain⟨h1,h2⟩:=h;refine⟨h1,?_⟩;rcases h2 with h2 | ⟨g,cap,cur,hv,hg,hh,r⟩
 ·exact .inl h2
 ·exact .inr ⟨g,cap,cur,hv,hg,by rw[hb.block g (hlt g (by rw[hv];rfl)).2];exact hh,r⟩
theorem iA.drewN {w:World} {base:Nat} {v:Value} {L:List α} (h:iA enc s e w base v L) (k:Nat):iA enc s e (w.drewN k) base v L:=h.below (bA (Below.refl _ _) k)
theorem SlF.one (hs:∀x,(enc x).length=s) (w:World) (x:α) (t:TypeId) {cs:Array Value} (hcs:cs.toList=enc x):SlF s (w.alloc (.cells cs t)) (some ⟨w.heap.size,0, .none⟩) 1 1 (flat enc [x]):=by
 refine⟨by rw[cE,hs,Nat.one_mul],Nat.le_refl _,by unfold maxLen;omega,by simp,fun i u hu=>⟨_,_,rfl,?_⟩⟩;rw[cE,<-hcs]at hu;simp;simpa using hu
theorem kA {P:Program} {w:World} {ops:Array Oper} {rest:List Oper} {o:Oper} {a:Act} {Q:Exit->Act->World->Prop} (hgd:o.guard= .none) (y x:Operand) (t:TypeId)
  (ho:o.op= .call {callee:= .builtin .append,args:=#[y,x],argTypes:=#[t,t]})
  {base:Nat} (i:TypeInfo) (z:Value) (bytes:Nat) (ht:P.underlying t=some (.slice e)) (hi:P.info? e=some i) (hz:i.zero=some z)
  (hsize:i.size=s) (hby:i.bytes=bytes) (hzs:z.cells.size=s) (hs:∀x,(enc x).length=s) (h0:0<s) (hone:∀x,∀u∈enc x,u.oneCell'=true)
  {v:Value} {L M:List α} (hy:a.eval y=v) (hown:iA enc s e w base v L)
  {ao:Option Addr} {m c:Nat} (hx:a.eval x= .slice ao m c) (hl:SlF s w ao m c (flat enc M))
  (h63:L.length+m<=maxLen) (hbytes:(L.length+m)*bytes<=140737488355328) (hbase:base<=w.heap.size)
  (h:∀v' w',iA enc s e w' base v' (L++M)->w.grownBy w' v.ownBlock->Below base w w'->wpList P ops Q rest (a.put o.dst v') w'):wpList P ops Q (o::rest) a w:=by
 have hM:=hl.count hs h0;have hlt:=World.ownsRow.lt hown;have fin:∀v' w',w'.ownsRow base e s v' (L.length+m) (flat enc L++flat enc M)->w.grownBy w' v.ownBlock->wpList P ops Q rest (a.put o.dst v') w':=fun v' w' h1 h2=>
  h v' w' (by unfold iA;rw[List.length_append,hM,cB];exact h1) h2 ((Below.refl _ _).grown h2 hbase fun k hk=>(hlt k hk).1)
 cases ao with
 | none=>
  have hc:=hl.nil rfl;have hm:m=0:=by have:=hl.le;omega
  subst hc hm;have hn:M= []:=List.eq_nil_of_length_eq_zero hM;subst hn;refine wpList_append_own_none hgd y x t ho base e i s ht hi v L.length _ hy hown hx ?_
  exact fin v w (by rw[flat_nil,List.append_nil];exact hown) (World.grownBy.refl _ _)
 | some ad=>
  refine wpList_append_own _ hgd y x t ho base e i z s bytes ht hi hz hsize hby hzs h0 v L.length _ hy hown ad m c (flat enc M) hx (by rw[lB hs,hM]) ?_ ?_ h63 hbytes hbase (fun v' w' h1 h2 _=>fin v' w' h1 h2)
  ·intro j u hu;obtain⟨b,of,e,hc⟩:=hl.at_ j u hu;obtain rfl:=Option.some.inj e;rw[Addr.add_lit];exact hc
  ·intro u hu;obtain⟨q,_,hq⟩:=List.mem_flatMap.1 hu;exact hone q u hq
theorem iC {P:Program} {w:World} {ops:Array Oper} {rest:List Oper} {o:Oper} {a:Act} {Q:Exit->Act->World->Prop} (hgd:o.guard= .none) (t:TypeId) (x l:Operand)
  (ho:o.op= .slice t x (some l) .none .none) (i:TypeInfo) (ht:P.underlying t=some (.slice e)) (hi:P.info? e=some i) (hsz:i.size=s) (hs:∀x,(enc x).length=s)
  {ao:Option Addr} {n cap:Nat} {L:List α} (hx:a.eval x= .slice ao n cap) (hS:SlF s w ao n cap (flat enc L)) {kl:IntKind} {K:Int} {k:Nat} (hl:a.eval l= .int kl K) (hL:K=(k:Int)) (hk:k<=n)
  (h:∀ao',SlF s w ao' (n-k) (cap-k) (flat enc (L.drop k))->(∀ad',ao'=some ad'->∃ad,ao=some ad/\ad'.block=ad.block)->wpList P ops Q rest (a.put o.dst (.slice ao' (n-k) (cap-k))) w):wpList P ops Q (o::rest) a w:=by
 subst hL;refine mE hgd (v:= .slice (if cap=k then ao else ao.map (·.add (k*s))) (n-k) (cap-k)) (w':=w) ?_ (h _ (by rw[aP hs];exact hS.drop hk) (by
  intro ad' e;split at e
  ·exact⟨ad',e,rfl⟩
  ·cases ao with
   | none=>simp at e
   | some ad=>simp at e;subst e;exact⟨ad,rfl,by simp[Addr.add];split<;>rfl⟩))
 have hr:=tA ht hi w ao n cap (some (.int kl k)) .none k n (fun w=>by simp[Instr.sliceBounds,run_sliceBound,hk]);simp only[execOp,ho,hx,hl,Option.map_some,Option.map_none,Sem.run_bind,hr,Result.andThen_ok,Sem.run_pure,hsz]
end
open Go
structure Mg where
 left:Int
 right:Int
 out:Int
 order:Int
structure Sp where
 name:ByteArray
 id:Int
structure Rw where
 token:ByteArray
 rank:Int
structure Vc where
 tokens:List ByteArray
 merges:List Mg
 specials:List Sp
instance :Inhabited Mg:=⟨⟨0,0,0,0⟩⟩
instance :Inhabited Sp:=⟨⟨ByteArray.empty,0⟩⟩
def tk (T:List ByteArray) (i:Nat):ByteArray:=T.getD i ByteArray.empty
theorem sB {T:List ByteArray} {i:Nat} (h:i<T.length):T[i]?=some (tk T i):=by simp[tk,List.getD,h]
theorem qB {T:List ByteArray} {i:Nat} (h:i<T.length):tk T i∈T:=by
 have:=sB h;exact List.mem_of_getElem? this
theorem iI {T:List ByteArray} {s:ByteArray} (h:s∈T):∃i,i<T.length/\tk T i=s:=by
 obtain⟨i,hi,rfl⟩:=List.getElem_of_mem h;exact⟨i,hi,by simp[tk,List.getD,hi]⟩
def ofT (T:List ByteArray) (s:ByteArray):Int:=if s.size=0 then -1 else match T.findIdx? (fun x=>decide (x=s))with | some i=>(i:Int) | none=> -1
theorem O5 (T:List ByteArray) {s:ByteArray} (h:s.size=0):ofT T s= -1:=by unfold ofT;rw[if_pos h]
theorem tN {T:List ByteArray} {s:ByteArray} {i:Nat} (h0:s.size≠0) (hi:i<T.length) (he:tk T i=s) (hn:∀j,j<i->tk T j≠s):ofT T s=i:=by
 unfold ofT;rw[if_neg h0];have:T.findIdx? (fun x=>decide (x=s))=some i:=by
  rw[List.findIdx?_eq_some_iff_getElem];have ht:∀j (hj:j<T.length),T[j]=tk T j:=fun j hj=>by simp[tk,List.getD,hj]
  exact⟨hi,by rw[ht i hi];simpa using he,fun j hj=>by rw[ht j (by omega)];simpa using hn j hj⟩
 rw[this]
theorem pY {T:List ByteArray} {s:ByteArray} (hn:∀j,j<T.length->tk T j≠s):ofT T s= -1:=by
 unfold ofT;split
 ·rfl
 ·have:T.findIdx? (fun x=>decide (x=s))=none:=by
   rw[List.findIdx?_eq_none_iff];intro x hx;obtain⟨j,hj,rfl⟩:=iI hx;simpa using hn j hj
  rw[this]
theorem O6 (T:List ByteArray) (s:ByteArray):(s.size=0/\ofT T s= -1)\/(s.size≠0/\(∃i:Nat,i<T.length/\tk T i=s/\(∀j,j<i->tk T j≠s)/\ofT T s=i))\/(s.size≠0/\(∀j,j<T.length->tk T j≠s)/\ofT T s= -1):=by
 by_cases h0:s.size=0
 ·exact .inl ⟨h0,O5 T h0⟩
 ·right
  cases h:T.findIdx? (fun x=>decide (x=s))with
  | none=>
   right;rw[List.findIdx?_eq_none_iff]at h;have hn:∀j,j<T.length->tk T j≠s:=fun j hj=>by simpa using h _ (qB hj)
   exact⟨h0,hn,pY hn⟩
  | some i=>
   left;obtain⟨h1,h2,h3⟩:=List.findIdx?_eq_some_iff_getElem.1 h;have ht:∀j (hj:j<T.length),T[j]=tk T j:=fun j hj=>by simp[tk,List.getD,hj]
   have e1:tk T i=s:=by rw[ht i h1]at h2;simpa using h2
   have e2:∀j,j<i->tk T j≠s:=fun j hj=>by have:=h3 j hj;rw[ht j (by omega)]at this;simpa using this
   exact⟨h0,i,h1,e1,e2,tN h0 h1 e1 e2⟩
def wD (T:List ByteArray) (i:Int):Bool:=decide (0<=i) && decide (i<T.length) && decide ((tk T i.toNat).size≠0)
theorem vB {T:List ByteArray} {i:Int}:wD T i=true↔0<=i/\i<T.length/\(tk T i.toNat).size≠0:=by
 unfold wD;simp[and_assoc]
def one (b:Nat):ByteArray:=⟨#[UInt8.ofNat b]⟩
def yQ (T:List ByteArray):Prop:=∀i j,i<j->j<T.length->tk T i=tk T j->(tk T i).size=0
def sD (T:List ByteArray):Prop:=T.length<=4096/\(∀s∈T,s.size<=64)/\yQ T/\∀b,b<256->one b∈T
theorem yQ.of {T:List ByteArray} (h:yQ T) {i:Nat} (hi:i<T.length) (h0:(tk T i).size≠0):ofT T (tk T i)=i:=
 tN h0 hi rfl fun j hj e=>h0 (by rw[<-e];exact h j i hj hi e)
def iB (a b:Mg):Bool:=decide (a.order<b.order\/(a.order=b.order/\(a.left<b.left\/(a.left=b.left/\a.right<b.right))))
theorem vE {a b:Mg}:iB a b=true↔a.order<b.order\/(a.order=b.order/\(a.left<b.left\/(a.left=b.left/\a.right<b.right))):=by unfold iB;simp
theorem aAf {a b c:Mg} (h1:iB a b=true) (h2:iB b c=true):iB a c=true:=by rw[vE]at *;omega
def gX (T:List ByteArray) (m:Mg):Prop:=wD T m.left=true/\wD T m.right=true/\wD T m.out=true/\tk T m.out.toNat=tk T m.left.toNat++tk T m.right.toNat/\0<=m.order/\m.order<=1048576
def rL (a b:Mg):Prop:=iB a b=true/\(a.order=b.order->a.out=b.out)
def cG (a b:Mg):Prop:=¬(a.left=b.left/\a.right=b.right)
theorem rL.trans {a b c:Mg} (h1:rL a b) (h2:rL b c):rL a c:=by
 refine⟨aAf h1.1 h2.1,fun e=> ?_⟩;have a1:=vE.1 h1.1;have a2:=vE.1 h2.1;have e1:=h1.2 (by omega);have e2:=h2.2 (by omega);rw[e1,e2]
def D6 (T:List ByteArray) (M:List Mg):Prop:=M.length<=16384/\(∀m∈M,gX T m)/\M.Pairwise (fun a b=>rL a b/\cG a b)
def rJ (T:List ByteArray) (M:List Mg):Prop:=∀i,i<T.length->1<(tk T i).size->∃m∈M,m.out=(i:Int)
def pR (c:UInt8):Bool:=(decide (97<=c.toNat) && decide (c.toNat<=122)) || (decide (48<=c.toNat) && decide (c.toNat<=57)) || decide (c.toNat=95)
def aC (s:ByteArray):Prop:=s.data.toList.all pR=true/\1<=s.size/\s.size<=24
def vA (a b:ByteArray):Bool:=Op.bytesLess a.toList b.toList
def eU (T:List ByteArray) (s:Sp):Prop:=aC s.name/\0<=s.id/\s.id<T.length/\(tk T s.id.toNat).size=0
def cF (T:List ByteArray) (S:List Sp):Prop:=S.length<=16/\(∀s∈S,eU T s)/\S.Pairwise (fun a b=>vA a.name b.name=true/\a.id≠b.id)
def May (v:Vc):Prop:=sD v.tokens/\D6 v.tokens v.merges/\rJ v.tokens v.merges/\cF v.tokens v.specials
def bG (R:List Rw) (S:List Sp):Prop:=(∀s∈S,0<=s.id/\s.id<4096)/\(∀r∈R,0<=r.rank/\r.rank<4096)/\R.Pairwise (fun a b=>a.rank≠b.rank)
def top (R:List Rw) (S:List Sp):Int:=(R.map (·.rank+1)).foldl max ((S.map (·.id+1)).foldl max 0)
def uJ (R:List Rw) (i:Nat):ByteArray:=match R.find? (fun r=>decide (r.rank=(i:Int)))with | some r=>r.token | none=>ByteArray.empty
def kF (R:List Rw) (S:List Sp):List ByteArray:=(List.range (top R S).toNat).map (uJ R)
def vW (T:List ByteArray) (i:Nat):List Mg:=
 (List.range ((tk T i).size-1)).filterMap fun k=>
  let a:=ofT T ((tk T i).extract 0 (k+1))
  let b:=ofT T ((tk T i).extract (k+1) (tk T i).size)
  if 0<=a/\0<=b then some ⟨a,b,i,i⟩else none
def xG (T:List ByteArray):List Mg:=(List.range T.length).flatMap (vW T)
def F6 (M:List Mg):List Mg:=M.mergeSort (fun a b=>!iB b a)
def F5 (S:List Sp):List Sp:=S.mergeSort (fun a b=>!vA b.name a.name)
theorem R4 {α:Type} {lt:α->α->Bool} {l:List α} (h:l.Pairwise (fun a b=>lt a b=true)) {a b:α} (ha:a∈l) (hb:b∈l) (h1:lt a b=false) (h2:lt b a=false):a=b:=by
 rw[List.pairwise_iff_getElem]at h;obtain⟨i,hi,rfl⟩:=List.getElem_of_mem ha;obtain⟨j,hj,rfl⟩:=List.getElem_of_mem hb;rcases Nat.lt_trichotomy i j with h3 | h3 | h3
 ·rw[h i j hi hj h3]at h1;cases h1
 ·subst h3;rfl
 ·rw[h j i hj hi h3]at h2;cases h2
theorem pH {α:Type} {lt:α->α->Bool} {l l1 l2:List α} (p1:l1.Perm l) (p2:l2.Perm l) (s1:l1.Pairwise (fun a b=>lt b a=false)) (s2:l2.Pairwise (fun a b=>lt b a=false))
  (h:l1.Pairwise (fun a b=>lt a b=true)):l1=l2:=
 List.Perm.eq_of_pairwise (le:=fun a b=>lt b a=false)
  (fun a b ha hb h1 h2=>R4 h ha ((p2.trans p1.symm).mem_iff.1 hb) h2 h1) s1 s2 (p1.trans p2.symm)
theorem zS (a b:Mg) (h:iB a b=true):iB b a=false:=by
 cases h2:iB b a with
 | false=>rfl
 | true=>rw[vE]at h h2;omega
theorem gO {a b c:Mg} (h1:iB a b=false) (h2:iB b c=false):iB a c=false:=by
 have h1':¬_:=fun h=>by rw[vE.2 h]at h1;cases h1
 have h2':¬_:=fun h=>by rw[vE.2 h]at h2;cases h2
 cases h3:iB a c with
 | false=>rfl
 | true=>rw[vE]at h3;omega
theorem zD:∀(x y:List UInt8),Op.bytesLess x y=decide (x<y)
 | [],[]=>by simp[Op.bytesLess]
 | [],_::_=>by simp[Op.bytesLess]
 | _::_,[]=>by simp[Op.bytesLess]
 | a::x,b::y=>by
  unfold Op.bytesLess;rw[zD x y]
  by_cases h1:a<b
  ·simp[h1,List.cons_lt_cons_iff]
  ·by_cases h2:a=b
   ·subst h2;simp
   ·simp[h1,h2,List.cons_lt_cons_iff]
theorem gG (a:ByteArray):vA a a=false:=by unfold vA;rw[zD];simp[List.lt_irrefl]
theorem mM (a b:ByteArray) (h:vA a b=true):vA b a=false:=by
 unfold vA at *;rw[zD]at *;simp at h |-;exact List.le_of_lt h
theorem aK {a b c:ByteArray} (h1:vA a b=true) (h2:vA b c=true):vA a c=true:=by
 unfold vA at *;rw[zD]at *;simp at h1 h2 |-;exact List.lt_trans h1 h2
theorem cN {a b c:ByteArray} (h1:vA a b=false) (h2:vA b c=false):vA a c=false:=by
 unfold vA at *;rw[zD]at *;simp at h1 h2 |-;exact List.le_trans h2 h1
theorem sP (M:List Mg):(F6 M).Perm M:=List.mergeSort_perm _ _
theorem vL (M:List Mg):(F6 M).Pairwise (fun a b=>iB b a=false):=by
 have:=List.pairwise_mergeSort (le:=fun a b=>!iB b a) (fun a b c h1 h2=>by
  simp at h1 h2 |-;exact gO h2 h1) (fun a b=>by
  cases h:iB b a with
  | false=>simp
  | true=>simp[zS _ _ h]) M
 exact this.imp fun{a b} h=>by simpa using h
theorem rP (S:List Sp):(F5 S).Perm S:=List.mergeSort_perm _ _
theorem uL (S:List Sp):(F5 S).Pairwise (fun a b=>vA b.name a.name=false):=by
 have:=List.pairwise_mergeSort (le:=fun a b:Sp=>!vA b.name a.name) (fun a b c h1 h2=>by
  simp at h1 h2 |-;exact cN h2 h1) (fun a b=>by
  cases h:vA b.name a.name with
  | false=>simp
  | true=>simp[mM _ _ h]) S
 exact this.imp fun{a b} h=>by simpa using h
theorem D6.rising {T:List ByteArray} {M:List Mg} (h:D6 T M):M.Pairwise (fun a b=>iB a b=true):=h.2.2.imp fun{a b} h=>h.1.1
theorem cF.rising {T:List ByteArray} {S:List Sp} (h:cF T S):S.Pairwise (fun a b=>vA a.name b.name=true):=h.2.2.imp fun{a b} h=>h.1
theorem uU {T:List ByteArray} {M M':List Mg} (hp:M'.Perm M) (hs:M'.Pairwise (fun a b=>iB b a=false)) (h:D6 T M'\/D6 T (F6 M)):M'=F6 M:=by
 rcases h with h | h
 ·exact pH hp (sP M) hs (vL M) h.rising
 ·exact(pH (sP M) hp (vL M) hs h.rising).symm
theorem tU {T:List ByteArray} {S S':List Sp} (hp:S'.Perm S) (hs:S'.Pairwise (fun a b=>vA b.name a.name=false)) (h:cF T S'\/cF T (F5 S)):S'=F5 S:=by
 rcases h with h | h
 ·exact pH (lt:=fun a b:Sp=>vA a.name b.name) hp (rP S) hs (uL S) h.rising
 ·exact(pH (lt:=fun a b:Sp=>vA a.name b.name) (rP S) hp (uL S) hs h.rising).symm
theorem aAC {T:List ByteArray} {M M':List Mg} {S S':List Sp} (hp:M'.Perm M) (hs:M'.Pairwise (fun a b=>iB b a=false)) (hp2:S'.Perm S) (hs2:S'.Pairwise (fun a b=>vA b.name a.name=false)):
  (May ⟨T,M',S'⟩↔May ⟨T,F6 M,F5 S⟩)/\(May ⟨T,M',S'⟩->M'=F6 M/\S'=F5 S):=by
 have h1:May ⟨T,M',S'⟩->M'=F6 M/\S'=F5 S:=fun h=>⟨uU hp hs (.inl h.2.1),tU hp2 hs2 (.inl h.2.2.2)⟩
 refine⟨⟨fun h=> ?_,fun h=> ?_⟩,h1⟩
 ·obtain⟨e1,e2⟩:=h1 h;rw[<-e1,<-e2];exact h
 ·rw[uU hp hs (.inr h.2.1),tU hp2 hs2 (.inr h.2.2.2)];exact h
theorem nF {α:Type} {R:α->α->Prop} (htrans:∀a b c,R a b->R b c->R a c) {l:List α} (h:∀i a b,l[i]?=some a->l[i+1]?=some b->R a b):l.Pairwise R:=by
 rw[List.pairwise_iff_getElem];intro i j hi hj hij
 induction j with
 | zero=>omega
 | succ j ih=>
  have hstep:=h j _ _ (List.getElem?_eq_getElem (by omega)) (List.getElem?_eq_getElem hj);rcases Nat.lt_or_ge i j with h1 | h1
  ·exact htrans _ _ _ (ih (by omega) h1) hstep
  ·obtain rfl:i=j:=by omega
   exact hstep
open Go.RowKit Go.Maps Go.ChangeMaps Go.WideMaps
set_option linter.unusedSimpArgs false
structure B4 (P:Program) (k:TypeId) (α:Type) where
 val:α->Value
 lit:α->Lit
 ok:α->Prop
 key:∀x,ok x->keyOf P k (val x)=some (lit x)
 inj:∀x y,ok x->ok y->lit x=lit y->x=y
 keyed:Keyed P k
section
variable {P:Program} {k t e:TypeId} {α:Type} {V:B4 P k α}
def A0 (V:B4 P k α) (e:TypeId) (w:World) (mb sz:Nat) (f:α->Option Int):Prop:=
 ∃D:DataW Unit,w.ownsMap P k (plainElem P e) mb sz D/\Tidy D/\size D=sz/\
  ∀s,V.ok s->has D (V.lit s)=(f s).isSome/\∀c,f s=some c->D.atKey (V.lit s) (.lit (.int .i64 0))= .lit (.int .i64 c)
theorem A0.lt {w:World} {mb sz:Nat} {f:α->Option Int} (h:A0 V e w mb sz f):mb<w.heap.size:=let ⟨_,h1,_⟩:=h;h1.lt
theorem A0.stay {w w':World} {mb sz:Nat} {f:α->Option Int} (h:A0 V e w mb sz f) (hb:w'.heap[mb]?=w.heap[mb]?):A0 V e w' mb sz f:=by
 obtain⟨D,⟨es,clock,h1,h2⟩,r⟩:=h;exact⟨D,⟨es,clock,hb.trans h1,h2⟩,r⟩
theorem A0.below {w w':World} {mb sz:Nat} {f:α->Option Int} (h:A0 V e w mb sz f) (hb:Below w.heap.size w w'):A0 V e w' mb sz f:=h.stay (hb.block _ h.lt)
theorem A0.drewN {w:World} {mb sz:Nat} {f:α->Option Int} (h:A0 V e w mb sz f) (n:Nat):A0 V e (w.drewN n) mb sz f:=h.stay rfl
theorem A0.alloc {w:World} {mb sz:Nat} {f:α->Option Int} (h:A0 V e w mb sz f) (o:Obj):A0 V e (w.alloc o) mb sz f:=h.below (aA w o)
theorem fI {w:World} {b n:Nat} {D:DataW Unit} (h:w.ownsMap P k (plainElem P e) b n D):w.ownsMap P k (plainElem P e) b (size D) D:=by
 obtain⟨es,clock,hb,F,hn,rfl⟩:=h;refine⟨es,clock,hb,F,?_,rfl⟩;rw[size_eq,length_sorted];simp
theorem A0.new (V:B4 P k α) (e:TypeId) (w:World):A0 V e (w.alloc (.map #[] 0)) w.heap.size 0 (fun _=>none):=
 ⟨.map [],World.ownsMap_made _ _ _ _,tidy_empty,rfl,fun s _=>⟨rfl,fun c h=>by cases h⟩⟩
theorem A0.congr {w:World} {mb sz sz':Nat} {f g:α->Option Int} (h:A0 V e w mb sz f) (hs:sz=sz') (hf:∀s,V.ok s->f s=g s):A0 V e w mb sz' g:=by
 subst hs;obtain⟨D,h1,h2,h3,h4⟩:=h;exact⟨D,h1,h2,h3,fun s hs=>by rw[<-hf s hs];exact h4 s hs⟩
variable {w:World} {ops:Array Oper} {rest:List Oper} {o:Oper} {a:Act} {Q:Exit->Act->World->Prop}
theorem qV (ht:P.underlying t=some (.map k e)) (he:P.underlying e=some (.int .i64)) (hz:∀w:World,(zeroValue e).run P w= .ok (.int .i64 0) w)
  (hg:o.guard=none) (m x:Operand) (hop:o.op=Op.lookup t m x true) {mb sz:Nat} {f:α->Option Int} (hm:a.eval m= .map (some mb)) (h:A0 V e w mb sz f)
  {s:α} (hx:a.eval x=V.val s) (hs:V.ok s)
  (hK:wpList P ops Q rest (a.put o.dst (.tuple #[.int .i64 ((f s).getD 0), .bool (f s).isSome])) w):wpList P ops Q (o::rest) a w:=by
 obtain⟨D,h1,h2,h3,h4⟩:=h;refine wpList_lookup_own_ok_int w hg m x t hop k e .i64 V.keyed ht he (hz w) mb sz D hm h1 _ (V.lit s) hx (V.key s hs) ?_
 intro c hat _;have hh:=h4 s hs;rw[hh.1];have hc:c=(f s).getD 0:=by
  cases hf:f s with
  | none=>
   rw[hf]at hh;rw[atKey_of_not_has (by simpa using hh.1)]at hat;simpa using hat.symm
  | some c'=>
   have:=hh.2 c' hf;rw[this]at hat;simpa using hat.symm
 rw[hc];exact hK
theorem fT (ht:P.underlying t=some (.map k e)) (he:P.underlying e=some (.int .i64)) (hz:∀w:World,(zeroValue e).run P w= .ok (.int .i64 0) w)
  (hg:o.guard=none) (m x:Operand) (hop:o.op=Op.lookup t m x false) {mb sz:Nat} {f:α->Option Int} (hm:a.eval m= .map (some mb)) (h:A0 V e w mb sz f)
  {s:α} (hx:a.eval x=V.val s) (hs:V.ok s)
  (hK:wpList P ops Q rest (a.put o.dst (.int .i64 ((f s).getD 0))) w):wpList P ops Q (o::rest) a w:=by
 obtain⟨D,h1,h2,h3,h4⟩:=h;refine wpList_lookup_own_int w hg m x t hop k e .i64 V.keyed ht he (hz w) mb sz D hm h1 _ (V.lit s) hx (V.key s hs) ?_
 intro c hat _;have hh:=h4 s hs;have hc:c=(f s).getD 0:=by
  cases hf:f s with
  | none=>
   rw[hf]at hh;rw[atKey_of_not_has (by simpa using hh.1)]at hat;simpa using hat.symm
  | some c'=>
   have:=hh.2 c' hf;rw[this]at hat;simpa using hat.symm
 rw[hc];exact hK
theorem sL [DecidableEq α] (ht:P.underlying t=some (.map k e)) (he:P.underlying e=some (.int .i64))
  (hg:o.guard=none) (m x v:Operand) (hop:o.op=Op.mapUpdate t m x v) {mb sz:Nat} {f:α->Option Int} (hm:a.eval m= .map (some mb)) (h:A0 V e w mb sz f)
  {s:α} (hx:a.eval x=V.val s) (hs:V.ok s) {c:Int} (hv:a.eval v= .int .i64 c) (hc:(Lit.int .i64 c).wf=true) (hn:sz<maxLen)
  (hK:∀w',A0 V e w' mb (if(f s).isSome then sz else sz+1) (fun t=>if t=s then some c else f t)->w.grownBy w' (some mb)->wpList P ops Q rest (a.put o.dst undef) w'):wpList P ops Q (o::rest) a w:=by
 obtain⟨D,h1,h2,h3,h4⟩:=h;have hkl:WideAt.IsKeyLit (V.lit s):=V.keyed.key (V.key s hs);refine wpList_mapUpdate_own w hg m x v t hop k e V.keyed ht _ mb sz D hm h1 hn _ _ (V.lit s) hx hv (V.key s hs) _ [] (plainElem_int he hc) ?_
 intro w' hown hgrow;have e1:size (D.put (V.lit s) (.lit (.int .i64 c)))=if(f s).isSome then sz else sz+1:=by
  rw[size_put h2,(h4 s hs).1,h3]
 refine hK w' ⟨D.put (V.lit s) (.lit (.int .i64 c)),?_,h2.put hkl _,e1,fun t ht'=> ?_⟩ hgrow
 ·have:=fI hown;rw[e1]at this;exact this
 ·by_cases e2:t=s
  ·subst e2;simp only[if_true,Option.isSome_some,Option.some.injEq];refine⟨has_put_same h2.isMap hkl _,fun c' hc'=> ?_⟩;subst hc';exact atKey_put_same h2.isMap hkl _ _
  ·have hne:V.lit t≠V.lit s:=fun h=>e2 (V.inj t s ht' hs h)
   simp only[e2,if_false];rw[has_put_other hne];exact⟨(h4 t ht').1,fun c' hc'=>by rw[atKey_put_other hne];exact(h4 t ht').2 c' hc'⟩
theorem A0.update [DecidableEq α] (ht:P.underlying t=some (.map k e)) (he:P.underlying e=some (.int .i64)) {mb sz:Nat} {f:α->Option Int} (h:A0 V e w mb sz f)
  {s:α} (hs:V.ok s) {c:Int} (hc:(Lit.int .i64 c).wf=true) (hn:sz<maxLen):
  ∃w',(Instr.mapUpdate t (.map (some mb)) (V.val s) (.int .i64 c)).run P w= .ok () w'/\A0 V e w' mb (if(f s).isSome then sz else sz+1) (fun t=>if t=s then some c else f t)/\w.grownBy w' (some mb):=by
 obtain⟨D,h1,h2,h3,h4⟩:=h;have hkl:WideAt.IsKeyLit (V.lit s):=V.keyed.key (V.key s hs);obtain⟨w',hrun,hown,hgrow⟩:=h1.update V.keyed ht hn (V.key s hs) (plainElem_int he hc);have e1:size (D.put (V.lit s) (.lit (.int .i64 c)))=if(f s).isSome then sz else sz+1:=by
  rw[size_put h2,(h4 s hs).1,h3]
 refine⟨w',hrun,⟨D.put (V.lit s) (.lit (.int .i64 c)),?_,h2.put hkl _,e1,fun t ht'=> ?_⟩,hgrow⟩
 ·have:=fI hown;rw[e1]at this;exact this
 ·by_cases e2:t=s
  ·subst e2;simp only[if_true,Option.isSome_some,Option.some.injEq];refine⟨has_put_same h2.isMap hkl _,fun c' hc'=> ?_⟩;subst hc';exact atKey_put_same h2.isMap hkl _ _
  ·have hne:V.lit t≠V.lit s:=fun h=>e2 (V.inj t s ht' hs h)
   simp only[e2,if_false];rw[has_put_other hne];exact⟨(h4 t ht').1,fun c' hc'=>by rw[atKey_put_other hne];exact(h4 t ht').2 c' hc'⟩
theorem A0.get (ht:P.underlying t=some (.map k e)) (he:P.underlying e=some (.int .i64)) (hz:∀w:World,(zeroValue e).run P w= .ok (.int .i64 0) w) {mb sz:Nat} {f:α->Option Int} (h:A0 V e w mb sz f)
  {s:α} (hs:V.ok s):(Instr.lookup t (.map (some mb)) (V.val s) false).run P w= .ok (.int .i64 ((f s).getD 0)) w:=by
 obtain⟨D,h1,h2,h3,h4⟩:=h;obtain⟨c,hrun,hat,_⟩:=h1.lookup_int V.keyed ht he (hz w) (V.key s hs);have hh:=h4 s hs;have hc:c=(f s).getD 0:=by
  cases hf:f s with
  | none=>
   rw[hf]at hh;rw[atKey_of_not_has (by simpa using hh.1)]at hat;simpa using hat.symm
  | some c'=>
   have:=hh.2 c' hf;rw[this]at hat;simpa using hat.symm
 rw[<-hc];exact hrun
structure Entry (V:B4 P k α) (t e:TypeId) (mb sz:Nat) (f:α->Option Int) (s:α) (o0 o1:Obj) (v stamp:Value) (o2:Int->Obj):Prop where
 look0:∀W:World,W.heap[mb]?=some o0->(Instr.lookup t (.map (some mb)) (V.val s) false).run P W= .ok (.int .i64 ((f s).getD 0)) W
 entry:∀W:World,W.heap[mb]?=some o0->(Instr.mapEntry t (.map (some mb)) (V.val s)).run P W= .ok (.tuple #[v,stamp]) (ChangeMaps.setBlock W mb o1)
 at1:∀W:World,W.heap[mb]?=some o0->(ChangeMaps.setBlock W mb o1).heap[mb]?=some o1
 look1:∀W:World,W.heap[mb]?=some o1->(Instr.lookup t (.map (some mb)) (V.val s) false).run P W= .ok (.int .i64 ((f s).getD 0)) W
 store:∀(W:World) (c:Int),W.heap[mb]?=some o1->(Instr.entryStore t (.map (some mb)) stamp (.int .i64 c)).run P W= .ok () (ChangeMaps.setBlock W mb (o2 c))
 fin:∀(W:World) (c:Int),(Lit.int .i64 c).wf=true->W.heap[mb]?=some (o2 c)->∃sz' g,sz'<=sz+1/\A0 V e W mb sz' g/\g s=some c/\∀t,t≠s->g t=f t
theorem dM {es:Array MapEntry} (hnd:(es.toList.map (·.born)).Nodup) {j:Nat} {x:MapEntry} (hj:es[j]?=some x):es.findIdx? (fun e=>(e.born:Int)==(x.born:Int))=some j:=by
 rw[Array.findIdx?_eq_some_iff_getElem];obtain⟨hlt,hx⟩:=Array.getElem?_eq_some_iff.1 hj;refine⟨hlt,by rw[hx];simp,fun i hi=> ?_⟩;have h:=(List.pairwise_iff_getElem.1 hnd) i j (by simp;omega) (by simpa using hlt) hi;simp only[List.getElem_map,Array.getElem_toList]at h;rw[hx]at h;simp only[beq_iff_eq];intro h2;exact h (by omega)
theorem yK {A W:World} {B mb:Nat} {o:Obj} (h:Below B A W) (hm:B<=mb):Below B A (ChangeMaps.setBlock W mb o):=
 ⟨h.os,h.tape,h.output,by have:=h.size;simp[ChangeMaps.setBlock];exact this,fun q hq=>by
  rw[<-h.block q hq];show(W.heap.setIfInBounds mb o)[q]?=_
  rw[Array.getElem?_setIfInBounds_ne (by omega)]⟩
theorem A0.entry [DecidableEq α] (ht:P.underlying t=some (.map k e)) (he:P.underlying e=some (.int .i64)) (hz:∀w:World,(zeroValue e).run P w= .ok (.int .i64 0) w) {mb sz:Nat} {f:α->Option Int} (h:A0 V e w mb sz f)
  {s:α} (hs:V.ok s) (hn:sz<maxLen):∃o0 o1 v stamp o2,w.heap[mb]?=some o0/\Entry V t e mb sz f s o0 o1 v stamp o2:=by
 have hkey:=V.key s hs;have hget:=fun(W:World) (hW:A0 V e W mb sz f)=>A0.get (s:=s) ht he hz hW hs
 have hupd:=fun(W:World) (hW:A0 V e W mb sz f) (c:Int) (hc:(Lit.int .i64 c).wf=true)=>A0.update (s:=s) ht he hW hs hc hn
 have hmem:=h;obtain⟨D,⟨es,clock,hb,F,hsz,hD⟩,hrest⟩:=h;have hM:∀W:World,W.heap[mb]?=some (.map es clock)->A0 V e W mb sz f:=fun W hW=>⟨D,⟨es,clock,hW,F,hsz,hD⟩,hrest⟩
 by_cases hx:∃x∈es.toList,x.key=V.val s
 ·
  obtain⟨x,hxm,hxk⟩:=hx;obtain⟨j,hj⟩:∃j,es[j]?=some x:=by
   obtain⟨j,hj,rfl⟩:=List.getElem_of_mem hxm;exact⟨j,by simp at hj;exact Array.getElem?_eq_getElem hj⟩
  have hjl:=(Array.getElem?_eq_some_iff.1 hj).1;have hfind:∀W:World,(Instr.findKey k (V.val s) es.toList).run P W= .ok (some (j,x.val)) W:=fun W=>by
   rcases V.keyed.find W hkey es.toList F.keys with⟨_,h2⟩ | ⟨j',e0,h1,h2,h3⟩
   ·exact absurd hxk (h2 x hxm)
   ·have hjj:j'=j:=by
     have hnd:=F.stamped.2.2;have hj':es[j']?=some e0:=by simpa using h2
     have hjl':=(Array.getElem?_eq_some_iff.1 hj').1;rcases Nat.lt_trichotomy j' j with h4 | h4 | h4
     ·have:=(List.pairwise_iff_getElem.1 hnd) j' j (by simpa using hjl') (by simpa using hjl) h4;simp only[List.getElem_map,Array.getElem_toList]at this;rw[(Array.getElem?_eq_some_iff.1 hj).2,(Array.getElem?_eq_some_iff.1 hj').2,hxk,h3]at this;exact absurd rfl this
     ·exact h4
     ·have:=(List.pairwise_iff_getElem.1 hnd) j j' (by simpa using hjl) (by simpa using hjl') h4;simp only[List.getElem_map,Array.getElem_toList]at this;rw[(Array.getElem?_eq_some_iff.1 hj).2,(Array.getElem?_eq_some_iff.1 hj').2,hxk,h3]at this;exact absurd rfl this
    subst hjj;have hj':es[j']?=some e0:=by simpa using h2
    rw[hj]at hj'
    cases hj'
    exact h1
  have hmod:es.modify j (fun e=>{e with key:=V.val s})=es:=by
   apply Array.ext
   ·simp
   ·intro i h1 h2;rw[Array.getElem_modify];split
    ·subst i;have:es[j]=x:=(Array.getElem?_eq_some_iff.1 hj).2;rw[this,<-hxk]
    ·rfl
  have hmod2:∀c:Int,(es.modify j fun e=>{e with key:=V.val s,val:= .int .i64 c})=es.modify j (fun e=>{e with val:= .int .i64 c}):=fun c=>by
   apply Array.ext
   ·simp
   ·intro i h1 h2;rw[Array.getElem_modify,Array.getElem_modify];split
    ·subst i;have:es[j]=x:=(Array.getElem?_eq_some_iff.1 hj).2;rw[this,<-hxk]
    ·rfl
  have hstay:∀W:World,(Instr.keyThatStays x.key (V.val s)).run P W= .ok (V.val s) W:=fun W=>by
   rw[hxk];exact V.keyed.stays W hkey
  refine⟨.map es clock, .map es clock,x.val,goInt x.born,fun c=> .map (es.modify j (fun e=>{e with val:= .int .i64 c})) clock,hb,⟨fun W hW=>hget W (hM W hW),fun W hW=> ?_,fun W hW=>heap_setBlock_same hW _,fun W hW=>hget W (hM W hW),fun W c hW=> ?_,fun W c hc hW=> ?_⟩⟩
  ·simp[Instr.mapEntry,run_underlying ht,MapKept.run_getObj_map hW,V.keyed.check W false hkey,hfind W,hstay W,hmod,MapKept.run_setObj_map _ hW,Result.andThen,ChangeMaps.setBlock,hj]
  ·simp[Instr.entryStore,MapKept.run_getObj_map hW,MapKept.run_setObj_map _ hW,Result.andThen,ChangeMaps.setBlock,goInt,asInt,asIntOf,dM F.stamped.2.1 hj]
  ·obtain⟨w',hrun,hm',hg'⟩:=hupd w hmem c hc;have hrun2:(Instr.mapUpdate t (.map (some mb)) (V.val s) (.int .i64 c)).run P w= .ok () (ChangeMaps.setBlock w mb (.map (es.modify j (fun e=>{e with val:= .int .i64 c})) clock)):=by
    simp[Instr.mapUpdate,run_underlying ht,MapKept.run_getObj_map hb,V.keyed.check w false hkey,hfind w,hj,hstay w,hmod2,MapKept.run_setObj_map _ hb,Result.andThen,ChangeMaps.setBlock]
   rw[hrun]at hrun2;have hw':w'=_:=(Result.ok.inj hrun2).2;refine⟨_,_,?_,hm'.stay (by rw[hW,hw'];exact(heap_setBlock_same hb _).symm),by simp,fun t ht=>by simp[ht]⟩;split<;>omega
 ·have hx':∀x∈es.toList,x.key≠V.val s:=fun x hxm e=>hx ⟨x,hxm,e⟩
  have hfind:∀W:World,(Instr.findKey k (V.val s) es.toList).run P W= .ok none W:=fun W=>by
   rcases V.keyed.find W hkey es.toList F.keys with⟨h1,_⟩ | ⟨j',e0,_,h2,h3⟩
   ·exact h1
   ·exact absurd h3 (hx' e0 (by have:es.toList[j']?=some e0:=h2;exact List.mem_of_getElem? this))
  have hf0:(f s).getD 0=0:=by
   have h1:=hget w hmem;simp[Instr.lookup,run_underlying ht,MapKept.run_getObj_map hb,V.keyed.check w _ hkey,hfind w,hz w,Result.andThen]at h1;exact h1.symm
  have hfit:∀c:Int,(Lit.int .i64 c).wf=true->A0 V e (ChangeMaps.setBlock w mb (.map (es.push ⟨V.val s, .int .i64 c,clock⟩) (clock+1))) mb (if(f s).isSome then sz else sz+1) (fun t=>if t=s then some c else f t):=fun c hc=>by
   obtain⟨w',hrun,hm',hg'⟩:=hupd w hmem c hc;have hrun2:(Instr.mapUpdate t (.map (some mb)) (V.val s) (.int .i64 c)).run P w= .ok () (ChangeMaps.setBlock w mb (.map (es.push ⟨V.val s, .int .i64 c,clock⟩) (clock+1))):=by
    simp[Instr.mapUpdate,run_underlying ht,MapKept.run_getObj_map hb,V.keyed.check w false hkey,hfind w,MapKept.run_setObj_map _ hb,Result.andThen,ChangeMaps.setBlock]
   rw[hrun]at hrun2;have hw':w'=_:=(Result.ok.inj hrun2).2;rw[<-hw'];exact hm'
  have hw0:(Lit.int .i64 0).wf=true:=by decide
  have hes1:∀W:World,W.heap[mb]?=some (.map (es.push ⟨V.val s, .int .i64 0,clock⟩) (clock+1))->(Instr.lookup t (.map (some mb)) (V.val s) false).run P W= .ok (.int .i64 ((f s).getD 0)) W:=fun W hW=>by
   have h1:=(hfit 0 hw0).stay (w':=W) (by rw[hW];exact(heap_setBlock_same hb _).symm);have h2:=A0.get (s:=s) ht he hz h1 hs;rw[h2,hf0];simp
  have hidx:(es.push ⟨V.val s, .int .i64 0,clock⟩).findIdx? (fun e=>(e.born:Int)==(clock:Int))=some es.size:=by
   rw[Array.findIdx?_eq_some_iff_getElem];refine⟨by simp,by simp,fun i hi=> ?_⟩;rw[Array.getElem_push_lt hi];have:=F.stamped.1 es[i] (by simp);simp only[beq_iff_eq];omega
  have hmod:∀c:Int,(es.push ⟨V.val s, .int .i64 0,clock⟩).modify es.size (fun e=>{e with val:= .int .i64 c})=es.push ⟨V.val s, .int .i64 c,clock⟩:=fun c=>by
   apply Array.ext
   ·simp
   ·intro i h1 h2;rw[Array.getElem_modify];split
    ·subst i;simp
    ·rename_i hne;have hi:i<es.size:=by simp at h2;omega
     rw[Array.getElem_push_lt hi,Array.getElem_push_lt hi]
  refine⟨.map es clock, .map (es.push ⟨V.val s, .int .i64 0,clock⟩) (clock+1), .int .i64 0,goInt clock,fun c=> .map (es.push ⟨V.val s, .int .i64 c,clock⟩) (clock+1),hb,⟨fun W hW=>hget W (hM W hW),fun W hW=> ?_,fun W hW=>heap_setBlock_same hW _,hes1,fun W c hW=> ?_,fun W c hc hW=> ?_⟩⟩
  ·simp[Instr.mapEntry,run_underlying ht,MapKept.run_getObj_map hW,V.keyed.check W false hkey,hfind W,hz W,MapKept.run_setObj_map _ hW,Result.andThen,ChangeMaps.setBlock]
  ·simp[Instr.entryStore,MapKept.run_getObj_map hW,MapKept.run_setObj_map _ hW,Result.andThen,ChangeMaps.setBlock,goInt,asInt,asIntOf,hidx,hmod c]
  ·refine⟨_,_,?_,(hfit c hc).stay (by rw[hW];exact(heap_setBlock_same hb _).symm),by simp,fun t ht=>by simp[ht]⟩;split<;>omega
end
noncomputable def B4.of {P:Program} {k:TypeId} {α:Type} (val:α->Value) (ok:α->Prop) (h:∀x,ok x->(keyOf P k (val x)).isSome=true) (inj:∀x y,val x=val y->x=y) (K:Keyed P k):B4 P k α where
 val:=val
 lit x:=(keyOf P k (val x)).getD (.bool false)
 ok:=ok
 key x hx:=by
  cases e:keyOf P k (val x)with
  | none=>have:=h x hx;rw[e]at this;cases this
  | some l=>rfl
 inj x y hx hy e:=by
  cases e1:keyOf P k (val x)with
  | none=>have:=h x hx;rw[e1]at this;cases this
  | some l=>
   cases e2:keyOf P k (val y)with
   | none=>have:=h y hy;rw[e2]at this;cases this
   | some l2=>
    rw[e1,e2]at e;simp at e;subst e;exact inj x y (K.inj e1 e2)
 keyed:=K
noncomputable def strView {P:Program} {k:TypeId} (hk:P.underlying k=some .string):B4 P k ByteArray:=
 B4.of .string (fun s=>s.size<=maxLen) (fun s hs=>by rw[keyOf_string_mk hk hs];rfl) (fun x y h=>by simpa using h) (string_keyed hk)
theorem gC {x:Int}:(Lit.int .i64 x).wf=true↔ -9223372036854775808<=x/\x<=9223372036854775807:=by
 simp[Lit.wf,IntKind.min,IntKind.max,IntKind.signed,IntKind.bits]
noncomputable def aCv {P:Program} {k:TypeId} (hk:P.underlying k=some (.int .i64)):B4 P k Int:=
 B4.of (.int .i64) (fun x=>(Lit.int .i64 x).wf=true) (fun s hs=>by rw[keyOf_int_mk hk hs];rfl) (fun x y h=>by simpa using h) (int_keyed hk)
theorem bZ {T:List ByteArray} {i:Int} (h:i<0):wD T i=false:=by unfold wD;simp;omega
theorem aZ {T:List ByteArray} {i:Int} (h:(T.length:Int)<=i):wD T i=false:=by unfold wD;simp;omega
theorem aCu {T:List ByteArray} {k:Nat} (h:k<T.length):wD T (k:Int)=decide ((tk T k).size≠0):=by unfold wD;simp[h]
theorem Y9 {T:List ByteArray} {ao:Option Addr} {n c:Nat} (i:Int) (w:World) (hT:SlS w ao n c T):
  Calls Tryz.prog 193 #[.slice ao n c, .int .i64 i] w fun e w'=>e= .returned (.bool (wD T i))/\w=w':=by
 have hm:=Nat.le_trans (Sl.le hT) (Sl.max hT);unfold maxLen at hm;have hlen:=hW_ hT.count
 by_cases h0:i<0
 ·have HF:=hW_ (bZ (T:=T) h0);go_enter Tryz.func193,Tryz.ntmps193;go_wp2;go_ret;exact⟨sA HF.out.symm,rfl⟩
 ·obtain⟨k,rfl⟩:=Int.eq_ofNat_of_zero_le (Int.not_lt.1 h0)
  by_cases hk:k<n
  ·obtain⟨b,o,rfl,hc⟩:=hT.cell (sB (T:=T) (i:=k) (by have:=hlen.out;omega));have HF:=hW_ (aCu (T:=T) (k:=k) (by have:=hlen.out;omega))
   by_cases hz:(tk T k).size=0
   ·obtain⟨e1,e2,e3⟩:=lD hz;have HZ:=hW_ hz;clear hz;go_enter Tryz.func193,Tryz.ntmps193;go_wp2;go_ret;exact⟨sA (by rw[HF.out];simp[HZ.out]),rfl⟩
   ·obtain⟨e1,e2,e3⟩:=E2 hz;have HZ:=hW_ hz;clear hz;go_enter Tryz.func193,Tryz.ntmps193;go_wp2;go_ret;exact⟨sA (by rw[HF.out];simp[HZ.out]),rfl⟩
  ·have HF:=hW_ (aZ (T:=T) (i:=(k:Int)) (by have:=hlen.out;omega));go_enter Tryz.func193,Tryz.ntmps193;go_wp2;go_ret;exact⟨sA HF.out.symm,rfl⟩
theorem xB {T:List ByteArray} {ao:Option Addr} {n c:Nat} (i:Int) (w:World) (hT:SlS w ao n c T):
  Calls Tryz.prog 176 #[.slice ao n c, .int .i64 i] w fun e w'=>e= .returned (.bool (wD T i))/\w=w':=by
 have hm:=Nat.le_trans (Sl.le hT) (Sl.max hT);unfold maxLen at hm;have hlen:=hW_ hT.count
 by_cases h0:i<0
 ·have HF:=hW_ (bZ (T:=T) h0);go_enter Tryz.func176,Tryz.ntmps176;go_wp2;go_ret;exact⟨sA HF.out.symm,rfl⟩
 ·obtain⟨k,rfl⟩:=Int.eq_ofNat_of_zero_le (Int.not_lt.1 h0)
  by_cases hk:k<n
  ·obtain⟨b,o,rfl,hc⟩:=hT.cell (sB (T:=T) (i:=k) (by have:=hlen.out;omega));have HF:=hW_ (aCu (T:=T) (k:=k) (by have:=hlen.out;omega))
   by_cases hz:(tk T k).size=0
   ·obtain⟨e1,e2,e3⟩:=lD hz;have HZ:=hW_ hz;clear hz;go_enter Tryz.func176,Tryz.ntmps176;go_wp2;go_ret;exact⟨sA (by rw[HF.out];simp[HZ.out]),rfl⟩
   ·obtain⟨e1,e2,e3⟩:=E2 hz;have HZ:=hW_ hz;clear hz;go_enter Tryz.func176,Tryz.ntmps176;go_wp2;go_ret;exact⟨sA (by rw[HF.out];simp[HZ.out]),rfl⟩
  ·have HF:=hW_ (aZ (T:=T) (i:=(k:Int)) (by have:=hlen.out;omega));go_enter Tryz.func176,Tryz.ntmps176;go_wp2;go_ret;exact⟨sA HF.out.symm,rfl⟩
theorem T_none {T:List ByteArray} {s:ByteArray} {n k:Nat} (hl:T.length=n) (hk:¬k<n) (h:∀j,j<k->tk T j≠s):ofT T s= -1:=pY fun j hj=>h j (by omega)
theorem O1 {T:List ByteArray} {ao:Option Addr} {n c:Nat} (s:ByteArray) (w:World) (hT:SlS w ao n c T):
  Calls Tryz.prog 106 #[.slice ao n c, .string s] w fun e w'=>e= .returned (.int .i64 (ofT T s))/\w=w':=by
 have hm:=Nat.le_trans (Sl.le hT) (Sl.max hT);unfold maxLen at hm;have hlen:=hW_ hT.count
 by_cases hz:s.size=0
 ·obtain⟨e1,e2,e3⟩:=lD hz;have HF:=hW_ (O5 T hz);clear hz;go_enter Tryz.func106,Tryz.ntmps106;go_wp2;go_ret;exact⟨C3 HF.out.symm,rfl⟩
 ·obtain⟨e1,e2,e3⟩:=E2 hz;have HZ:=hW_ hz;clear hz;go_enter Tryz.func106,Tryz.ntmps106;go_wp2;go_loop [5,10] (fun _ i=>∃k:Nat,k<=n/\i= .int .i64 k/\Hid (∀j,j<k->tk T j≠s)) (fun _ i=>n-(intOf i).toNat)
  case atStart=>exact⟨0,Nat.zero_le _,rfl,hW_ (fun j h=>by omega)⟩
  case round=>
   obtain⟨k,hk,rfl,hno⟩:=hrel
   by_cases hlt:k<n
   ·obtain⟨b,o,rfl,hc⟩:=hT.cell (sB (T:=T) (i:=k) (by have:=hlen.out;omega))
    by_cases hkk:tk T k=s
    ·have hb:=gH hkk;have HF:=hW_ (tN HZ.out (by have:=hlen.out;omega) hkk hno.out);clear hkk;go_wp2;go_ret;exact⟨C3 HF.out.symm,rfl⟩
    ·have hb:=oJ hkk;have Hk:=hW_ hkk;clear hkk;go_wp2;go_round
     case rel=>exact⟨k+1,by omega,by go_num,hW_ (fun j hj=>by
      by_cases ej:j=k
      ·subst ej;exact Hk.out
      ·exact hno.out j (by omega))⟩
     case measure=>simp[intOf];omega
   ·have HF:=hW_ (T_none hlen.out hlt hno.out);go_wp2;go_ret;exact⟨C3 HF.out.symm,rfl⟩
theorem eZ {T:List ByteArray} {ao:Option Addr} {n c:Nat} (s:ByteArray) (w:World) (hT:SlS w ao n c T) (hz:s.size≠0):
  Calls Tryz.prog 147 #[.slice ao n c, .string s] w fun e w'=>e= .returned (.int .i64 (ofT T s))/\w=w':=by
 have hm:=Nat.le_trans (Sl.le hT) (Sl.max hT);unfold maxLen at hm;have hlen:=hW_ hT.count;have HZ:=hW_ hz;clear hz;go_enter Tryz.func147,Tryz.ntmps147;go_wp2;go_loop [5,8] (fun _ i=>∃k:Nat,k<=n/\i= .int .i64 k/\Hid (∀j,j<k->tk T j≠s)) (fun _ i=>n-(intOf i).toNat)
 case atStart=>exact⟨0,Nat.zero_le _,rfl,hW_ (fun j h=>by omega)⟩
 case round=>
  obtain⟨k,hk,rfl,hno⟩:=hrel
  by_cases hlt:k<n
  ·obtain⟨b,o,rfl,hc⟩:=hT.cell (sB (T:=T) (i:=k) (by have:=hlen.out;omega))
   by_cases hkk:tk T k=s
   ·have hb:=gH hkk.symm;have HF:=hW_ (tN HZ.out (by have:=hlen.out;omega) hkk hno.out);clear hkk;go_wp2;go_ret;exact⟨C3 HF.out.symm,rfl⟩
   ·have hb:=oJ (Ne.symm hkk);have Hk:=hW_ hkk;clear hkk;go_wp2;go_round
    case rel=>exact⟨k+1,by omega,by go_num,hW_ (fun j hj=>by
     by_cases ej:j=k
     ·subst ej;exact Hk.out
     ·exact hno.out j (by omega))⟩
    case measure=>simp[intOf];omega
  ·have HF:=hW_ (T_none hlen.out hlt hno.out);go_wp2;go_ret;exact⟨C3 HF.out.symm,rfl⟩
structure Vd where
 ta:Option Addr
 tn:Nat
 tc:Nat
 ma:Option Addr
 mn:Nat
 mc:Nat
 sa:Option Addr
 sn:Nat
 sc:Nat
abbrev Vd.val (d:Vd):Value:= .agg #[.slice d.ta d.tn d.tc, .slice d.ma d.mn d.mc, .slice d.sa d.sn d.sc]
def Mg.enc (m:Mg):List Value:=[.int .i64 m.left, .int .i64 m.right, .int .i64 m.out, .int .i64 m.order]
def Sp.enc (s:Sp):List Value:=[.string s.name, .int .i64 s.id]
theorem Mg.enc_len (m:Mg):m.enc.length=4:=rfl
theorem Sp.enc_len (m:Sp):m.enc.length=2:=rfl
structure xE (w:World) (d:Vd) (V:Vc):Prop where
 tok:SlS w d.ta d.tn d.tc V.tokens
 mrg:SlF 4 w d.ma d.mn d.mc (flat Mg.enc V.merges)
 spc:SlF 2 w d.sa d.sn d.sc (flat Sp.enc V.specials)
theorem xE.below {w w':World} {d:Vd} {V:Vc} (h:xE w d V) (hb:Below w.heap.size w w'):xE w' d V:=⟨Sl.below h.tok hb,h.mrg.below hb,h.spc.below hb⟩
theorem of_calls {V:Vc} {d:Vd} (s:ByteArray) (w:World) (hV:xE w d V):
  Calls Tryz.prog 109 #[d.val, .string s] w fun e w'=>e= .returned (.int .i64 (ofT V.tokens s))/\Below w.heap.size w w':=by
 have hw:=aA w (.cells #[.slice d.ta d.tn d.tc, .slice d.ma d.mn d.mc, .slice d.sa d.sn d.sc] 26);have HT:=hW_ (Sl.below hV.tok hw);have HW:=hW_ hw;clear hw hV
 by_cases hz:s.size=0
 ·obtain⟨e1,e2,e3⟩:=lD hz;have HF:=hW_ (O5 V.tokens hz);clear hz;go_enter Tryz.func109,Tryz.ntmps109;go_wp2;go_ret;exact⟨C3 HF.out.symm,HW.out⟩
 ·obtain⟨e1,e2,e3⟩:=E2 hz;have HZ:=hW_ hz;clear hz;go_enter Tryz.func109,Tryz.ntmps109;go_wp2_with (fail);refine(eZ s _ HT.out HZ.out).mono ?_
  rintro e w' ⟨rfl,rfl⟩;go_wp2;go_ret;exact⟨rfl,HW.out⟩
theorem zE (w:World):(zeroValue 3).run Tryz.prog w= .ok (.int .i64 0) w:=by kernel_rfl
noncomputable abbrev VS:B4 Tryz.prog 9 ByteArray:=strView Tryz.underlying9
abbrev aEn (w:World) (mb sz:Nat) (f:ByteArray->Option Int):Prop:=A0 VS 3 w mb sz f
section
variable {w:World} {ops:Array Oper} {rest:List Oper} {o:Oper} {a:Act} {Q:Exit->Act->World->Prop}
theorem eG (hg:o.guard=none) (m x:Operand) (hop:o.op=Op.lookup 177 m x true) {mb sz:Nat} {f:ByteArray->Option Int} (hm:a.eval m= .map (some mb)) (h:aEn w mb sz f)
  {s:ByteArray} (hx:a.eval x= .string s) (hs:s.size<=maxLen)
  (hK:wpList Tryz.prog ops Q rest (a.put o.dst (.tuple #[.int .i64 ((f s).getD 0), .bool (f s).isSome])) w):wpList Tryz.prog ops Q (o::rest) a w:=
 qV (V:=VS) Tryz.underlying177 Tryz.underlying3 zE hg m x hop hm h (s:=s) hx hs hK
theorem eT (hg:o.guard=none) (m x v:Operand) (hop:o.op=Op.mapUpdate 177 m x v) {mb sz:Nat} {f:ByteArray->Option Int} (hm:a.eval m= .map (some mb)) (h:aEn w mb sz f)
  {s:ByteArray} (hx:a.eval x= .string s) (hs:s.size<=maxLen) {c:Int} (hv:a.eval v= .int .i64 c) (hc:(Lit.int .i64 c).wf=true) (hn:sz<maxLen)
  (hK:∀w',aEn w' mb (if(f s).isSome then sz else sz+1) (fun t=>if t=s then some c else f t)->w.grownBy w' (some mb)->wpList Tryz.prog ops Q rest (a.put o.dst undef) w'):wpList Tryz.prog ops Q (o::rest) a w:=
 sL (V:=VS) Tryz.underlying177 Tryz.underlying3 hg m x v hop hm h (s:=s) hx hs hv hc hn hK
end
def C9 (T:List ByteArray) (k:Nat) (f:ByteArray->Option Int):Prop:=∀s i,f s=some i↔s.size≠0/\∃j,j<k/\i=((j:Nat):Int)/\tk T j=s
def F8 (T:List ByteArray) (k:Nat):Prop:=∀i j,i<j->j<k->tk T i=tk T j->(tk T i).size=0
theorem C9.zero (T:List ByteArray):C9 T 0 (fun _=>none):=fun s i=>⟨(fun h=>by cases h),fun⟨_,j,hj,_⟩=>by omega⟩
theorem F8.zero (T:List ByteArray):F8 T 0:=fun i j h1 h2=>by omega
theorem C9.skip {T:List ByteArray} {k:Nat} {f:ByteArray->Option Int} (h:C9 T k f) (hz:(tk T k).size=0):C9 T (k+1) f:=fun s i=>by
 rw[h s i];constructor
 ·rintro⟨h1,j,h2,h3⟩;exact⟨h1,j,by omega,h3⟩
 ·rintro⟨h1,j,h2,h3,h4⟩;refine⟨h1,j,?_,h3,h4⟩;have:j≠k:=fun e=>h1 (by rw[<-h4,e];exact hz)
  omega
theorem F8.skip {T:List ByteArray} {k:Nat} (h:F8 T k) (hz:(tk T k).size=0):F8 T (k+1):=fun i j h1 h2 e=>by
 by_cases hj:j=k
 ·rw[e,hj];exact hz
 ·exact h i j h1 (by omega) e
theorem C9.put {T:List ByteArray} {k:Nat} {f:ByteArray->Option Int} (h:C9 T k f) (hz:(tk T k).size≠0) (hf:f (tk T k)=none):C9 T (k+1) (fun t=>if t=tk T k then some (k:Int)else f t):=fun s i=>by
 show(if s=tk T k then some (k:Int)else f s)=some i↔_
 by_cases e:s=tk T k
 ·rw[if_pos e];constructor
  ·intro h1;simp at h1;exact⟨by rw[e];exact hz,k,by omega,h1.symm,e.symm⟩
  ·rintro⟨h1,j,h2,h3,h4⟩
   by_cases hj:j=k
   ·rw[h3,hj]
   ·have:f s=some i:=(h s i).2 ⟨h1,j,by omega,h3,h4⟩;rw[e,hf]at this;cases this
 ·rw[if_neg e,h s i];constructor
  ·rintro⟨h1,j,h2,h3⟩;exact⟨h1,j,by omega,h3⟩
  ·rintro⟨h1,j,h2,h3,h4⟩;have:j≠k:=fun ej=>e (by rw[<-h4,ej])
   exact⟨h1,j,by omega,h3,h4⟩
theorem F8.put {T:List ByteArray} {k:Nat} {f:ByteArray->Option Int} (h:F8 T k) (hp:C9 T k f) (hz:(tk T k).size≠0) (hf:f (tk T k)=none):F8 T (k+1):=fun i j h1 h2 e=>by
 by_cases hj:j=k
 ·subst hj;have:f (tk T j)=some (i:Int):=(hp _ _).2 ⟨hz,i,h1,rfl,e⟩;rw[hf]at this;cases this
 ·exact h i j h1 (by omega) e
theorem C9.twice {T:List ByteArray} {k:Nat} {f:ByteArray->Option Int} (hp:C9 T k f) (hk:k<T.length) {i:Int} (hf:f (tk T k)=some i):¬yQ T:=fun hu=>by
 obtain⟨h1,j,h2,h3,h4⟩:=(hp _ _).1 hf;exact h1 (by rw[<-h4];exact hu j k h2 hk h4)
theorem F8.all {T:List ByteArray} {k n:Nat} (h:F8 T k) (hl:T.length=n) (hk:¬k<n):yQ T:=fun i j h1 h2 e=>h i j h1 (by omega) e
theorem C9.all {T:List ByteArray} {k n:Nat} {f:ByteArray->Option Int} (h:C9 T k f) (hk:k<=n) (hk2:¬k<n):C9 T n f:=by
 obtain rfl:k=n:=by omega
 exact h
def aBJ (T:List ByteArray) (w:World) (e:Ending) (w':World):Prop:=
 ((yQ T/\∃mb sz f,e= .returned (.tuple #[.map (some mb), .bool true])/\w.heap.size<=mb/\aEn w' mb sz f/\C9 T T.length f)\/(¬yQ T/\e= .returned (.tuple #[.map none, .bool false])))/\Below w.heap.size w w'
theorem gW {T:List ByteArray} {ao:Option Addr} {n c:Nat} (w:World) (hT:SlS w ao n c T) (hsz:∀s∈T,s.size<=maxLen) (hn:n<=1048576):
  Calls Tryz.prog 211 #[.slice ao n c] w (aBJ T w):=by
 have hm:=Nat.le_trans (Sl.le hT) (Sl.max hT);unfold maxLen at hm;have hlen:=hW_ hT.count;have hmm:=@run_makeMap Tryz.prog;have HT:=hW_ hT;have HS:=hW_ hsz;have H0:=hW_ (A0.new VS 3 w);have HB0:=hW_ (aA w (.map #[] 0));clear hT hsz;go_enter Tryz.func211,Tryz.ntmps211;go_wp2;go_loopw [5,6,7,8,12] (fun _ _ _ _ i wr=>∃(k sz:Nat) (f:ByteArray->Option Int),k<=n/\i= .int .i64 k/\sz<=k/\aEn wr w.heap.size sz f/\Hid (C9 T k f)/\Hid (F8 T k)/\Below w.heap.size w wr) (fun _ _ _ _ i _=>n-(intOf i).toNat)
 case atStart=>exact⟨0,0,_,Nat.zero_le _,rfl,Nat.le_refl _,H0.out,hW_ (C9.zero T),hW_ (F8.zero T),HB0.out⟩
 case round=>
  obtain⟨k,sz,f,hk,rfl,hszk,hmap,HP,HU,hb⟩:=hrel;have HM:=hW_ hmap;have HB:=hW_ hb;clear hmap hb
  by_cases hlt:k<n
  ·have hkT:k<T.length:=by have:=hlen.out;omega
   obtain⟨b,o,rfl,hc⟩:=SlS.cell (Sl.below HT.out HB.out) (sB (T:=T) (i:=k) hkT);have hks:=hW_ (HS.out _ (qB hkT))
   by_cases hz:(tk T k).size=0
   ·obtain⟨e1,e2,e3⟩:=lD hz;have HP2:=hW_ (HP.out.skip hz);have HU2:=hW_ (HU.out.skip hz);clear hz;go_wp2;go_roundw
    case rel=>exact⟨k+1,sz,f,by omega,by go_num,by omega,HM.out,HP2,HU2,HB.out⟩
    case measure=>simp[intOf];omega
   ·obtain⟨e1,e2,e3⟩:=E2 hz;have HZ:=hW_ hz;clear hz
    cases hf:f (tk T k)with
    | some i=>
     have hnu:=hW_ (HP.out.twice hkT hf);go_wp2_with (with_reducible show wpList _ _ _ (⟨_, .lookup _ _ _ _,_,_,_,_⟩::_) _ _;refine eG rfl _ _ rfl rfl HM.out rfl hks.out ?_;rw[hf]);go_ret2;exact⟨.inr ⟨hnu.out,rfl⟩,HB.out⟩
    | none=>
     have HP2:=hW_ (HP.out.put HZ.out hf);have HU2:=hW_ (HU.out.put HP.out HZ.out hf);have hwf:(Lit.int .i64 (k:Int)).wf=true:=by rw[gC];omega
     go_wp2_with (first
      | (with_reducible show wpList _ _ _ (⟨_, .lookup _ _ _ _,_,_,_,_⟩::_) _ _;refine eG rfl _ _ rfl rfl HM.out rfl hks.out ?_;rw[hf])
      | (with_reducible show wpList _ _ _ (⟨_, .mapUpdate _ _ _ _,_,_,_,_⟩::_) _ _;refine eT rfl _ _ _ rfl rfl HM.out rfl hks.out rfl hwf (by unfold maxLen;omega) ?_))
     intro w2 hm2 hg2;have HM2:=hW_ hm2;have HB2:=hW_ (HB.out.grown hg2 HB.out.size fun q hq=>by simp at hq;omega);clear hm2 hg2;go_wp2;go_roundw
     case rel=>exact⟨k+1,_,_,by omega,by go_num,by omega,HM2.out,HP2,HU2,HB2.out⟩
     case measure=>simp[intOf];omega
  ·have HF:=hW_ (HU.out.all hlen.out hlt);have HP2:=hW_ (HP.out.all hk hlt);go_wp2;go_ret2;exact⟨.inl ⟨HF.out,_,_,_,rfl,Nat.le_refl _,HM.out,by rw[hlen.out];exact HP2.out⟩,HB.out⟩
theorem aBc (s:ByteArray) (hs:s.size<=maxLen) (w:World):
  Calls Tryz.prog 210 #[.string s] w fun e w'=>e= .returned (.bool (decide (64<s.size)))/\w=w':=by
 unfold maxLen at hs
 by_cases h:(64:Int)<s.size
 ·have h2:64<s.size:=by omega
  go_enter Tryz.func210,Tryz.ntmps210;go_wp2;go_ret;exact⟨sA (by simp;omega),rfl⟩
 ·have h2:¬64<s.size:=by omega
  go_enter Tryz.func210,Tryz.ntmps210;go_wp2;go_ret;exact⟨sA (by simp),rfl⟩
def LongPost (T:List ByteArray) (w:World) (e:Ending) (w':World):Prop:=(∃i:Int,e= .returned (.int .i64 i)/\(0<=i↔∃s∈T,64<s.size))/\w=w'
theorem uQ {T:List ByteArray} {ao:Option Addr} {n c:Nat} (w:World) (hT:SlS w ao n c T) (hsz:∀s∈T,s.size<=maxLen):
  Calls Tryz.prog 237 #[.slice ao n c, .func (.func 210) #[] #[]] w (LongPost T w):=by
 have hm:=Nat.le_trans (Sl.le hT) (Sl.max hT);unfold maxLen at hm;have hlen:=hW_ hT.count;have HS:=hW_ hsz;clear hsz;go_enter Tryz.func237,Tryz.ntmps237;go_wp2;go_loop [5,8] (fun _ i=>∃k:Nat,k<=n/\i= .int .i64 k/\Hid (∀j,j<k->¬64<(tk T j).size)) (fun _ i=>n-(intOf i).toNat)
 case atStart=>exact⟨0,Nat.zero_le _,rfl,hW_ (fun j h=>by omega)⟩
 case round=>
  obtain⟨k,hk,rfl,hno⟩:=hrel
  by_cases hlt:k<n
  ·have hkT:k<T.length:=by have:=hlen.out;omega
   obtain⟨b,o,rfl,hc⟩:=hT.cell (sB (T:=T) (i:=k) hkT);have hks:=hW_ (HS.out _ (qB hkT));go_wp2_with (fail);refine(aBc (tk T k) hks.out w).mono ?_
   rintro e w' ⟨rfl,rfl⟩
   by_cases hl:64<(tk T k).size
   ·have hfin:Hid ((0:Int)<=(k:Int)↔∃s∈T,64<s.size):=hW_ ⟨fun _=>⟨_,qB hkT,hl⟩,fun _=>by omega⟩;go_wp2;go_ret;exact⟨⟨_,rfl,hfin.out⟩,rfl⟩
   ·have hno2:Hid (∀j,j<k+1->¬64<(tk T j).size):=hW_ (fun j hj=>by
     by_cases ej:j=k
     ·subst ej;exact hl
     ·exact hno.out j (by omega))
    go_wp2;go_round
    case rel=>exact⟨k+1,by omega,by go_num,hno2⟩
    case measure=>simp[intOf];omega
  ·have hfin:Hid ((0:Int)<= -1↔∃s∈T,64<s.size):=hW_ ⟨fun h=>by omega,fun⟨s,hs,h⟩=>by
    obtain⟨j,hj,rfl⟩:=iI hs;exact absurd h (hno.out j (by have:=hlen.out;omega))⟩
   go_wp2;go_ret;exact⟨⟨_,rfl,hfin.out⟩,rfl⟩
theorem M0 {T:List ByteArray} {ao:Option Addr} {n c:Nat} (w:World) (hT:SlS w ao n c T) (hsz:∀s∈T,s.size<=maxLen):
  Calls Tryz.prog 209 #[.slice ao n c, .func (.func 210) #[] #[]] w fun e w'=>(∃b,e= .returned (.bool b)/\(b=true↔∃s∈T,64<s.size))/\w=w':=by
 go_enter Tryz.func209,Tryz.ntmps209;go_wp2_with (fail);refine(uQ w hT hsz).mono ?_
 rintro e w' ⟨⟨i,rfl,hi⟩,rfl⟩;have HI:=hW_ hi;clear hi;go_wp2;go_ret;exact⟨⟨_,rfl,by simp[HI.out]⟩,rfl⟩
def S9 (T:List ByteArray) (w:World) (e:Ending) (w':World):Prop:=(∃b,e= .returned (.bool b)/\(b=true↔sD T))/\Below w.heap.size w w'
theorem iK {T:List ByteArray} (h:4096<T.length):(false=true↔sD T):=⟨(fun h=>by cases h),fun h2=>by have:=h2.1;omega⟩
theorem L0 {T:List ByteArray} (h:∃s∈T,64<s.size):(false=true↔sD T):=⟨(fun h=>by cases h),fun h2=>by obtain⟨s,hs,h⟩:=h;have:=h2.2.1 s hs;omega⟩
theorem gK {T:List ByteArray} (h:¬yQ T):(false=true↔sD T):=⟨(fun h=>by cases h),fun h2=>absurd h2.2.2.1 h⟩
theorem jK {T:List ByteArray} {b:Nat} (hb:b<256) (h:one b∉T):(false=true↔sD T):=⟨(fun h=>by cases h),fun h2=>absurd (h2.2.2.2 b hb) h⟩
theorem aS {T:List ByteArray} (h1:T.length<=4096) (h2:∀s∈T,s.size<=64) (h3:yQ T) (h4:∀b,b<256->one b∈T):sD T:=⟨h1,h2,h3,h4⟩
theorem R6 (b:Nat):(one b).size=1:=rfl
theorem rM (b:Nat):(one b).size<=maxLen:=by rw[R6];unfold maxLen;omega
theorem C9.one_in {T:List ByteArray} {f:ByteArray->Option Int} (h:C9 T T.length f) (b:Nat):(f (one b)).isSome=true↔one b∈T:=by
 constructor
 ·intro h1;obtain⟨i,hi⟩:=Option.isSome_iff_exists.1 h1;obtain⟨_,j,h2,_,h4⟩:=(h _ _).1 hi;rw[<-h4];exact qB h2
 ·intro h1;obtain⟨j,hj,e⟩:=iI h1;have:f (one b)=some (j:Int):=(h _ _).2 ⟨by rw[R6];omega,j,hj,rfl,e⟩;rw[this];rfl
theorem lawStr:Go.Maps.Keyed Tryz.prog 9:=Go.Maps.string_keyed Tryz.underlying9
theorem wK (w:World) (k:Nat):(convert 113 9 (.slice (some ⟨w.heap.size,0,none⟩) 1 1)).run Tryz.prog (w.alloc (.cells #[.int .u8 (k:Int)] 5))= .ok (.string (one k)) (w.alloc (.cells #[.int .u8 (k:Int)] 5)):=by
 rw[run_convert_bytes_string (P:=Tryz.prog) _ 113 9 5 _ _ _ Tryz.underlying113 Tryz.underlying5 Tryz.underlying9];rw[run_bytesToString _ _ _ _ [(k:Int)] (by
  exact run_loadCells_list (w:=w.alloc (.cells #[.int .u8 (k:Int)] 5)) (P:=Tryz.prog) ⟨w.heap.size,0,none⟩ [.int .u8 (k:Int)] (fun j v hj=>by
   match j,hj with
   | 0,hj=>simp at hj;subst hj;rw[Addr.add_lit];simp
   | j+1,hj=>simp at hj))]
 rfl
theorem rQ {T:List ByteArray} {ao:Option Addr} {n c:Nat} (w:World) (hT:SlS w ao n c T) (hsz:∀s∈T,s.size<=maxLen):
  Calls Tryz.prog 180 #[.slice ao n c] w (S9 T w):=by
 have hm:=Nat.le_trans (Sl.le hT) (Sl.max hT);unfold maxLen at hm;have hlen:=hW_ hT.count;have HT:=hW_ hT;have HS:=hW_ hsz;clear hT hsz
 by_cases hl:(4096:Int)<n
 ·have HF:=hW_ (iK (T:=T) (by have:=hlen.out;omega));go_enter Tryz.func180,Tryz.ntmps180;go_wp2_with (fail);go_ret;exact⟨⟨_,rfl,HF.out⟩,Below.refl _ _⟩
 ·go_enter Tryz.func180,Tryz.ntmps180;go_wp2_with (fail);refine(M0 w HT.out HS.out).mono ?_
  rintro e w' ⟨⟨b,rfl,hb⟩,rfl⟩
  cases b with
  | true=>
   have HF:=hW_ (L0 (hb.1 rfl));clear hb;go_wp2;go_ret;exact⟨⟨_,rfl,HF.out⟩,Below.refl _ _⟩
  | false=>
   have H64:Hid (∀s∈T,s.size<=64):=hW_ (fun s hs=>by
    rcases Nat.lt_or_ge 64 s.size with h | h
    ·have:=hb.2 ⟨s,hs,h⟩;cases this
    ·exact h)
   clear hb;go_wp2_with (fail);refine(gW _ HT.out HS.out (by omega)).mono ?_
   rintro e w1 ⟨⟨hu,mb,sz,f,rfl,hmb,hmap,hpl⟩ | ⟨hnu,rfl⟩,hb1⟩
   ·have HU:=hW_ hu;have HM:=hW_ hmap;have HP:=hW_ hpl;have HB1:=hW_ hb1;clear hu hmap hpl hb1;go_wp2;go_loopw [5,6,7,20] (fun _ _ _ i wr=>∃k:Nat,k<=256/\i= .int .i64 k/\Below w.heap.size w wr/\aEn wr mb sz f/\Hid (∀b,b<k->one b∈T)) (fun _ _ _ i _=>256-(intOf i).toNat)
    case atStart=>exact⟨0,by omega,rfl,HB1.out,HM.out,hW_ (fun b hb=>by omega)⟩
    case round=>
     obtain⟨k,hk,rfl,hb,hmap,hall⟩:=hrel;have HB:=hW_ hb;have HM2:=hW_ hmap;clear hb hmap
     by_cases hlt:k<256
     ·have hw8:IntKind.u8.wrap (k:Int)=(k:Int):=by rw[IntKind.wrap_u8];omega
      have hcv:=wK wr k;have HB3:=hW_ (HB.out.alloc HB.out.size (.cells #[.int .u8 (k:Int)] 5));have HM3:=hW_ (HM2.out.alloc (.cells #[.int .u8 (k:Int)] 5))
      cases hf:(f (one k)).isSome with
      | true=>
       have hin:Hid (∀b,b<k+1->one b∈T):=hW_ (fun b hb=>by
        by_cases e:b=k
        ·subst e;exact(HP.out.one_in b).1 hf
        ·exact hall.out b (by omega))
       go_wp2_with (with_reducible show wpList _ _ _ (⟨_, .lookup _ _ _ _,_,_,_,_⟩::_) _ _;refine eG rfl _ _ rfl rfl HM3.out rfl (rM k) ?_;rw[hf]);go_roundw
       case rel=>exact⟨k+1,by omega,by go_num,HB3.out,HM3.out,hin⟩
       case measure=>simp[intOf];omega
      | false=>
       have HF:=hW_ (jK hlt (fun h=>by rw[(HP.out.one_in k).2 h]at hf;cases hf));go_wp2_with (with_reducible show wpList _ _ _ (⟨_, .lookup _ _ _ _,_,_,_,_⟩::_) _ _;refine eG rfl _ _ rfl rfl HM3.out rfl (rM k) ?_;rw[hf]);go_ret;exact⟨⟨_,rfl,HF.out⟩,HB3.out⟩
     ·have HF:=hW_ (aS (by have:=hlen.out;omega) H64.out HU.out (fun b hb=>hall.out b (by omega)));go_wp2;go_ret;exact⟨⟨_,rfl,(fun _=>HF.out),(fun _=>rfl)⟩,HB.out⟩
   ·have HF:=hW_ (gK hnu);have HB1:=hW_ hb1;have hcv:=wK w1 0;rw[show((0:Nat):Int)=0 from rfl]at hcv;have HB3:=hW_ (HB1.out.alloc HB1.out.size (.cells #[.int .u8 ((0:Nat):Int)] 5));have hlk:=fun w:World=>Go.Maps.look_nil (P:=Tryz.prog) (w:=w) true lawStr Tryz.underlying177 (zE w) (key:= .string (one 0)) (keyOf_string_mk Tryz.underlying9 (rM 0))
    clear hnu hb1;go_wp2;go_loopw [5,6,7,20] (fun _ _ _ i wr=>i= .int .i64 0/\wr=w1) (fun _ _ _ i _=>0)
    case atStart=>exact⟨rfl,rfl⟩
    case round=>
     obtain⟨rfl,rfl⟩:=hrel;go_wp2;go_ret;exact⟨⟨_,rfl,HF.out⟩,HB3.out⟩
def M2 (T:List ByteArray) (k:Nat):Prop:=∀j,j<k->(tk T j).size<=64/\((tk T j).size≠0->ofT T (tk T j)=j)
theorem M2.uniq {T:List ByteArray} (h:M2 T T.length):yQ T:=fun i j h1 h2 e=>by
 by_cases hz:(tk T i).size=0
 ·exact hz
 ·have a:=(h i (by omega)).2 hz;have b:=(h j h2).2 (by rw[<-e];exact hz);rw[<-e,a]at b;omega
theorem M2.next {T:List ByteArray} {k:Nat} (h:M2 T k) (h1:(tk T k).size<=64) (h2:(tk T k).size≠0->ofT T (tk T k)=k):M2 T (k+1):=fun j hj=>by
 by_cases e:j=k
 ·subst e;exact⟨h1,h2⟩
 ·exact h j (by omega)
theorem not_uniq {T:List ByteArray} {k:Nat} (hk:k<T.length) (hz:(tk T k).size≠0) (h:ofT T (tk T k)≠k):¬yQ T:=fun hu=>h (hu.of hk hz)
theorem aCd {T:List ByteArray} {b:Nat}:ofT T (one b)<0↔one b∉T:=by
 rcases O6 T (one b)with⟨h0,_⟩ | ⟨_,⟨i,hi,h1,_,e⟩⟩ | ⟨_,h1,e⟩
 ·rw[R6]at h0;omega
 ·rw[e];constructor
  ·intro h;omega
  ·intro h;exact absurd (h1▸qB hi) h
 ·rw[e];constructor
  ·intro _ h;obtain⟨j,hj,e2⟩:=iI h;exact h1 j hj e2
  ·intro _;omega
theorem zI {T:List ByteArray} {ao:Option Addr} {n c:Nat} (w:World) (hT:SlS w ao n c T) (hsz:∀s∈T,s.size<=maxLen):
  Calls Tryz.prog 136 #[.slice ao n c] w (S9 T w):=by
 have hm:=Nat.le_trans (Sl.le hT) (Sl.max hT);unfold maxLen at hm;have hlen:=hW_ hT.count;have HT:=hW_ hT;have HS:=hW_ hsz;clear hT hsz
 by_cases hl:(4096:Int)<n
 ·have HF:=hW_ (iK (T:=T) (by have:=hlen.out;omega));go_enter Tryz.func136,Tryz.ntmps136;go_wp2_with (fail);go_ret;exact⟨⟨_,rfl,HF.out⟩,Below.refl _ _⟩
 ·go_enter Tryz.func136,Tryz.ntmps136;go_wp2_with (fail);go_loop [3,10] (fun _ i=>∃k:Nat,k<=n/\i= .int .i64 k/\Hid (M2 T k)) (fun _ i=>n-(intOf i).toNat)
  case atStart=>exact⟨0,Nat.zero_le _,rfl,hW_ (fun j h=>by omega)⟩
  case round=>
   obtain⟨k,hk,rfl,hg⟩:=hrel
   by_cases hlt:k<n
   ·have hkT:k<T.length:=by have:=hlen.out;omega
    obtain⟨b,o,rfl,hc⟩:=SlS.cell HT.out (sB (T:=T) (i:=k) hkT);have hks:=HS.out _ (qB hkT);unfold maxLen at hks
    by_cases h64:(64:Int)<(tk T k).size
    ·have HF:=hW_ (L0 ⟨_,qB hkT,by omega⟩);go_wp2_with (fail);go_ret;exact⟨⟨_,rfl,HF.out⟩,Below.refl _ _⟩
    ·have h64':(tk T k).size<=64:=by omega
     by_cases hz:(tk T k).size=0
     ·obtain⟨e1,e2,e3⟩:=lD hz;have hg2:=hW_ (hg.out.next h64' (fun h=>absurd hz h));clear hz;go_wp2_with (fail);go_round
      case rel=>exact⟨k+1,by omega,by go_num,hg2⟩
      case measure=>simp[intOf];omega
     ·obtain⟨e1,e2,e3⟩:=E2 hz;have HZ:=hW_ hz;clear hz;go_wp2_with (fail);refine(O1 (tk T k) w HT.out).mono ?_
      rintro e w' ⟨rfl,rfl⟩
      by_cases he:ofT T (tk T k)=k
      ·have hg2:=hW_ (hg.out.next h64' (fun _=>he));rw[he];have hne:((k:Int) != (k:Int))=false:=by simp
       clear he;go_wp2_with (fail);go_round
       case rel=>exact⟨k+1,by omega,by go_num,hg2⟩
       case measure=>simp[intOf];omega
      ·have HF:=hW_ (gK (not_uniq hkT HZ.out he));have hne:(ofT T (tk T k) != (k:Int))=true:=by simpa using he
       clear he;go_wp2_with (fail);go_ret;exact⟨⟨_,rfl,HF.out⟩,Below.refl _ _⟩
   ·have HG:Hid (M2 T T.length):=hW_ (by rw[hlen.out];have:n=k:=(by omega);rw[this];exact hg.out);go_wp2_with (fail);go_loopw [4] (fun i wr=>∃k:Nat,k<=256/\i= .int .i64 k/\Below w.heap.size w wr/\Hid (∀b,b<k->one b∈T)) (fun i _=>256-(intOf i).toNat)
    case atStart=>exact⟨0,by omega,rfl,Below.refl _ _,hW_ (fun b hb=>by omega)⟩
    case round=>
     obtain⟨q,hq,rfl,hb,hall⟩:=hrel;have HB:=hW_ hb;clear hb
     by_cases hlt:q<256
     ·have hw8:IntKind.u8.wrap (q:Int)=(q:Int):=by rw[IntKind.wrap_u8];omega
      have hcv:=wK wr q;have HB3:=hW_ (HB.out.alloc HB.out.size (.cells #[.int .u8 (q:Int)] 5));go_wp2_with (fail);refine(O1 (one q) _ (Sl.below HT.out HB3.out)).mono ?_
      rintro e w' ⟨rfl,rfl⟩
      by_cases hneg:ofT T (one q)<0
      ·have HF:=hW_ (jK hlt (aCd.1 hneg));go_wp2_with (fail);go_ret;exact⟨⟨_,rfl,HF.out⟩,HB3.out⟩
      ·have hin:Hid (∀b,b<q+1->one b∈T):=hW_ (fun b hb=>by
        by_cases e:b=q
        ·subst e;exact Classical.byContradiction fun h=>hneg (aCd.2 h)
        ·exact hall.out b (by omega))
       go_wp2_with (fail);go_roundw
       case rel=>exact⟨q+1,by omega,by go_num,HB3.out,hin⟩
       case measure=>simp[intOf];omega
     ·have HF:=hW_ (aS (T:=T) (by have:=hlen.out;omega) (fun s hs=>by obtain⟨j,hj,rfl⟩:=iI hs;exact(HG.out j hj).1) HG.out.uniq (fun b hb=>hall.out b (by omega)));go_wp2_with (fail);go_ret;exact⟨⟨_,rfl,(fun _=>HF.out),(fun _=>rfl)⟩,HB.out⟩
def I3 (a b:Int):Int:=if a<b then -1 else if b<a then 1 else 0
theorem Q4 {a b:Int} (h:a<b):I3 a b= -1:=by unfold I3;rw[if_pos h]
theorem Q5 {a b:Int} (h:b<a):I3 a b=1:=by unfold I3;rw[if_neg (by omega),if_pos h]
theorem Q6 (a:Int):I3 a a=0:=by unfold I3;rw[if_neg (by omega),if_neg (by omega)]
def orI (a b c:Int):Int:=if a≠0 then a else if b≠0 then b else c
theorem E7 (a b:Int) (w:World):Calls Tryz.prog 239 #[.int .i64 a, .int .i64 b] w fun e w'=>e= .returned (.int .i64 (I3 a b))/\w=w':=by
 have ha:(a != a)=false:=by simp
 have hb:(b != b)=false:=by simp
 rcases Int.lt_trichotomy a b with h | h | h
 ·have HF:=hW_ (Q4 h);go_enter Tryz.func239,Tryz.ntmps239;go_wp2;go_ret;exact⟨C3 HF.out.symm,rfl⟩
 ·subst h;have HF:=hW_ (Q6 a);go_enter Tryz.func239,Tryz.ntmps239;go_wp2;go_ret;exact⟨C3 HF.out.symm,rfl⟩
 ·have HF:=hW_ (Q5 h);have h2:¬a<b:=by omega
  go_enter Tryz.func239,Tryz.ntmps239;go_wp2;go_ret;exact⟨C3 HF.out.symm,rfl⟩
theorem U4 {a b c:Int} (h:a≠0):orI a b c=a:=by unfold orI;rw[if_pos h]
theorem R5 {a b c:Int} (h:a=0) (h2:b≠0):orI a b c=b:=by unfold orI;rw[if_neg (by omega),if_pos h2]
theorem aDr {a b c:Int} (h:a=0) (h2:b=0):orI a b c=c:=by unfold orI;rw[if_neg (by omega),if_neg (by omega)]
def nz (A:List Int):Int:=(A.find? (fun x=>decide (x≠0))).getD 0
theorem nz_at {A:List Int} {k:Nat} (hk:k<A.length) (h:∀j,j<k->ix A j=0) (h2:ix A k≠0):nz A=ix A k:=by
 unfold nz;have:A.find? (fun x=>decide (x≠0))=some (ix A k):=by
  rw[List.find?_eq_some_iff_getElem];refine⟨by simpa using h2,k,hk,?_,fun j hj=> ?_⟩
  ·have:=gF hk;rw[List.getElem?_eq_getElem hk]at this;exact Option.some.inj this
  ·have e:A[j]'(by omega)=ix A j:=by have:=gF (A:=A) (i:=j) (by omega);rw[List.getElem?_eq_getElem (by omega)]at this;exact Option.some.inj this
   rw[e,h j hj];simp
 rw[this];rfl
theorem nz_none {A:List Int} (h:∀j,j<A.length->ix A j=0):nz A=0:=by
 unfold nz;have:A.find? (fun x=>decide (x≠0))=none:=by
  rw[List.find?_eq_none];intro x hx;obtain⟨j,hj,rfl⟩:=List.getElem_of_mem hx;have e:A[j]=ix A j:=by have:=gF hj;rw[List.getElem?_eq_getElem hj]at this;exact Option.some.inj this
  rw[e,h j hj];simp
 rw[this];rfl
theorem nz_three (a b c:Int):nz [a,b,c]=orI a b c:=by
 unfold nz orI
 by_cases h1:a=0<;>by_cases h2:b=0<;>by_cases h3:c=0<;>simp[List.find?,h1,h2,h3]
theorem or_calls {A:List Int} {ao:Option Addr} {n c:Nat} (w:World) (hA:SlI w ao n c A):Calls Tryz.prog 238 #[.slice ao n c] w fun e w'=>e= .returned (.int .i64 (nz A))/\w=w':=by
 have hm:=Nat.le_trans (Sl.le hA) (Sl.max hA);unfold maxLen at hm;have hlen:=hW_ hA.len;go_enter Tryz.func238,Tryz.ntmps238;go_wp2;go_loop [5,8] (fun _ i=>∃k:Nat,k<=n/\i= .int .i64 k/\Hid (∀j,j<k->ix A j=0)) (fun _ i=>n-(intOf i).toNat)
 case atStart=>exact⟨0,Nat.zero_le _,rfl,hW_ (fun j h=>by omega)⟩
 case round=>
  obtain⟨k,hk,rfl,hno⟩:=hrel
  by_cases hlt:k<n
  ·obtain⟨b1,o1,rfl,c1⟩:=hA.at_ hlt
   by_cases hz:ix A k=0
   ·have hb:(ix A k != 0)=false:=by simpa using hz
    have hno2:Hid (∀j,j<k+1->ix A j=0):=hW_ (fun j hj=>by
     by_cases e:j=k
     ·subst e;exact hz
     ·exact hno.out j (by omega))
    clear hz;go_wp2;go_round
    case rel=>exact⟨k+1,by omega,by go_num,hno2⟩
    case measure=>simp[intOf];omega
   ·have hb:(ix A k != 0)=true:=by simpa using hz
    have HF:=hW_ (nz_at (by rw[hlen.out];exact hlt) hno.out hz);clear hz;go_wp2;go_ret;exact⟨C3 HF.out.symm,rfl⟩
  ·have HF:=hW_ (nz_none (A:=A) (fun j hj=>hno.out j (by rw[hlen.out]at hj;omega)));go_wp2;go_ret;exact⟨C3 HF.out.symm,rfl⟩
open Go.RowKit Go.Sort
def yZ (a b:Mg):Int:=orI (I3 a.order b.order) (I3 a.left b.left) (I3 a.right b.right)
theorem yW {a b:Mg}:yZ a b<0↔iB a b=true:=by
 rw[vE];unfold yZ;rcases Int.lt_trichotomy a.order b.order with h | h | h
 ·rw[Q4 h,U4 (by omega)];omega
 ·rw[h,Q6];rcases Int.lt_trichotomy a.left b.left with h2 | h2 | h2
  ·rw[Q4 h2,R5 rfl (by omega)];omega
  ·rw[h2,Q6,aDr rfl rfl];rcases Int.lt_trichotomy a.right b.right with h3 | h3 | h3
   ·rw[Q4 h3];omega
   ·rw[h3,Q6];omega
   ·rw[Q5 h3];omega
  ·rw[Q5 h2,R5 rfl (by omega)];omega
 ·rw[Q5 h,U4 (by omega)];omega
theorem ld4 {P:Program} {w:World} {b o:Nat} {x y z u:Value} (h0:w.cell? ⟨b,o,none⟩=some x) (h1:w.cell? ⟨b,o+1,none⟩=some y) (h2:w.cell? ⟨b,o+2,none⟩=some z) (h3:w.cell? ⟨b,o+3,none⟩=some u):
  Sem.run P (loadCellsFrom ⟨b,o,none⟩ 0 4 #[]) w= .ok #[x,y,z,u] w:=
 run_loadCellsFrom_list P w ⟨b,o,none⟩ [x,y,z,u] 4 rfl (fun j v hj=>by
  rw[Addr.add_lit]
  match j,hj with
  | 0,hj=>simp at hj;subst hj;exact h0
  | 1,hj=>simp at hj;subst hj;exact h1
  | 2,hj=>simp at hj;subst hj;exact h2
  | 3,hj=>simp at hj;subst hj;exact h3
  | j+4,hj=>simp at hj)
theorem oD:Tryz.prog.follows .mixedOrders=true:=by kernel_rfl
theorem fH {w:World} {g:Nat} {x y z u:Value} {t:TypeId} (h:w.heap[g]?=some (.cells #[x,y,z,u] t)):w.cell? ⟨g,0,none⟩=some x/\w.cell? ⟨g,1,none⟩=some y/\w.cell? ⟨g,2,none⟩=some z/\w.cell? ⟨g,3,none⟩=some u:=by
 simp[World.cell?,h]
theorem keep6 {w0 w w':World} {p1 p2 p3 p4 p5 p6:Addr} {v1 v2 v3 v4 v5 v6:Value} (h:w.cell? p1=some v1/\w.cell? p2=some v2/\w.cell? p3=some v3/\w.cell? p4=some v4/\w.cell? p5=some v5/\w.cell? p6=some v6/\Below w0.heap.size w0 w) (hb:Below w.heap.size w w'):
  w'.cell? p1=some v1/\w'.cell? p2=some v2/\w'.cell? p3=some v3/\w'.cell? p4=some v4/\w'.cell? p5=some v5/\w'.cell? p6=some v6/\Below w0.heap.size w0 w':=
 ⟨eA hb _ _ h.1,eA hb _ _ h.2.1,eA hb _ _ h.2.2.1,eA hb _ _ h.2.2.2.1,eA hb _ _ h.2.2.2.2.1,eA hb _ _ h.2.2.2.2.2.1,h.2.2.2.2.2.2.trans (hb.mono h.2.2.2.2.2.2.size)⟩
theorem SlI.three (w:World) (x y z:Int) (t:TypeId):SlI (w.alloc (.cells #[.int .i64 x, .int .i64 y, .int .i64 z] t)) (some ⟨w.heap.size,0, .none⟩) 3 3 [x,y,z]:=by
 refine⟨rfl,Nat.le_refl _,by unfold maxLen;omega,by simp,fun i u hu=> ?_⟩
 match i,hu with
 | 0,hu=>simp at hu;subst hu;exact⟨_,_,rfl,by simp⟩
 | 1,hu=>simp at hu;subst hu;exact⟨_,_,rfl,by simp⟩
 | 2,hu=>simp at hu;subst hu;exact⟨_,_,rfl,by simp⟩
 | i+3,hu=>simp at hu
theorem tH (a b:Mg) (w:World):
  Calls Tryz.prog 212 #[.agg #[.int .i64 a.left, .int .i64 a.right, .int .i64 a.out, .int .i64 a.order], .agg #[.int .i64 b.left, .int .i64 b.right, .int .i64 b.out, .int .i64 b.order]] w
   fun e w'=>e= .returned (.int .i64 (yZ a b))/\∃q os,w'=grow (w.drewN q) os:=by
 obtain⟨w1,hw1⟩:∃w1,w.alloc (.cells #[.int .i64 a.left, .int .i64 a.right, .int .i64 a.out, .int .i64 a.order] 170)=w1:=⟨_,rfl⟩;obtain⟨w2,hw2⟩:∃w2,w1.alloc (.cells #[.int .i64 b.left, .int .i64 b.right, .int .i64 b.out, .int .i64 b.order] 170)=w2:=⟨_,rfl⟩;have hb1:Below w.heap.size w w1:=hw1▸aA w _;have hb2:Below w1.heap.size w1 w2:=hw2▸aA w1 _;have hs1:w1.heap.size=w.heap.size+1:=by rw[<-hw1];simp
 have ha1:w1.heap[w.heap.size]?=some (.cells #[.int .i64 a.left, .int .i64 a.right, .int .i64 a.out, .int .i64 a.order] 170):=by rw[<-hw1];exact heap_alloc_new w _
 have ha2:=(hb2.block w.heap.size (by omega)).trans ha1;have hbb:w2.heap[w1.heap.size]?=some (.cells #[.int .i64 b.left, .int .i64 b.right, .int .i64 b.out, .int .i64 b.order] 170):=by rw[<-hw2];exact heap_alloc_new w1 _
 obtain⟨a0,a1,_,a3⟩:=fH ha2;obtain⟨b0,b1,_,b3⟩:=fH hbb;have HW:=hW_ (hb1.trans (hb2.mono hb1.size));have H1:=hW_ hw1;have H2:=hW_ hw2;have HS1:=hW_ hs1;rw[hs1]at b0 b1 b3;clear hb1 hb2 hs1 ha1 ha2 hbb hw1 hw2;go_enter Tryz.func212,Tryz.ntmps212;go_wp2_with (fail);rw[H1.out,H2.out]
 go_region_held3 (fun w'=>w'.cell? ⟨w.heap.size,3,none⟩=some (.int .i64 a.order)/\w'.cell? ⟨w.heap.size+1,3,none⟩=some (.int .i64 b.order)/\w'.cell? ⟨w.heap.size,0,none⟩=some (.int .i64 a.left)/\w'.cell? ⟨w.heap.size+1,0,none⟩=some (.int .i64 b.left)/\w'.cell? ⟨w.heap.size,1,none⟩=some (.int .i64 a.right)/\w'.cell? ⟨w.heap.size+1,1,none⟩=some (.int .i64 b.right)/\Below w2.heap.size w2 w')
  (first | assumption | exact⟨a3,b3,a0,b0,a1,b1,(Below.refl _ _).drew⟩ | exact keep6 (by assumption) (aA _ _))
  (first
   | (go_at_call_of 239 (Value.int .i64 a.order);refine(E7 a.order b.order _).mono ?_;rintro e w' ⟨rfl,rfl⟩)
   | (go_at_call_of 239 (Value.int .i64 a.left);refine(E7 a.left b.left _).mono ?_;rintro e w' ⟨rfl,rfl⟩)
   | (go_at_call_of 239 (Value.int .i64 a.right);refine(E7 a.right b.right _).mono ?_;rintro e w' ⟨rfl,rfl⟩)
   | (go_at_call 238;refine(or_calls _ (SlI.drew (SlI.three w2 _ _ _ _))).mono ?_;rintro e w' ⟨rfl,rfl⟩))
 all_goals(go_wp2_with (fail);go_ret;refine⟨C3 (nz_three _ _ _),1,#[.cells #[.int .i64 a.left, .int .i64 a.right, .int .i64 a.out, .int .i64 a.order] 170, .cells #[.int .i64 b.left, .int .i64 b.right, .int .i64 b.out, .int .i64 b.order] 170, .cells #[.int .i64 (I3 a.order b.order), .int .i64 (I3 a.left b.left), .int .i64 (I3 a.right b.right)] 3],?_⟩)
 rw[<-H2.out,<-H1.out,alloc_eq_grow,alloc_eq_grow,alloc_eq_grow,grow_grow,grow_grow];rfl
theorem oE (w:World) (n:Nat) (os:Array Obj):Below w.heap.size w (grow (w.drewN n) os):=by
 refine⟨rfl,rfl,rfl,by show w.heap.size<=(w.heap++os).size;simp,fun k hk=> ?_⟩;show(w.heap++os)[k]?=w.heap[k]?
 exact Array.getElem?_append_left hk
theorem aAg (a b:Mg) (w:World):
  Calls Tryz.prog 144 #[.agg #[.int .i64 a.left, .int .i64 a.right, .int .i64 a.out, .int .i64 a.order], .agg #[.int .i64 b.left, .int .i64 b.right, .int .i64 b.out, .int .i64 b.order]] w
   fun e w'=>e= .returned (.bool (iB a b))/\Below w.heap.size w w':=by
 obtain⟨w1,hw1⟩:∃w1,w.alloc (.cells #[.int .i64 a.left, .int .i64 a.right, .int .i64 a.out, .int .i64 a.order] 170)=w1:=⟨_,rfl⟩;obtain⟨w2,hw2⟩:∃w2,w1.alloc (.cells #[.int .i64 b.left, .int .i64 b.right, .int .i64 b.out, .int .i64 b.order] 170)=w2:=⟨_,rfl⟩;have hb1:Below w.heap.size w w1:=hw1▸aA w _;have hb2:Below w1.heap.size w1 w2:=hw2▸aA w1 _;have hs1:w1.heap.size=w.heap.size+1:=by rw[<-hw1];simp
 have ha1:w1.heap[w.heap.size]?=some (.cells #[.int .i64 a.left, .int .i64 a.right, .int .i64 a.out, .int .i64 a.order] 170):=by rw[<-hw1];exact heap_alloc_new w _
 have ha2:=(hb2.block w.heap.size (by omega)).trans ha1;have hbb:w2.heap[w1.heap.size]?=some (.cells #[.int .i64 b.left, .int .i64 b.right, .int .i64 b.out, .int .i64 b.order] 170):=by rw[<-hw2];exact heap_alloc_new w1 _
 obtain⟨a0,a1,_,a3⟩:=fH ha2;obtain⟨b0,b1,_,b3⟩:=fH hbb;have HW:=hW_ (hb1.trans (hb2.mono hb1.size));have H1:=hW_ hw1;have H2:=hW_ hw2;have hq:iB a b=decide (a.order<b.order\/(a.order=b.order/\(a.left<b.left\/(a.left=b.left/\a.right<b.right)))):=rfl;have HQ:=hW_ hq;rw[hs1]at b0 b1 b3;clear hb1 hb2 hs1 ha1 ha2 hbb hw1 hw2 hq
 by_cases ho:a.order=b.order
 ·have n1:(a.order != b.order)=false:=by simpa using ho
  by_cases hl:a.left=b.left
  ·have n2:(a.left != b.left)=false:=by simpa using hl
   have HF:Hid (iB a b=decide (a.right<b.right)):=hW_ (by rw[HQ.out];simp[ho,hl]);clear ho hl;go_enter Tryz.func144,Tryz.ntmps144;go_wp2_with (fail);rw[H1.out,H2.out];go_ret;exact⟨sA HF.out.symm,HW.out⟩
  ·have n2:(a.left != b.left)=true:=by simpa using hl
   have HF:Hid (iB a b=decide (a.left<b.left)):=hW_ (by rw[HQ.out];simp[ho,hl]);clear ho hl;go_enter Tryz.func144,Tryz.ntmps144;go_wp2_with (fail);rw[H1.out,H2.out];go_ret;exact⟨sA HF.out.symm,HW.out⟩
 ·have n1:(a.order != b.order)=true:=by simpa using ho
  have HF:Hid (iB a b=decide (a.order<b.order)):=hW_ (by rw[HQ.out];simp[ho]);clear ho;go_enter Tryz.func144,Tryz.ntmps144;go_wp2_with (fail);rw[H1.out,H2.out];go_ret;exact⟨sA HF.out.symm,HW.out⟩
open Go.RowKit Go.Maps Go.ChangeMaps Go.WideMaps Go.WideElems
theorem laidAll:laidOutB Tryz.prog=true:=by kernel_rfl
theorem rowTwo:(280:TypeId)<Tryz.prog.types.size:=of_decide_eq_true (by kernel_rfl)
theorem wideTwo:(match Tryz.prog.underlying 280 with | some (.array _ _) | some (.struct _)=>true | _=>false)=true:=by kernel_rfl
theorem keyedTwo:Keyed Tryz.prog 280:=Keyed.of_law (deep_law_laid laidAll (m:=2) (by omega) rowTwo (by kernel_rfl) wideTwo)
theorem aBh:Tryz.prog.keyType 280=true:=by kernel_rfl
theorem Z5:Tryz.prog.cellsOf 280=2:=by kernel_rfl
theorem aDJ {a b:Int} (ha:(Lit.int .i64 a).wf=true) (hb:(Lit.int .i64 b).wf=true):(keyOf Tryz.prog 280 (.agg #[.int .i64 a, .int .i64 b])).isSome=true:=by
 have hf:(Value.agg #[.int .i64 a, .int .i64 b]).formed Tryz.prog 280=true:=by
  simp[Value.formed,Tryz.underlying280,Z5]
 have hk:∀n,(Tryz.prog.keyLits (n+2) 280 [.int .i64 a, .int .i64 b]).isSome=true:=by
  intro n;have h3:Tryz.prog.cellsOf 3=1:=by kernel_rfl
  unfold Program.keyLits;simp[Tryz.underlying280,Z5,h3,Program.keyLits,Tryz.underlying3,ha,hb]
 unfold keyOf;rw[Tryz.underlying280];simp only[aBh,hf,Bool.and_self,if_true];obtain⟨n,hn⟩:∃n,Tryz.prog.types.size+1=n+2:=⟨Tryz.prog.types.size-1,by
  have h:(0:Nat)<Tryz.prog.types.size:=Nat.lt_of_le_of_lt (Nat.zero_le _) rowTwo;omega⟩
 have h2:=hk n;rw[<-hn]at h2;show(Option.map _ (Tryz.prog.keyLits (Tryz.prog.types.size+1) _ [.int .i64 a, .int .i64 b])).isSome=true;rw[Option.isSome_map];exact h2
noncomputable def M8:B4 Tryz.prog 280 (Int×Int):=
 B4.of (fun p=> .agg #[.int .i64 p.1, .int .i64 p.2]) (fun p=>(Lit.int .i64 p.1).wf=true/\(Lit.int .i64 p.2).wf=true) (fun p h=>aDJ h.1 h.2)
  (fun x y h=>by simp at h;exact Prod.ext h.1 h.2) keyedTwo
def mg (M:List Mg) (i:Nat):Mg:=M.getD i ⟨0,0,0,0⟩
theorem F2 {M:List Mg} {i:Nat} (h:i<M.length):M[i]?=some (mg M i):=by simp[mg,List.getD,h]
theorem wG {M:List Mg} {i:Nat} (h:i<M.length):M[i]=mg M i:=by simp[mg,List.getD,h]
structure fM (T:List ByteArray) (M:List Mg) (k:Nat):Prop where
 ok:∀j,j<k->gX T (mg M j)
 rise:∀j,j+1<k->rL (mg M j) (mg M (j+1))
 parts:∀i j,i<j->j<k->cG (mg M i) (mg M j)
theorem fM.zero (T:List ByteArray) (M:List Mg):fM T M 0:=⟨fun j h=>by omega,fun j h=>by omega,fun i j _ h=>by omega⟩
theorem fM.next {T:List ByteArray} {M:List Mg} {k:Nat} (h:fM T M k) (h1:gX T (mg M k)) (h2:0<k->rL (mg M (k-1)) (mg M k)) (h3:∀i,i<k->cG (mg M i) (mg M k)):fM T M (k+1):=by
 refine⟨fun j hj=> ?_,fun j hj=> ?_,fun i j hi hj=> ?_⟩
 ·by_cases e:j=k
  ·subst e;exact h1
  ·exact h.ok j (by omega)
 ·by_cases e:j+1=k
  ·subst e;have:=h2 (by omega);simpa using this
  ·exact h.rise j (by omega)
 ·by_cases e:j=k
  ·subst e;exact h3 i hi
  ·exact h.parts i j hi (by omega)
theorem fM.all {T:List ByteArray} {M:List Mg} {k n:Nat} (h:fM T M k) (hl:M.length=n) (hk:k<=n) (hk2:¬k<n) (hn:n<=16384):D6 T M:=by
 obtain rfl:k=n:=by omega
 refine⟨by omega,fun m hm=> ?_,?_⟩
 ·obtain⟨i,hi,rfl⟩:=List.getElem_of_mem hm;rw[wG hi];exact h.ok i (by omega)
 ·have hr:M.Pairwise rL:=nF (fun a b c h1 h2=>h1.trans h2) (fun i a b ha hb=>by
   have h1:=(List.getElem?_eq_some_iff.1 ha).1;have h2:=(List.getElem?_eq_some_iff.1 hb).1;rw[F2 h1]at ha;rw[F2 h2]at hb
   cases ha;cases hb
   exact h.rise i (by omega))
  rw[List.pairwise_iff_getElem]at hr |-;intro i j hi hj hij;refine⟨hr i j hi hj hij,?_⟩;rw[wG hi,wG hj];exact h.parts i j hij (by omega)
theorem D6.ok {T:List ByteArray} {M:List Mg} (h:D6 T M) {k:Nat} (hk:k<M.length):gX T (mg M k):=by
 rw[<-wG hk];exact h.2.1 _ (List.getElem_mem _)
theorem D6.pair {T:List ByteArray} {M:List Mg} (h:D6 T M) {i j:Nat} (hi:i<j) (hj:j<M.length):rL (mg M i) (mg M j)/\cG (mg M i) (mg M j):=by
 have:=(List.pairwise_iff_getElem.1 h.2.2) i j (by omega) hj hi;rw[wG hj,wG (by omega)]at this;exact this
theorem L6 {T:List ByteArray} {M:List Mg} (h:16384<M.length):(false=true↔D6 T M):=⟨(fun h=>by cases h),fun h2=>by have:=h2.1;omega⟩
theorem tB {T:List ByteArray} {M:List Mg} {k:Nat} (hk:k<M.length) (h:¬gX T (mg M k)):(false=true↔D6 T M):=⟨(fun h=>by cases h),fun h2=>absurd (h2.ok hk) h⟩
theorem yF {T:List ByteArray} {M:List Mg} {i k:Nat} (hi:i<k) (hk:k<M.length) (h:¬rL (mg M i) (mg M k)):(false=true↔D6 T M):=⟨(fun h=>by cases h),fun h2=>absurd (h2.pair hi hk).1 h⟩
theorem lK {T:List ByteArray} {M:List Mg} {i k:Nat} (hi:i<k) (hk:k<M.length) (h:¬cG (mg M i) (mg M k)):(false=true↔D6 T M):=⟨(fun h=>by cases h),fun h2=>absurd (h2.pair hi hk).2 h⟩
def oV (T:List ByteArray) (M:List Mg) (w:World) (e:Ending) (w':World):Prop:=(∃b,e= .returned (.bool b)/\(b=true↔D6 T M))/\Below w.heap.size w w'
def zJ (M:List Mg) (k:Nat) (f:Int×Int->Option Int):Prop:=∀p c,f p=some c↔c=1/\∃j,j<k/\((mg M j).left,(mg M j).right)=p
theorem zJ.zero (M:List Mg):zJ M 0 (fun _=>none):=fun p c=>⟨(fun h=>by cases h),fun⟨_,j,hj,_⟩=>by omega⟩
theorem zJ.next {M:List Mg} {k:Nat} {f g:Int×Int->Option Int} (h:zJ M k f) (h1:g ((mg M k).left,(mg M k).right)=some 1) (h2:∀t,t≠((mg M k).left,(mg M k).right)->g t=f t):zJ M (k+1) g:=fun p c=>by
 by_cases e:p=((mg M k).left,(mg M k).right)
 ·rw[e,h1];constructor
  ·intro hc;simp at hc;exact⟨hc.symm,k,by omega,rfl⟩
  ·rintro⟨hc,_⟩;rw[hc]
 ·rw[h2 p e,h p c];constructor
  ·rintro⟨hc,j,hj,he⟩;exact⟨hc,j,by omega,he⟩
  ·rintro⟨hc,j,hj,he⟩;have:j≠k:=fun ej=>e (by rw[<-he,ej])
   exact⟨hc,j,by omega,he⟩
theorem zJ.yes {M:List Mg} {k:Nat} {f:Int×Int->Option Int} (h:zJ M k f) {c:Int} (hf:f ((mg M k).left,(mg M k).right)=some c):c=1/\∃i,i<k/\¬cG (mg M i) (mg M k):=by
 obtain⟨hc,j,hj,he⟩:=(h _ _).1 hf;refine⟨hc,j,hj,fun hp=>hp ?_⟩;simp at he;exact he
theorem zJ.no {M:List Mg} {k:Nat} {f:Int×Int->Option Int} (h:zJ M k f) (hf:f ((mg M k).left,(mg M k).right)=none):∀i,i<k->cG (mg M i) (mg M k):=fun i hi hp=>by
 have:f ((mg M k).left,(mg M k).right)=some 1:=(h _ _).2 ⟨rfl,i,hi,by simp[hp.1,hp.2]⟩;rw[hf]at this;cases this
theorem kI {T:List ByteArray} {ao:Option Addr} {n c:Nat} (i:Int) {w:World} (hT:SlS w ao n c T) (k:Nat):
  Calls Tryz.prog 193 #[.slice ao n c, .int .i64 i] (w.drewN k) fun e w'=>e= .returned (.bool (wD T i))/\w'=w.drewN k:=
 (Y9 i (w.drewN k) (hT.stay fun _ _ h=>h)).mono fun e w' ⟨h1,h2⟩=>⟨h1,h2.symm⟩
end Go.Proofs.YtahiballegpbgaaGreatDoor
