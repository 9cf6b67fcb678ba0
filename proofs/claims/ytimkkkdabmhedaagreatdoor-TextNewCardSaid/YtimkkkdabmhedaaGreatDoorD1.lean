/- The frame that is common to all laws: a law's statement follows from its walk. Plain lemmas over any program. -/
import Derived.Test.YtimkkkdabmhedaaGreatDoorRows
import Derived.WalkKit
import Derived.ProofKit
import Derived.OpenShut
import Derived.ShutString
import Derived.ChangeOld
import Derived.Below
import Derived.WalkSpells
import Derived.WalkLawsBesides
import Derived.Lib.Hide
import Derived.BigQuiet
import Derived.Deep.QuietTactic
import Derived.Laws.AppendOwnNone
import Derived.Laws.CopyOwn
import Derived.BigRegion
import Derived.Maps.OwnOps
import Derived.Maps.OwnSet
import Derived.Maps.Views
import Derived.StillTailTactics
import Derived.Deep.AppendLies
set_option linter.unusedVariables false
set_option maxHeartbeats 4000000
namespace Go.Proofs.YtimkkkdabmhedaaGreatDoor.Frame
open Go.ChangeShapes Go.WideShapes Go.ChangeAt Go.RowKit
section
variable {H:Type} {enc:TypeId×Value→H} {P:Program}
theorem dataLength {w:World} {base:Nat} {sp:Nat→Bool} {held:Bool}:∀{ts:List TypeId} {vs:List Value} {ds:List (DataW H)} {ps:List MemPlace},DataW.TrodAll enc P w base sp held ts vs ds ps→ds.length=ts.length
 | [],_,_,_,h=>by
  obtain⟨_,rfl,_⟩:=trodAll_nil h
  rfl
 | _::_,_,_,_,h=>by
  obtain⟨v,vs1,d,ds1,a,b,rfl,rfl,rfl,_,h2⟩:=trodAll_cons h
  have:=dataLength h2
  simp[this]
theorem trodAll_lt {W:World} {b:Nat} {sp:Nat→Bool} {held:Bool}:∀{ts:List TypeId} {vs:List Value} {ds:List (DataW H)} {ps:List MemPlace},
  DataW.TrodAll enc P W b sp held ts vs ds ps→∀x∈ps,x.block<W.heap.size:=by
 intro ts vs ds ps h
 exact DataW.TrodAll.lt h
theorem below_trodAll (hl:laidOutB P=true) {W W':World} (hb:Below W.heap.size W W'):∀{ts:List TypeId} {vs:List Value} {ds:List (DataW H)} {ps:List MemPlace},
  (∀t∈ts,P.readableRec t=true∧t<P.types.size)→DataW.TrodAll enc P W 0 (fun _=>true) true ts vs ds ps→(∀x∈ps,x.block<W.heap.size)→
  DataW.TrodAll enc P W' 0 (fun b=>decide (b<W.heap.size)) true ts vs ds ps:=by
 intro ts
 induction ts with
 | nil=>
  intro vs ds ps _ h _
  cases vs<;>cases ds<;>simp_all [DataW.TrodAll]
 | cons t ts ih=>
  intro vs ds ps ht h hlt
  obtain⟨v,vs',d,ds',p,q,rfl,rfl,rfl,h0,h1⟩:=trodAll_cons h
  exact trodAll_cons_mk (Below.trod hl (ht t (by simp)).1 (ht t (by simp)).2 h0 hb (fun x hx=>hlt x (by simp[hx])))
   (ih (fun t' h'=>ht t' (by simp[h'])) h1 (fun x hx=>hlt x (by simp[hx])))
def Law (P:Program) (f:FuncId) (args:Array Value) (W:World):Prop:=
 Calls P f args W fun e W'=>e= .returned (.bool true)∧Below W.heap.size W W'
theorem law_post {fn:Func} {s:ChangeSpec} {tb:TypeId} (hl:laidOutB P=true) (hp:∀t∈fn.params.toList,P.readableRec t=true∧t<P.types.size)
  (hr:fn.resultTypes= #[tb]) (hb:P.underlying tb=some .bool) (hv:s.vars= [])
  (hs:∀ds:List (DataW H),ds.length=fn.params.size→s.fn H ds= {results:=[.lit (.bool true)],args:=ds})
  {f:FuncId} {W:World} {args:Array Value} {ds gs:List (DataW H)} {before:List MemPlace} (hW:DataW.Whole enc P fn.params.toList s.vars false W args.toList ds gs before)
  (walk:Law P f args W):Calls P f args W fun e W'=>∃v,e= .returned v∧s.post enc P fn false true false false W args v W':=by
 have hW':=hW
 obtain⟨p,q,hA,hV,rfl,hfz,hnd⟩:=hW
 rw[hv]at hV
 obtain⟨rfl,rfl⟩:=trodVars_none hV
 have hlen:ds.length=fn.params.size:=by
  have:=dataLength hA
  simpa using this
 refine Calls.mono walk fun e W' ⟨he,bel⟩=> ?_
 subst he
 have e1:s.fn H (ds++ [])= {results:=[.lit (.bool true)],args:=ds}:=by rw[List.append_nil];exact hs ds hlen
 refine⟨_,rfl,ds,[],_,[],p,[],hW',?_,?_,?_,bel.frame _,fun h=>by cases h⟩
 ·rw[e1,hr];exact trodAll_mk1 (shut_bool hb _)
 ·rw[e1];exact below_trodAll hl bel hp hA (trodAll_lt hA)
 ·rw[e1,hv];rfl
end
end Go.Proofs.YtimkkkdabmhedaaGreatDoor.Frame
namespace Go.Proofs.YtimkkkdabmhedaaGreatDoor
open Go.RowKit
def ix (A:List Int) (i:Nat):Int:=A.getD i 0
theorem ix_eq {A:List Int} {i:Nat} (h:i<A.length):A[i]?=some (ix A i):=by
 simp[ix,List.getD,h]
structure Sl (w:World) (ao:Option Addr) (n cap:Nat) (vs:List Value):Prop where
 len:vs.length=n
 le:n≤cap
 max:cap≤maxLen
 nil:ao=none→cap=0
 at_:∀i u,vs[i]?=some u→∃b o,ao=some ⟨b,o,none⟩∧w.cell? ⟨b,o+i,none⟩=some u
def SlI (w:World) (ao:Option Addr) (n cap:Nat) (A:List Int):Prop:=Sl w ao n cap (A.map (.int .i64))
theorem SlI.len {w:World} {ao:Option Addr} {n cap:Nat} {A:List Int} (h:SlI w ao n cap A):A.length=n:=by simpa using Sl.len h
theorem SlI.at_ {w:World} {ao:Option Addr} {n cap:Nat} {A:List Int} (h:SlI w ao n cap A) {i:Nat} (hi:i<n):
  ∃b o,ao=some ⟨b,o,none⟩∧w.cell? ⟨b,o+i,none⟩=some (.int .i64 (ix A i)):=
 Sl.at_ h i _ (by rw[List.getElem?_map,ix_eq (by rw[h.len];exact hi)];rfl)
theorem Sl.stay {w w':World} {ao:Option Addr} {n cap:Nat} {vs:List Value} (h:Sl w ao n cap vs) (hc:∀p u,w.cell? p=some u→w'.cell? p=some u):Sl w' ao n cap vs:=
 ⟨h.len,h.le,h.max,h.nil,fun i u hu=>let ⟨b,o,e,c⟩:=h.at_ i u hu;⟨b,o,e,hc _ _ c⟩⟩
theorem cell_below {w w':World} (h:Below w.heap.size w w'):∀p u,w.cell? p=some u→w'.cell? p=some u:=
 fun p u hc=>(h.cell (World.block_lt_of_cell? w p hc)).trans hc
theorem Sl.below {w w':World} {ao:Option Addr} {n cap:Nat} {vs:List Value} (h:Sl w ao n cap vs) (hb:Below w.heap.size w w'):Sl w' ao n cap vs:=h.stay (cell_below hb)
theorem SlI.below {w w':World} {ao:Option Addr} {n cap:Nat} {A:List Int} (h:SlI w ao n cap A) (hb:Below w.heap.size w w'):SlI w' ao n cap A:=Sl.below h hb
theorem SlI.drewN {w:World} {ao:Option Addr} {n cap:Nat} {A:List Int} (h:SlI w ao n cap A) (k:Nat):SlI (w.drewN k) ao n cap A:=Sl.stay h fun _ _ h=>h
theorem SlI.drew {w:World} {ao:Option Addr} {n cap:Nat} {A:List Int} (h:SlI w ao n cap A):SlI w.drew ao n cap A:=Sl.stay h fun _ _ h=>h
theorem below_drewN {B:Nat} {a w:World} (h:Below B a w) (n:Nat):Below B a (w.drewN n):=⟨h.os,h.tape,h.output,h.size,h.block⟩
theorem below_alloc (w:World) (o:Obj):Below w.heap.size w (w.alloc o):=(Below.refl _ _).alloc (Nat.le_refl _) o
theorem SlI.alloc {w:World} {ao:Option Addr} {n cap:Nat} {A:List Int} (h:SlI w ao n cap A) (o:Obj):SlI (w.alloc o) ao n cap A:=h.below (below_alloc w o)
theorem Sl.take {w:World} {ao:Option Addr} {n cap:Nat} {vs:List Value} (h:Sl w ao n cap vs) {k:Nat} (hk:k≤n):Sl w ao k cap (vs.take k):=by
 have:=h.len
 have:=h.le
 refine⟨by simp;omega,by omega,h.max,h.nil,fun i u hu=>h.at_ i u ?_⟩
 rw[List.getElem?_take]at hu
 split at hu<;>simp_all
theorem SlI.take {w:World} {ao:Option Addr} {n cap:Nat} {A:List Int} (h:SlI w ao n cap A) {k:Nat} (hk:k≤n):SlI w ao k cap (A.take k):=by
 unfold SlI
 rw[List.map_take]
 exact Sl.take h hk
theorem Sl.drop {w:World} {ao:Option Addr} {n cap:Nat} {vs:List Value} (h:Sl w ao n cap vs) {k:Nat} (hk:k≤n):
  Sl w (if cap=k then ao else ao.map (·.add k)) (n-k) (cap-k) (vs.drop k):=by
 have:=h.len
 have:=h.le
 have:=h.max
 refine⟨by simp;omega,by omega,by omega,?_,fun i u hu=> ?_⟩
 ·intro e
  split at e
  ·omega
  ·simp at e
   have:=h.nil e
   omega
 ·rw[List.getElem?_drop]at hu
  obtain⟨b,o,e,hc⟩:=h.at_ _ _ hu
  have:k+i<n:=by have:=(List.getElem?_eq_some_iff.1 hu).1;omega
  rw[if_neg (by omega),e]
  exact⟨b,o+k,by simp[Addr.add_lit],by rw[←hc,Nat.add_assoc]⟩
theorem SlI.drop {w:World} {ao:Option Addr} {n cap:Nat} {A:List Int} (h:SlI w ao n cap A) {k:Nat} (hk:k≤n):
  SlI w (if cap=k then ao else ao.map (·.add k)) (n-k) (cap-k) (A.drop k):=by
 unfold SlI
 rw[List.map_drop]
 exact Sl.drop h hk
theorem Sl.none {w:World}:Sl w none 0 0 []:=⟨rfl,Nat.le_refl _,by unfold maxLen;omega,fun _=>rfl,fun _ _ h=>by simp at h⟩
theorem Sl.of_own {w:World} {base:Nat} {e:TypeId} {v:Value} {n:Nat} {xs:List Value} (h:w.ownsRow base e 1 v n xs):∃ao cap,v= .slice ao n cap∧Sl w ao n cap xs:=by
 have hcell:=fun(g:Nat) (hg:v.ownBlock=some g)=>h.cells hg
 obtain⟨h1,h2⟩:=h
 rcases h2 with⟨rfl,rfl⟩ | ⟨g,cap,cur,rfl,hg,hh,hn,hm,hs,ht⟩
 ·have:xs= []:=List.eq_nil_of_length_eq_zero (by simpa using h1)
  subst this
  exact⟨_,_,rfl,Sl.none⟩
 ·refine⟨_,_,rfl,⟨by simpa using h1,hn,hm,by simp,fun i u hu=>⟨g,0,rfl,?_⟩⟩⟩
  have:=hcell g rfl i u hu
  rw[Addr.add_lit]at this
  simpa using this
def Own (w:World) (base:Nat) (v:Value) (A:List Int):Prop:=w.ownsRow base 3 1 v A.length (A.map (.int .i64))
theorem Own.sl {w:World} {base:Nat} {v:Value} {A:List Int} (h:Own w base v A):∃ao cap,v= .slice ao A.length cap∧SlI w ao A.length cap A:=Sl.of_own h
theorem Own.nil (w:World) (base:Nat):Own w base (.slice none 0 0) []:=World.ownsRow_nil _ _ _ _
theorem Own.mono {w:World} {base base':Nat} {v:Value} {A:List Int} (h:Own w base v A) (hb:base'≤base):Own w base' v A:=by
 obtain⟨h1,h2⟩:=h
 refine⟨h1,?_⟩
 rcases h2 with h2 | ⟨g,cap,cur,hv,hg,r⟩
 ·exact .inl h2
 ·exact .inr ⟨g,cap,cur,hv,by omega,r⟩
theorem Own.below {w w':World} {base:Nat} {v:Value} {A:List Int} (h:Own w base v A) (hb:Below w.heap.size w w'):Own w' base v A:=by
 have hlt:=World.ownsRow.lt h
 obtain⟨h1,h2⟩:=h
 refine⟨h1,?_⟩
 rcases h2 with h2 | ⟨g,cap,cur,hv,hg,hh,r⟩
 ·exact .inl h2
 ·exact .inr ⟨g,cap,cur,hv,hg,by rw[hb.block g (hlt g (by rw[hv];rfl)).2];exact hh,r⟩
theorem wpList_app {P:Program} {w:World} {ops:Array Oper} {rest:List Oper} {o:Oper} {a:Act} {Q:Exit→Act→World→Prop} (hgd:o.guard= .none) (s x:Operand) (t:TypeId)
  (ho:o.op= .call {callee:= .builtin .append,args:=#[s,x],argTypes:=#[t,t]})
  (base:Nat) (e:TypeId) (i:TypeInfo) (z:Value) (bytes:Nat) (ht:P.underlying t=some (.slice e)) (hi:P.info? e=some i) (hz:i.zero=some z)
  (hsize:i.size=1) (hby:i.bytes=bytes) (hzs:z.cells.size=1)
  (v:Value) (n:Nat) (xs:List Value) (hs:a.eval s=v) (hown:w.ownsRow base e 1 v n xs)
  (ao:Option Addr) (m c:Nat) (news:List Value) (hx:a.eval x= .slice ao m c) (hl:Sl w ao m c news) (h1:∀u∈news,u.oneCell'=true)
  (h63:n+m≤maxLen) (hbytes:(n+m)*bytes≤140737488355328) (hbase:base≤w.heap.size)
  (h:∀v' w',w'.ownsRow base e 1 v' (n+m) (xs++news)→w.grownBy w' v.ownBlock→(v'= .slice .none 0 0↔v= .slice .none 0 0∧m=0)→wpList P ops Q rest (a.put o.dst v') w'):wpList P ops Q (o::rest) a w:=by
 cases ao with
 | none=>
  have hc:=hl.nil rfl
  have hm:m=0:=by have:=hl.le;omega
  subst hc hm
  have hn:news= []:=List.eq_nil_of_length_eq_zero hl.len
  subst hn
  refine wpList_append_own_none hgd s x t ho base e i 1 ht hi v n xs hs hown hx ?_
  exact h v w (by simpa using hown) (World.grownBy.refl _ _) (by simp)
 | some ad=>
  refine wpList_append_own _ hgd s x t ho base e i z 1 bytes ht hi hz hsize hby hzs (by decide) v n xs hs hown ad m c news hx (by simpa using hl.len) ?_ h1 h63 hbytes hbase h
  intro j u hu
  obtain⟨b,of,e,hc⟩:=hl.at_ j u hu
  obtain rfl:=Option.some.inj e
  rw[Addr.add_lit];exact hc
theorem typeInfo_run {P:Program} {t:TypeId} {i:TypeInfo} (h:P.info? t=some i) {w:World}:(typeInfo t).run P w= .ok i w:=by
 simp[typeInfo,h]
theorem wpList_val {P:Program} {w:World} {ops:Array Oper} {rest:List Oper} {o:Oper} {a:Act} {Q:Exit→Act→World→Prop} (hgd:o.guard= .none) {v:Value} {w':World}
  (hr:(execOp a.eval o).run P w= .ok (.value v) w') (h:wpList P ops Q rest (a.put o.dst v) w'):wpList P ops Q (o::rest) a w:=by
 refine wpList_plain hgd fun K hK=> ?_
 unfold Oper.wp
 simp[hr]
 exact hK _ _ h
theorem run_sliceAt_lh {P:Program} {t e:TypeId} {i:TypeInfo} (ht:P.underlying t=some (.slice e)) (hi:P.info? e=some i) (w:World) (ao:Option Addr) (n cap:Nat) (lo hi':Option Value) (l h:Nat)
  (hb:∀w,(Instr.sliceBounds true n cap lo hi' .none).run P w= .ok (l,h,cap) w):
  (Instr.sliceAt t (.slice ao n cap) lo hi' .none).run P w= .ok (.slice (if cap=l then ao else ao.map (·.add (l*i.size))) (h-l) (cap-l)) w:=by
 have e1:P.elem t=e:=by simp[Program.elem,ht]
 have ht':P.underlying t=some (.slice (P.elem t)):=by rw[e1];exact ht
 rw[run_sliceAt_slice w t _ _ _ _ ht',run_slice_any w t ao n cap ht',hb,e1]
 simp[Result.andThen,sizeOf,typeInfo_run hi,sliced]
theorem wpList_slice_high {P:Program} {w:World} {ops:Array Oper} {rest:List Oper} {o:Oper} {a:Act} {Q:Exit→Act→World→Prop} (hgd:o.guard= .none) (t:TypeId) (x l:Operand)
  (ho:o.op= .slice t x .none (some l) .none) (e:TypeId) (i:TypeInfo) (ht:P.underlying t=some (.slice e)) (hi:P.info? e=some i) (hsz:i.size=1)
  (ao:Option Addr) (n cap:Nat) (vs:List Value) (hx:a.eval x= .slice ao n cap) (hS:Sl w ao n cap vs) (kl:IntKind) (L:Int) (k:Nat) (hl:a.eval l= .int kl L) (hL:L=(k:Int)) (hk:k≤n)
  (h:Sl w ao k cap (vs.take k)→wpList P ops Q rest (a.put o.dst (.slice ao k cap)) w):wpList P ops Q (o::rest) a w:=by
 subst hL
 have hle:=hS.le
 refine wpList_val hgd (v:= .slice ao k cap) (w':=w) ?_ (h (hS.take hk))
 have hr:=run_sliceAt_lh ht hi w ao n cap .none (some (.int kl k)) 0 k (fun w=>by simp[Instr.sliceBounds,run_sliceBound,Nat.le_trans hk hle])
 simp only[execOp,ho,hx,hl,Option.map_some,Option.map_none,Sem.run_bind,hr,Result.andThen_ok,Sem.run_pure,hsz,Nat.mul_one]
 congr 3
 cases ao<;>simp[Addr.add]
theorem wpList_int_high {P:Program} {w:World} {ops:Array Oper} {rest:List Oper} {o:Oper} {a:Act} {Q:Exit→Act→World→Prop} (hgd:o.guard= .none) (t:TypeId) (x l:Operand)
  (ho:o.op= .slice t x .none (some l) .none) (e:TypeId) (i:TypeInfo) (ht:P.underlying t=some (.slice e)) (hi:P.info? e=some i) (hsz:i.size=1)
  {ao:Option Addr} {n cap:Nat} {A:List Int} (hx:a.eval x= .slice ao n cap) (hS:SlI w ao n cap A) {kl:IntKind} {L:Int} {k:Nat} (hl:a.eval l= .int kl L) (hL:L=(k:Int)) (hk:k≤n)
  (h:SlI w ao k cap (A.take k)→wpList P ops Q rest (a.put o.dst (.slice ao k cap)) w):wpList P ops Q (o::rest) a w:=
 wpList_slice_high hgd t x l ho e i ht hi hsz ao n cap _ hx hS kl L k hl hL hk fun h'=>h (by unfold SlI;rw[List.map_take];exact h')
theorem int_one (A:List Int):∀u∈A.map (Value.int .i64),u.oneCell'=true:=by
 intro u hu
 obtain⟨_,_,rfl⟩:=List.mem_map.1 hu
 rfl
theorem wpList_int_app {P:Program} {w:World} {ops:Array Oper} {rest:List Oper} {o:Oper} {a:Act} {Q:Exit→Act→World→Prop} (hgd:o.guard= .none) (s x:Operand) (t:TypeId)
  (ho:o.op= .call {callee:= .builtin .append,args:=#[s,x],argTypes:=#[t,t]})
  {base:Nat} (i:TypeInfo) (ht:P.underlying t=some (.slice 3)) (hi:P.info? 3=some i) (hz:i.zero=some (.int .i64 0)) (hsize:i.size=1) (hby:i.bytes=8)
  {v:Value} {A:List Int} (hs:a.eval s=v) (hown:Own w base v A) {ao:Option Addr} {m c:Nat} {B:List Int} (hx:a.eval x= .slice ao m c) (hl:SlI w ao m c B)
  (hlen:(A.length+m)*8≤140737488355328) (hbase:base≤w.heap.size)
  (h:∀v' w',Own w' base v' (A++B)→w.grownBy w' v.ownBlock→Below base w w'→wpList P ops Q rest (a.put o.dst v') w'):wpList P ops Q (o::rest) a w:=
 wpList_app hgd s x t ho base _ i (.int .i64 0) 8 ht hi hz hsize hby rfl v A.length _ hs hown ao m c _ hx hl (int_one B) (by unfold maxLen;omega) hlen hbase
  fun v' w' h1 h2 _=>h v' w' (by unfold Own;have:=hl.len;rw[List.length_append,List.map_append,this];exact h1) h2
   ((Below.refl _ _).grown h2 hbase fun k hk=>(World.ownsRow.lt hown k hk).1)
theorem SlI.one (w:World) (x:Int) (t:TypeId):SlI (w.alloc (.cells #[.int .i64 x] t)) (some ⟨w.heap.size,0, .none⟩) 1 1 [x]:=by
 refine⟨rfl,Nat.le_refl _,by unfold maxLen;omega,by simp,fun i u hu=>⟨_,_,rfl,?_⟩⟩
 match i,hu with
 | 0,hu=>simp at hu;subst hu;simp
 | i+1,hu=>simp at hu
theorem take_snoc {A:List Int} {k:Nat} (h:k<A.length):A.take k++ [ix A k]=A.take (k+1):=by
 rw[List.take_add_one,ix_eq h];rfl
theorem Own.alloc {w:World} {base:Nat} {v:Value} {A:List Int} (h:Own w base v A) (o:Obj):Own (w.alloc o) base v A:=World.ownsRow.alloc h o
theorem Own.block {w:World} {base:Nat} {vo:Option Addr} {n c:Nat} {A:List Int} (h:Own w base (.slice vo n c) A):
  A.length=n∧(vo= .none∧n=0∧c=0∨∃g cur,vo=some ⟨g,0, .none⟩∧base≤g∧w.heap[g]?=some (.cells (cur:List Value).toArray 3 (0,0))∧n≤c∧c≤maxLen∧cur.length=c∧cur.take n=A.map (.int .i64)):=by
 obtain⟨_,h2⟩:=h
 rcases h2 with⟨hv,hn⟩ | ⟨g,cap,cur,hv,hg,hh,hn,hm,hs,ht⟩
 ·simp at hv
  exact⟨by omega, .inl hv⟩
 ·simp at hv
  obtain⟨rfl,rfl,rfl⟩:=hv
  refine⟨rfl, .inr ⟨g,cur.toList,rfl,hg,by simpa using hh,hn,hm,by simpa using hs,by simpa using ht⟩⟩
theorem Own.mk {w:World} {base g n c:Nat} {cur:List Value} {A:List Int} (hg:base≤g) (hh:w.heap[g]?=some (.cells cur.toArray 3 (0,0))) (hn:n≤c) (hm:c≤maxLen) (hc:cur.length=c) (hA:A.length=n)
  (ht:cur.take n=A.map (.int .i64)):Own w base (.slice (some ⟨g,0, .none⟩) n c) A:=by
 subst hA
 exact⟨by simp, .inr ⟨g,c,cur.toArray,rfl,hg,hh,hn,hm,by simpa using hc,by simpa using ht⟩⟩
theorem wpList_append_run {P:Program} {w:World} {ops:Array Oper} {rest:List Oper} {o:Oper} {a:Act} {Q:Exit→Act→World→Prop} (hgd:o.guard= .none) (s x:Operand) (t u:TypeId)
  (ho:o.op= .call {callee:= .builtin .append,args:=#[s,x],argTypes:=#[t,u]}) {v1 v2 v:Value} {w':World} (hs:a.eval s=v1) (hx:a.eval x=v2)
  (hr:∀ty,(Builtin.append_ #[t,u] ty #[v1,v2]).run P w= .ok v w') (h:wpList P ops Q rest (a.put o.dst v) w'):wpList P ops Q (o::rest) a w:=by
 refine wpList_plain hgd fun K hK=> ?_
 unfold Oper.wp
 simp[execOp,ho,resolve,invoke,builtin,hs,hx,hr,Result.andThen]
 exact hK _ _ h
def rx (R:List (List Int)) (i:Nat):List Int:=R.getD i []
theorem rx_eq {R:List (List Int)} {i:Nat} (h:i<R.length):R[i]?=some (rx R i):=by
 simp[rx,List.getD,h]
structure SlRows (w:World) (ao:Option Addr) (n cap:Nat) (R:List (List Int)):Prop where
 len:R.length=n
 le:n≤cap
 max:cap≤maxLen
 nil:ao=none→cap=0
 at_:∀i,i<n→∃b o ra rc,ao=some ⟨b,o,none⟩∧w.cell? ⟨b,o+i,none⟩=some (.slice ra (rx R i).length rc)∧SlI w ra (rx R i).length rc (rx R i)
theorem SlRows.stay {w w':World} {ao:Option Addr} {n cap:Nat} {R:List (List Int)} (h:SlRows w ao n cap R) (hc:∀p u,w.cell? p=some u→w'.cell? p=some u):SlRows w' ao n cap R:=
 ⟨h.len,h.le,h.max,h.nil,fun i hi=>let ⟨b,o,ra,rc,e,c,r⟩:=h.at_ i hi;⟨b,o,ra,rc,e,hc _ _ c,Sl.stay r hc⟩⟩
theorem SlRows.below {w w':World} {ao:Option Addr} {n cap:Nat} {R:List (List Int)} (h:SlRows w ao n cap R) (hb:Below w.heap.size w w'):SlRows w' ao n cap R:=h.stay (cell_below hb)
theorem SlRows.alloc {w:World} {ao:Option Addr} {n cap:Nat} {R:List (List Int)} (h:SlRows w ao n cap R) (o:Obj):SlRows (w.alloc o) ao n cap R:=h.below (below_alloc w o)
def tot (R:List (List Int)) (k:Nat):Nat:=(R.take k).flatten.length
theorem tot_zero (R:List (List Int)):tot R 0=0:=by simp[tot]
theorem flat_succ {R:List (List Int)} {k:Nat} (h:k<R.length):(R.take (k+1)).flatten=(R.take k).flatten++rx R k:=by
 rw[List.take_add_one,rx_eq h];simp
theorem tot_succ {R:List (List Int)} {k:Nat} (h:k<R.length):tot R (k+1)=tot R k+(rx R k).length:=by
 unfold tot;rw[flat_succ h];simp
theorem tot_le (R:List (List Int)) (k:Nat):tot R k≤R.flatten.length:=by
 unfold tot
 have e:R.flatten=(R.take k).flatten++(R.drop k).flatten:=by rw[←List.flatten_append,List.take_append_drop]
 rw[e,List.length_append]
 exact Nat.le_add_right _ _
theorem tot_all (R:List (List Int)):tot R R.length=R.flatten.length:=by simp[tot]
theorem SlRows.drew {w:World} {ao:Option Addr} {n cap:Nat} {R:List (List Int)} (h:SlRows w ao n cap R):SlRows w.drew ao n cap R:=h.stay fun _ _ h=>h
theorem SlRows.two {w:World} {ao bo:Option Addr} {c d:Nat} {A B:List Int} (hA:SlI w ao A.length c A) (hB:SlI w bo B.length d B) (t:TypeId) (g:Nat) (hg:g=w.heap.size):
  SlRows (w.alloc (.cells #[.slice ao A.length c, .slice bo B.length d] t)) (some ⟨g,0,none⟩) 2 2 [A,B]:=by
 subst hg
 refine⟨rfl,Nat.le_refl _,by unfold maxLen;omega,by simp,fun i hi=> ?_⟩
 match i,hi with
 | 0,_=>exact⟨_,_,ao,c,rfl,by simp[rx],hA.alloc _⟩
 | 1,_=>exact⟨_,_,bo,d,rfl,by simp[rx],hB.alloc _⟩
set_option linter.unusedSimpArgs false
structure Nd where
 key:ByteArray
 ro:Option Addr
 rn:Nat
 rc:Nat
 el:Int
 yo:Int
def ndCells (n:Nd):List Value:=[.string n.key, .slice n.ro n.rn n.rc, .int .i64 n.el, .int .i64 n.yo]
structure Nds (w:World) (nb m cap:Nat) (N:Nat→Nd):Prop where
 le:m≤cap
 max:cap≤maxLen
 blk:∃cur:List Value,w.heap[nb]?=some (.cells cur.toArray 208 (0,0))∧cur.length=cap*4∧∀i,i<m→∀j,j<4→cur[i*4+j]?=(ndCells (N i))[j]?
theorem Nds.cell {w:World} {nb m cap:Nat} {N:Nat→Nd} (h:Nds w nb m cap N) {i:Nat} (hi:i<m) {j:Nat} (hj:j<4):w.cell? ⟨nb,i*4+j,none⟩=(ndCells (N i))[j]? :=by
 obtain⟨cur,hb,hl,hc⟩:=h.blk
 simp only[World.cell?,hb]
 simpa using hc i hi j hj
theorem Nds.free {w:World} {nb m cap:Nat} {N:Nat→Nd} (h:Nds w nb m cap N) (o:Nat):w.frozen? ⟨nb,o,none⟩=false:=by
 obtain⟨cur,hb,_⟩:=h.blk
 simp only[World.frozen?,hb]
 simp
theorem Nds.lt {w:World} {nb m cap:Nat} {N:Nat→Nd} (h:Nds w nb m cap N):nb<w.heap.size:=by
 obtain⟨cur,hb,_⟩:=h.blk
 rcases Nat.lt_or_ge nb w.heap.size with h' | h'
 ·exact h'
 ·rw[Array.getElem?_eq_none h']at hb;cases hb
theorem Nds.stay {w w':World} {nb m cap:Nat} {N:Nat→Nd} (h:Nds w nb m cap N) (hb:w'.heap[nb]?=w.heap[nb]?):Nds w' nb m cap N:=by
 obtain⟨cur,h1,h2,h3⟩:=h.blk
 exact⟨h.le,h.max,cur,hb.trans h1,h2,h3⟩
def upd {α:Type} (N:Nat→α) (i:Nat) (x:α):Nat→α:=fun k=>if k=i then x else N k
theorem upd_same {α:Type} (N:Nat→α) (i:Nat) (x:α):upd N i x i=x:=by simp[upd]
theorem upd_other {α:Type} (N:Nat→α) (i k:Nat) (x:α) (h:k≠i):upd N i x k=N k:=by simp[upd,h]
theorem Nds.store {w:World} {nb m cap:Nat} {N:Nat→Nd} (h:Nds w nb m cap N) {i:Nat} (hi:i<m) {j:Nat} (hj:j<4) (v:Value) (n':Nd) (hn:ndCells n'=(ndCells (N i)).set j v):
  Nds (w.setCell ⟨nb,i*4+j,none⟩ v) nb m cap (upd N i n'):=by
 obtain⟨cur,hb,hl,hc⟩:=h.blk
 refine⟨h.le,h.max,cur.set (i*4+j) v,?_,by simpa using hl,?_⟩
 ·rw[heap_setCell_same w nb _ cur.toArray _ v hb]
  simp
 ·intro i' hi' j' hj'
  by_cases e:i'=i
  ·subst e
   rw[upd_same,hn]
   by_cases ej:j'=j
   ·subst ej
    have h4:j'<(ndCells (N i')).length:=by simp[ndCells];omega
    have hl':=h.le
    have h5:i'*4+j'<cur.length:=by rw[hl];omega
    simp[h4,h5]
   ·rw[List.getElem?_set,List.getElem?_set,if_neg (by omega),if_neg (fun e=>ej e.symm)]
    exact hc i' hi' j' hj'
  ·rw[upd_other _ _ _ _ e,List.getElem?_set,if_neg (by omega)]
   exact hc i' hi' j' hj'
structure Flds (w:World) (cb:Nat) (nodes:Value) (mb:Nat) (e y room hits misses:Int):Prop where
 f0:w.cell? ⟨cb,0,none⟩=some nodes
 f1:w.cell? ⟨cb,1,none⟩=some (.map (some mb))
 f2:w.cell? ⟨cb,2,none⟩=some (.int .i64 e)
 f3:w.cell? ⟨cb,3,none⟩=some (.int .i64 y)
 f4:w.cell? ⟨cb,4,none⟩=some (.int .i64 room)
 f5:w.cell? ⟨cb,5,none⟩=some (.int .i64 hits)
 f6:w.cell? ⟨cb,6,none⟩=some (.int .i64 misses)
 ff:∀o,w.frozen? ⟨cb,o,none⟩=false
theorem Flds.stay {w w':World} {cb:Nat} {nodes:Value} {mb:Nat} {e y room hits misses:Int} (h:Flds w cb nodes mb e y room hits misses) (hb:w'.heap[cb]?=w.heap[cb]?):Flds w' cb nodes mb e y room hits misses:=by
 have hc:∀o,w'.cell? ⟨cb,o,none⟩=w.cell? ⟨cb,o,none⟩:=fun o=>World.cell?_of_block (w:=w) hb
 have hf:∀o,w'.frozen? ⟨cb,o,none⟩=w.frozen? ⟨cb,o,none⟩:=fun o=>World.frozen?_of_block (w:=w) hb
 exact⟨(hc 0).trans h.f0,(hc 1).trans h.f1,(hc 2).trans h.f2,(hc 3).trans h.f3,(hc 4).trans h.f4,(hc 5).trans h.f5,(hc 6).trans h.f6,fun o=>(hf o).trans (h.ff o)⟩
theorem cell_set_same {w:World} {b o:Nat} {u v:Value} (h:w.cell? ⟨b,o,none⟩=some u):(w.setCell ⟨b,o,none⟩ v).cell? ⟨b,o,none⟩=some v:=by
 simp[go_sem,h]
theorem cell_set_off {w:World} {b o o':Nat} {v:Value} (h:o'≠o):(w.setCell ⟨b,o,none⟩ v).cell? ⟨b,o',none⟩=w.cell? ⟨b,o',none⟩:=by
 simp[go_sem,h]
theorem heap_set_other {w:World} {b o:Nat} {v:Value} {k:Nat} (h:k≠b):(w.setCell ⟨b,o,none⟩ v).heap[k]?=w.heap[k]? :=Below.heap_setCell _ _ _ _ h
theorem frozen_set {w:World} {a p:Addr} {v:Value}:(w.setCell a v).frozen? p=w.frozen? p:=by simp
section
variable {w:World} {cb:Nat} {nodes:Value} {mb:Nat} {e y room hits misses:Int}
theorem Flds.set0 (h:Flds w cb nodes mb e y room hits misses) (v:Value):Flds (w.setCell ⟨cb,0,none⟩ v) cb v mb e y room hits misses:=
 ⟨cell_set_same h.f0,(cell_set_off (by omega)).trans h.f1,(cell_set_off (by omega)).trans h.f2,(cell_set_off (by omega)).trans h.f3,(cell_set_off (by omega)).trans h.f4,(cell_set_off (by omega)).trans h.f5,(cell_set_off (by omega)).trans h.f6,fun o=>frozen_set.trans (h.ff o)⟩
theorem Flds.set2 (h:Flds w cb nodes mb e y room hits misses) (x:Int):Flds (w.setCell ⟨cb,2,none⟩ (.int .i64 x)) cb nodes mb x y room hits misses:=
 ⟨(cell_set_off (by omega)).trans h.f0,(cell_set_off (by omega)).trans h.f1,cell_set_same h.f2,(cell_set_off (by omega)).trans h.f3,(cell_set_off (by omega)).trans h.f4,(cell_set_off (by omega)).trans h.f5,(cell_set_off (by omega)).trans h.f6,fun o=>frozen_set.trans (h.ff o)⟩
theorem Flds.set3 (h:Flds w cb nodes mb e y room hits misses) (x:Int):Flds (w.setCell ⟨cb,3,none⟩ (.int .i64 x)) cb nodes mb e x room hits misses:=
 ⟨(cell_set_off (by omega)).trans h.f0,(cell_set_off (by omega)).trans h.f1,(cell_set_off (by omega)).trans h.f2,cell_set_same h.f3,(cell_set_off (by omega)).trans h.f4,(cell_set_off (by omega)).trans h.f5,(cell_set_off (by omega)).trans h.f6,fun o=>frozen_set.trans (h.ff o)⟩
theorem Flds.set5 (h:Flds w cb nodes mb e y room hits misses) (x:Int):Flds (w.setCell ⟨cb,5,none⟩ (.int .i64 x)) cb nodes mb e y room x misses:=
 ⟨(cell_set_off (by omega)).trans h.f0,(cell_set_off (by omega)).trans h.f1,(cell_set_off (by omega)).trans h.f2,(cell_set_off (by omega)).trans h.f3,(cell_set_off (by omega)).trans h.f4,cell_set_same h.f5,(cell_set_off (by omega)).trans h.f6,fun o=>frozen_set.trans (h.ff o)⟩
theorem Flds.set6 (h:Flds w cb nodes mb e y room hits misses) (x:Int):Flds (w.setCell ⟨cb,6,none⟩ (.int .i64 x)) cb nodes mb e y room hits x:=
 ⟨(cell_set_off (by omega)).trans h.f0,(cell_set_off (by omega)).trans h.f1,(cell_set_off (by omega)).trans h.f2,(cell_set_off (by omega)).trans h.f3,(cell_set_off (by omega)).trans h.f4,(cell_set_off (by omega)).trans h.f5,cell_set_same h.f6,fun o=>frozen_set.trans (h.ff o)⟩
end
structure Keeps (S:Nat→Prop) (w w':World):Prop where
 os:w'.os=w.os
 tape:w'.tape=w.tape
 output:w'.output=w.output
 size:w.heap.size≤w'.heap.size
 block:∀k,k<w.heap.size→¬S k→w'.heap[k]?=w.heap[k]?
theorem Keeps.refl (S:Nat→Prop) (w:World):Keeps S w w:=⟨rfl,rfl,rfl,Nat.le_refl _,fun _ _ _=>rfl⟩
theorem Keeps.trans {S:Nat→Prop} {a b c:World} (h:Keeps S a b) (k:Keeps S b c):Keeps S a c:=
 ⟨k.os.trans h.os,k.tape.trans h.tape,k.output.trans h.output,Nat.le_trans h.size k.size,fun i hi hs=>(k.block i (Nat.lt_of_lt_of_le hi h.size) hs).trans (h.block i hi hs)⟩
theorem Keeps.mono {S T:Nat→Prop} {a b:World} (h:Keeps S a b) (hst:∀k,k<a.heap.size→S k→T k):Keeps T a b:=⟨h.os,h.tape,h.output,h.size,fun i hi hs=>h.block i hi fun hi'=>hs (hst i hi hi')⟩
theorem Keeps.set {S:Nat→Prop} {a w:World} (h:Keeps S a w) {p:Addr} (hp:S p.block) (v:Value):Keeps S a (w.setCell p v):=
 h.trans ⟨rfl,rfl,rfl,by simp[World.setCell],fun k hk hs=>Below.heap_setCell _ _ _ _ (fun e=>hs (e▸hp))⟩
theorem Keeps.alloc {S:Nat→Prop} {a w:World} (h:Keeps S a w) (o:Obj):Keeps S a (w.alloc o):=
 h.trans ⟨rfl,rfl,rfl,by simp,fun k hk hs=>Below.heap_alloc _ _ _ hk⟩
theorem Keeps.drewN {S:Nat→Prop} {a w:World} (h:Keeps S a w) (n:Nat):Keeps S a (w.drewN n):=⟨h.os,h.tape,h.output,h.size,h.block⟩
theorem Keeps.drew {S:Nat→Prop} {a w:World} (h:Keeps S a w):Keeps S a w.drew:=⟨h.os,h.tape,h.output,h.size,h.block⟩
theorem Keeps.of_below {S:Nat→Prop} {w w':World} (h:Below w.heap.size w w'):Keeps S w w':=⟨h.os,h.tape,h.output,h.size,fun k hk _=>h.block k hk⟩
theorem Keeps.below {S:Nat→Prop} {w w':World} {B:Nat} (h:Keeps S w w') (hB:B≤w.heap.size) (hs:∀k,S k→B≤k):Below B w w':=
 ⟨h.os,h.tape,h.output,h.size,fun k hk=>h.block k (by omega) fun hk'=>by have:=hs k hk';omega⟩
def setYoN (N:Nat→Nd) (p:Nat) (x:Int):Nat→Nd:=upd N p {N p with yo:=x}
def setElN (N:Nat→Nd) (p:Nat) (x:Int):Nat→Nd:=upd N p {N p with el:=x}
def unl1 (N:Nat→Nd) (el yo:Int):Nat→Nd:=if el= -1 then N else setYoN N el.toNat yo
def unl2 (N:Nat→Nd) (el yo:Int):Nat→Nd:=if yo= -1 then unl1 N el yo else setElN (unl1 N el yo) yo.toNat el
def unlN (N:Nat→Nd) (i:Nat):Nat→Nd:=unl2 N (N i).el (N i).yo
def Pl (m:Nat) (x:Int):Prop:=x= -1∨∃k:Nat,x=k∧k<m
def Two (cb nb:Nat) (k:Nat):Prop:=k=cb∨k=nb
structure CMem (w:World) (cb nb mb m cap:Nat) (N:Nat→Nd) (e y room hits misses:Int):Prop where
 f:Flds w cb (.slice (some ⟨nb,0,none⟩) m cap) mb e y room hits misses
 n:Nds w nb m cap N
 ne:cb≠nb
theorem CMem.cells {w:World} {cb nb mb m cap:Nat} {N:Nat→Nd} {e y room hits misses:Int} (h:CMem w cb nb mb m cap N e y room hits misses) {i:Nat} (hi:i<m):
  w.cell? ⟨nb,i*4,none⟩=some (.string (N i).key)∧w.cell? ⟨nb,i*4+1,none⟩=some (.slice (N i).ro (N i).rn (N i).rc)∧w.cell? ⟨nb,i*4+2,none⟩=some (.int .i64 (N i).el)∧w.cell? ⟨nb,i*4+3,none⟩=some (.int .i64 (N i).yo):=
 ⟨h.n.cell hi (j:=0) (by omega),h.n.cell hi (j:=1) (by omega),h.n.cell hi (j:=2) (by omega),h.n.cell hi (j:=3) (by omega)⟩
section
variable {w:World} {cb nb mb m cap:Nat} {N:Nat→Nd} {e y room hits misses:Int}
theorem CMem.lt (h:CMem w cb nb mb m cap N e y room hits misses):cb<w.heap.size:=World.block_lt_of_cell? w _ h.f.f0
theorem CMem.stay {w':World} (h:CMem w cb nb mb m cap N e y room hits misses) (h1:w'.heap[cb]?=w.heap[cb]?) (h2:w'.heap[nb]?=w.heap[nb]?):CMem w' cb nb mb m cap N e y room hits misses:=
 ⟨h.f.stay h1,h.n.stay h2,h.ne⟩
theorem CMem.alloc (h:CMem w cb nb mb m cap N e y room hits misses) (o:Obj):CMem (w.alloc o) cb nb mb m cap N e y room hits misses:=
 h.stay (Below.heap_alloc _ _ _ h.lt) (Below.heap_alloc _ _ _ h.n.lt)
theorem CMem.drew (h:CMem w cb nb mb m cap N e y room hits misses):CMem w.drew cb nb mb m cap N e y room hits misses:=h.stay rfl rfl
theorem CMem.drewN (h:CMem w cb nb mb m cap N e y room hits misses) (n:Nat):CMem (w.drewN n) cb nb mb m cap N e y room hits misses:=h.stay rfl rfl
theorem CMem.setE (h:CMem w cb nb mb m cap N e y room hits misses) (x:Int):CMem (w.setCell ⟨cb,2,none⟩ (.int .i64 x)) cb nb mb m cap N x y room hits misses:=
 ⟨h.f.set2 x,h.n.stay (heap_set_other h.ne.symm),h.ne⟩
theorem CMem.setY (h:CMem w cb nb mb m cap N e y room hits misses) (x:Int):CMem (w.setCell ⟨cb,3,none⟩ (.int .i64 x)) cb nb mb m cap N e x room hits misses:=
 ⟨h.f.set3 x,h.n.stay (heap_set_other h.ne.symm),h.ne⟩
theorem CMem.setEl (h:CMem w cb nb mb m cap N e y room hits misses) {k:Nat} (hk:k<m) (x:Int):CMem (w.setCell ⟨nb,k*4+2,none⟩ (.int .i64 x)) cb nb mb m cap (setElN N k x) e y room hits misses:=
 ⟨h.f.stay (heap_set_other h.ne),h.n.store hk (j:=2) (by omega) _ _ rfl,h.ne⟩
theorem CMem.setYo (h:CMem w cb nb mb m cap N e y room hits misses) {k:Nat} (hk:k<m) (x:Int):CMem (w.setCell ⟨nb,k*4+3,none⟩ (.int .i64 x)) cb nb mb m cap (setYoN N k x) e y room hits misses:=
 ⟨h.f.stay (heap_set_other h.ne),h.n.store hk (j:=3) (by omega) _ _ rfl,h.ne⟩
end
theorem unlink_calls {cb nb mb m cap:Nat} {N:Nat→Nd} {e y room hits misses:Int} (w:World) (h:CMem w cb nb mb m cap N e y room hits misses) (i:Nat) (hi:i<m) (hel:Pl m (N i).el) (hyo:Pl m (N i).yo):
  Calls Tryz.prog 147 #[.pointer (some ⟨cb,0,none⟩), .int .i64 i] w fun en w'=>en= .returned (.tuple #[])∧
   CMem w' cb nb mb m cap (unlN N i) (if(N i).el= -1 then(N i).yo else e) (if(N i).yo= -1 then(N i).el else y) room hits misses∧Keeps (Two cb nb) w w':=by
 obtain⟨c0,c1,c2,c3⟩:=h.cells hi
 obtain⟨f0,f1,f2,f3,f4,f5,f6,ff⟩:=id h.f
 have nf:=h.n.free
 have hle:=h.n.le
 have hmax:=h.n.max
 unfold maxLen at hmax
 have hne:=h.ne
 have hne2:=hne.symm
 have hlt:=h.n.lt
 have hlt2:=h.lt
 have him:(i:Int)<(m:Int):=by omega
 obtain⟨el,hel'⟩:∃x,(N i).el=x:=⟨_,rfl⟩
 obtain⟨yo,hyo'⟩:∃x,(N i).yo=x:=⟨_,rfl⟩
 rw[hel']at c2 hel
 rw[hyo']at c3 hyo
 rw[hel',hyo']
 have hunl:unlN N i=unl2 N el yo:=by unfold unlN;rw[hel',hyo']
 rw[hunl]
 clear hunl hel' hyo'
 have H:=Lib.hid h
 clear h
 rcases hel with rfl | ⟨p,rfl,hp⟩
 ·rcases hyo with rfl | ⟨q,rfl,hq⟩
  ·go_enter Tryz.func147,Tryz.ntmps147
   go_wp2
   go_end0
   refine⟨rfl,?_,?_⟩
   ·have:=((H.out.setE (-1)).setY (-1)).alloc (.cells #[.string (N i).key, .slice (N i).ro (N i).rn (N i).rc, .int .i64 (-1), .int .i64 (-1)] 208)
    simpa[unl2,unl1]using this
   ·exact((((Keeps.refl (Two cb nb) w).set (p:=⟨cb,2,none⟩) (Or.inl rfl) _).set (p:=⟨cb,3,none⟩) (Or.inl rfl) _).alloc _)
  ·have hqm:(q:Int)<(m:Int):=by omega
   have hq1:((q:Int)== -1)=false:=by simp
   have hq2:¬(q:Int)= -1:=by omega
   have g2:=(H.out.cells hq).2.2.1
   go_enter Tryz.func147,Tryz.ntmps147
   go_wp2
   go_region
   all_goals go_wp2
   all_goals
    go_end0
    have e1:unl2 N (-1) (q:Int)=setElN N q (-1):=by simp[unl2,unl1,hq2]
    rw[e1]
    exact⟨rfl,(((H.out.setE _).setEl hq _).alloc _).drew,((((Keeps.refl (Two cb nb) w).set (p:=⟨cb,2,none⟩) (Or.inl rfl) _).set (p:=⟨nb,q*4+2,none⟩) (Or.inr rfl) _).alloc _).drew⟩
 ·have hpm:(p:Int)<(m:Int):=by omega
  have hp1:((p:Int)== -1)=false:=by simp
  have hp2:¬(p:Int)= -1:=by omega
  have g3:=(H.out.cells hp).2.2.2
  rcases hyo with rfl | ⟨q,rfl,hq⟩
  ·go_enter Tryz.func147,Tryz.ntmps147
   go_wp2
   go_region
   all_goals go_wp2
   all_goals
    go_end0
    have e1:unl2 N (p:Int) (-1)=setYoN N p (-1):=by simp[unl2,unl1,hp2]
    rw[e1]
    exact⟨rfl,(((H.out.setYo hp _).setY _).alloc _).drew,((((Keeps.refl (Two cb nb) w).set (p:=⟨nb,p*4+3,none⟩) (Or.inr rfl) _).set (p:=⟨cb,3,none⟩) (Or.inl rfl) _).alloc _).drew⟩
  ·have hqm:(q:Int)<(m:Int):=by omega
   have hq1:((q:Int)== -1)=false:=by simp
   have hq2:¬(q:Int)= -1:=by omega
   have g2:=(H.out.cells hq).2.2.1
   go_enter Tryz.func147,Tryz.ntmps147
   go_wp2
   go_region
   all_goals go_wp2
   all_goals go_region
   all_goals go_wp2
   all_goals
    go_end0
    have e1:unl2 N (p:Int) (q:Int)=setElN (setYoN N p q) q p:=by simp[unl2,unl1,hp2,hq2]
    rw[e1]
    exact⟨rfl,((((H.out.setYo hp _).setEl hq _).alloc _).drew).drew,(((((Keeps.refl (Two cb nb) w).set (p:=⟨nb,p*4+3,none⟩) (Or.inr rfl) _).set (p:=⟨nb,q*4+2,none⟩) (Or.inr rfl) _).alloc _).drew).drew⟩
def lnkN (N:Nat→Nd) (i:Nat) (y:Int):Nat→Nd:=
 if y= -1 then setYoN (setElN N i y) i (-1)else setYoN (setYoN (setElN N i y) i (-1)) y.toNat i
theorem link_calls {cb nb mb m cap:Nat} {N:Nat→Nd} {e y room hits misses:Int} (w:World) (h:CMem w cb nb mb m cap N e y room hits misses) (i:Nat) (hi:i<m) (hy:Pl m y) (hyi:y≠i):
  Calls Tryz.prog 148 #[.pointer (some ⟨cb,0,none⟩), .int .i64 i] w fun en w'=>en= .returned (.tuple #[])∧
   CMem w' cb nb mb m cap (lnkN N i y) (if y= -1 then i else e) i room hits misses∧Keeps (Two cb nb) w w':=by
 obtain⟨c0,c1,c2,c3⟩:=h.cells hi
 obtain⟨f0,f1,f2,f3,f4,f5,f6,ff⟩:=id h.f
 have nf:=h.n.free
 have hle:=h.n.le
 have hmax:=h.n.max
 unfold maxLen at hmax
 have hne:=h.ne
 have hne2:=hne.symm
 have hlt:=h.n.lt
 have hlt2:=h.lt
 have him:(i:Int)<(m:Int):=by omega
 have H:=Lib.hid h
 clear h
 rcases hy with rfl | ⟨q,rfl,hq⟩
 ·go_enter Tryz.func148,Tryz.ntmps148
  go_wp2
  go_region
  all_goals go_wp2
  all_goals
   go_end0
   have e1:lnkN N i (-1)=setYoN (setElN N i (-1)) i (-1):=by simp[lnkN]
   rw[e1]
   exact⟨rfl,((((H.out.setEl hi _).setYo hi _).setE _).setY _).drew,(((((Keeps.refl (Two cb nb) w).set (p:=⟨nb,i*4+2,none⟩) (Or.inr rfl) _).set (p:=⟨nb,i*4+3,none⟩) (Or.inr rfl) _).set (p:=⟨cb,2,none⟩) (Or.inl rfl) _).set (p:=⟨cb,3,none⟩) (Or.inl rfl) _).drew⟩
 ·have hqm:(q:Int)<(m:Int):=by omega
  have hq1:((q:Int)== -1)=false:=by simp
  have hq2:¬(q:Int)= -1:=by omega
  have hqi:¬q=i:=by omega
  have g3:=(H.out.cells hq).2.2.2
  go_enter Tryz.func148,Tryz.ntmps148
  go_wp2
  go_region
  all_goals go_wp2
  all_goals go_region
  all_goals go_wp2
  all_goals
   go_end0
   have e1:lnkN N i (q:Int)=setYoN (setYoN (setElN N i q) i (-1)) q i:=by simp[lnkN,hq2]
   rw[e1]
   exact⟨rfl,(((((H.out.setEl hi _).setYo hi _).setYo hq _).setY _).drew).drew,((((((Keeps.refl (Two cb nb) w).set (p:=⟨nb,i*4+2,none⟩) (Or.inr rfl) _).set (p:=⟨nb,i*4+3,none⟩) (Or.inr rfl) _).set (p:=⟨nb,q*4+3,none⟩) (Or.inr rfl) _).set (p:=⟨cb,3,none⟩) (Or.inl rfl) _).drew).drew⟩
def lstD (l:List Nat):Int:=match l.getLast? with | none=> -1 | some x=>x
def hdD (l:List Nat):Int:=match l with | []=> -1 | x::_=>x
theorem nil_or_snoc {α:Type} (l:List α):l= []∨∃l' x,l=l'++ [x]:=by
 rcases List.eq_nil_or_concat l with h | ⟨l',x,h⟩
 ·exact .inl h
 ·exact .inr ⟨l',x,by rw[h,List.concat_eq_append]⟩
theorem lstD_nil:lstD []= -1:=rfl
theorem lstD_snoc (l:List Nat) (x:Nat):lstD (l++ [x])=x:=by simp[lstD]
theorem lstD_app (l:List Nat) (x:Nat) (r:List Nat):lstD (l++x::r)=lstD (x::r):=by
 simp[lstD,List.getLast?_append,List.getLast?_cons]
theorem hdD_app (x:Nat) (l r:List Nat):hdD ((x::l)++r)=x:=rfl
theorem lstD_pl {l:List Nat} {m:Nat} (h:∀k∈l,k<m):Pl m (lstD l):=by
 rcases nil_or_snoc l with rfl | ⟨l',x,rfl⟩
 ·exact .inl rfl
 ·exact .inr ⟨x,lstD_snoc _ _,h x (by simp)⟩
theorem hdD_pl {l:List Nat} {m:Nat} (h:∀k∈l,k<m):Pl m (hdD l):=by
 cases l with
 | nil=>exact .inl rfl
 | cons x l=>exact .inr ⟨x,rfl,h x (by simp)⟩
structure Chain (ord:List Nat) (N:Nat→Nd) (e y:Int):Prop where
 nd:ord.Nodup
 e_:e=hdD ord
 y_:y=lstD ord
 at_:∀pre i post,ord=pre++i::post→(N i).el=lstD pre∧(N i).yo=hdD post
theorem setYoN_el (N:Nat→Nd) (p:Nat) (x:Int) (j:Nat):(setYoN N p x j).el=(N j).el:=by unfold setYoN upd;split<;>simp_all
theorem setYoN_yo (N:Nat→Nd) (p:Nat) (x:Int) (j:Nat):(setYoN N p x j).yo=if j=p then x else(N j).yo:=by unfold setYoN upd;split<;>simp_all
theorem setElN_el (N:Nat→Nd) (p:Nat) (x:Int) (j:Nat):(setElN N p x j).el=if j=p then x else(N j).el:=by unfold setElN upd;split<;>simp_all
theorem setElN_yo (N:Nat→Nd) (p:Nat) (x:Int) (j:Nat):(setElN N p x j).yo=(N j).yo:=by unfold setElN upd;split<;>simp_all
def Nd.held (n:Nd):ByteArray×Option Addr×Nat×Nat:=(n.key,n.ro,n.rn,n.rc)
theorem setYoN_held (N:Nat→Nd) (p:Nat) (x:Int) (j:Nat):(setYoN N p x j).held=(N j).held:=by unfold setYoN upd Nd.held;split<;>simp_all
theorem setElN_held (N:Nat→Nd) (p:Nat) (x:Int) (j:Nat):(setElN N p x j).held=(N j).held:=by unfold setElN upd Nd.held;split<;>simp_all
theorem unlN_held (N:Nat→Nd) (i j:Nat):(unlN N i j).held=(N j).held:=by
 unfold unlN unl2 unl1
 split<;>split<;>simp[setYoN_held,setElN_held]
theorem lnkN_held (N:Nat→Nd) (i:Nat) (y:Int) (j:Nat):(lnkN N i y j).held=(N j).held:=by
 unfold lnkN
 split<;>simp[setYoN_held,setElN_held]
theorem unl_el {N:Nat→Nd} {i:Nat} {pre post:List Nat} (he:(N i).el=lstD pre) (hy:(N i).yo=hdD post) (j:Nat):(unlN N i j).el=if(j:Int)=hdD post then lstD pre else(N j).el:=by
 unfold unlN unl2 unl1
 rw[he,hy]
 have hN:∀x:Int,((if lstD pre= -1 then N else setYoN N (lstD pre).toNat x) j).el=(N j).el:=by
  intro x
  by_cases h:lstD pre= -1
  ·rw[if_pos h]
  ·rw[if_neg h,setYoN_el]
 cases post with
 | nil=>
  rw[if_pos (show hdD []= -1 from rfl),if_neg (show¬(j:Int)=hdD [] from by simp[hdD])]
  exact hN _
 | cons q r=>
  rw[if_neg (show¬hdD (q::r)= -1 from by show¬(q:Int)= -1;omega),setElN_el]
  have hq:(hdD (q::r)).toNat=q:=rfl
  rw[hq]
  by_cases e:j=q
  ·rw[if_pos e,if_pos (show(j:Int)=hdD (q::r) from by rw[e];rfl)]
  ·rw[if_neg e,if_neg (show¬(j:Int)=hdD (q::r) from fun h=>e (Int.ofNat.inj h))]
   exact hN _
theorem unl_yo {N:Nat→Nd} {i:Nat} {pre post:List Nat} (he:(N i).el=lstD pre) (hy:(N i).yo=hdD post) (j:Nat):(unlN N i j).yo=if(j:Int)=lstD pre then hdD post else(N j).yo:=by
 unfold unlN unl2 unl1
 rw[he,hy]
 have key:((if lstD pre= -1 then N else setYoN N (lstD pre).toNat (hdD post)) j).yo=if(j:Int)=lstD pre then hdD post else(N j).yo:=by
  rcases nil_or_snoc pre with rfl | ⟨pre',p,rfl⟩
  ·rw[if_pos (show lstD []= -1 from rfl),if_neg (show¬(j:Int)=lstD [] from by rw[lstD_nil];omega)]
  ·rw[lstD_snoc,if_neg (by omega),setYoN_yo,Int.toNat_natCast]
   by_cases e:j=p
   ·rw[if_pos e,if_pos (by rw[e])]
   ·rw[if_neg e,if_neg (by omega)]
 by_cases h:hdD post= -1
 ·rw[if_pos h,key]
 ·rw[if_neg h,setElN_yo,key]
theorem app_split {α:Type} {pre' post' pre post:List α} {j:α} (h:pre++post=pre'++j::post'):
  (∃a,pre=pre'++j::a∧post'=a++post)∨(∃c,pre'=pre++c∧post=c++j::post'):=by
 rcases List.append_eq_append_iff.1 h with⟨a,h1,h2⟩ | ⟨a,h1,h2⟩
 ·exact .inr ⟨a,h1,h2⟩
 ·cases a with
  | nil=>
   simp at h1 h2
   exact .inr ⟨[],by simp[h1],by simp[h2]⟩
  | cons b a=>
   simp at h2
   obtain⟨rfl,h2⟩:=h2
   exact .inl ⟨a,h1,h2⟩
theorem Chain.unlink {pre post:List Nat} {i:Nat} {N:Nat→Nd} {e y:Int} (h:Chain (pre++i::post) N e y):
  Chain (pre++post) (unlN N i) (if(N i).el= -1 then(N i).yo else e) (if(N i).yo= -1 then(N i).el else y):=by
 obtain⟨he,hy⟩:=h.at_ pre i post rfl
 have hnd:=h.nd
 have hnd2:(pre++post).Nodup:=by
  have:(pre++post).Sublist (pre++i::post):=(List.Sublist.refl _).append (List.sublist_cons_self _ _)
  exact hnd.sublist this
 have hdis:∀x∈pre,x∉post:=by
  intro x hx hx2
  exact(List.nodup_append.1 hnd2).2.2 x hx x hx2 rfl
 refine⟨hnd2,?_,?_,?_⟩
 ·rw[he,hy,h.e_]
  rcases nil_or_snoc pre with rfl | ⟨pre',p,rfl⟩
  ·simp[lstD_nil]
  ·rw[lstD_snoc,if_neg (by omega)]
   cases pre'<;>simp[hdD]
 ·rw[he,hy,h.y_]
  cases post with
  | nil=>simp[hdD]
  | cons q r=>
   rw[if_neg (show¬hdD (q::r)= -1 from by show¬(q:Int)= -1;omega),lstD_app,lstD_app]
   show lstD ([i]++q::r)=_
   rw[lstD_app]
 ·intro pre' j post' hs
  rw[unl_el he hy,unl_yo he hy]
  rcases app_split hs with⟨a,rfl,rfl⟩ | ⟨c,rfl,rfl⟩
  ·have ho:=h.at_ pre' j (a++i::post) (by simp)
   have hj:j∉post:=hdis j (by simp)
   have h1:¬(j:Int)=hdD post:=by
    cases post with
    | nil=>simp[hdD]
    | cons q r=>
     simp only[hdD,Int.natCast_inj]
     intro e
     exact hj (by simp[e])
   rw[if_neg h1]
   refine⟨ho.1,?_⟩
   cases a with
   | nil=>
    rw[lstD_snoc,if_pos rfl]
    simp
   | cons b a=>
    have h2:¬(j:Int)=lstD (pre'++j::b::a):=by
     rw[lstD_app]
     show¬(j:Int)=lstD ([j]++b::a)
     rw[lstD_app]
     intro e
     have hja:j∉b::a:=by
      have h3:(pre'++j::b::a).Nodup:=(List.nodup_append.1 hnd2).1
      have h4:=(List.nodup_append.1 h3).2.1
      exact(List.nodup_cons.1 h4).1
     rcases nil_or_snoc (b::a)with h5 | ⟨l',x,h5⟩
     ·simp at h5
     ·rw[h5,lstD_snoc]at e
      have e':j=x:=by omega
      exact hja (by rw[h5,e'];simp)
    rw[if_neg h2,ho.2]
    rfl
  ·have ho:=h.at_ (pre++i::c) j post' (by simp)
   have hj:j∉pre:=fun hx=>hdis j hx (by simp)
   have h1:¬(j:Int)=lstD pre:=by
    rcases nil_or_snoc pre with rfl | ⟨l',x,rfl⟩
    ·rw[lstD_nil];omega
    ·rw[lstD_snoc]
     intro e
     exact hj (by simp;omega)
   rw[if_neg h1]
   refine⟨?_,ho.2⟩
   cases c with
   | nil=>simp[hdD]
   | cons b c=>
    have h2:¬(j:Int)=hdD ((b::c)++j::post'):=by
     rw[hdD_app]
     intro e
     have e':j=b:=by omega
     have h3:=(List.nodup_append.1 hnd2).2.1
     subst e'
     exact(List.nodup_cons.1 h3).1 (by simp)
    rw[if_neg h2,ho.1,lstD_app,lstD_app]
    show lstD ([i]++b::c)=_
    rw[lstD_app]
theorem Chain.link {ord:List Nat} {i:Nat} {N:Nat→Nd} {e y:Int} (h:Chain ord N e y) (hi:i∉ord):Chain (ord++ [i]) (lnkN N i y) (if y= -1 then(i:Int)else e) i:=by
 have hy:=h.y_
 have hnd:(ord++ [i]).Nodup:=by
  rw[List.nodup_append]
  exact⟨h.nd,by simp,fun a ha b hb=>by simp at hb;subst hb;exact fun e=>hi (e▸ha)⟩
 have hyi:¬(i:Int)=y:=by
  rw[hy]
  rcases nil_or_snoc ord with rfl | ⟨l',x,rfl⟩
  ·rw[lstD_nil];omega
  ·rw[lstD_snoc]
   intro e
   exact hi (by simp;omega)
 have el:∀j,(lnkN N i y j).el=if j=i then y else(N j).el:=by
  intro j
  unfold lnkN
  split<;>simp[setYoN_el,setElN_el]
 have yo:∀j,(lnkN N i y j).yo=if(j:Int)=y then(i:Int)else if j=i then -1 else(N j).yo:=by
  intro j
  unfold lnkN
  by_cases h1:y= -1
  ·have:¬(j:Int)= -1:=by omega
   rw[if_pos h1,setYoN_yo,setElN_yo,h1,if_neg this]
  ·rw[if_neg h1,setYoN_yo,setYoN_yo,setElN_yo]
   have h2:(j=y.toNat)↔((j:Int)=y):=by
    rw[hy]at h1 ⊢
    rcases nil_or_snoc ord with rfl | ⟨l',x,rfl⟩
    ·exact absurd lstD_nil h1
    ·rw[lstD_snoc];omega
   simp only[h2]
 refine⟨hnd,?_,by rw[lstD_snoc],?_⟩
 ·rw[h.e_,hy]
  rcases nil_or_snoc ord with rfl | ⟨l',x,rfl⟩
  ·simp[lstD_nil,hdD]
  ·rw[lstD_snoc,if_neg (by omega)]
   cases l'<;>simp[hdD]
 ·intro pre j post hs
  rw[el,yo]
  rcases app_split hs with⟨a,rfl,rfl⟩ | ⟨c,rfl,hc⟩
  ·have hj:¬j=i:=fun e=>hi (by simp[e])
   have ho:=h.at_ pre j a rfl
   rw[if_neg hj,if_neg hj]
   refine⟨ho.1,?_⟩
   cases a with
   | nil=>
    have:(j:Int)=y:=by rw[hy,lstD_snoc]
    rw[if_pos this]
    rfl
   | cons b a=>
    have:¬(j:Int)=y:=by
     rw[hy,lstD_app]
     show¬(j:Int)=lstD ([j]++b::a)
     rw[lstD_app]
     intro e
     have h3:=(List.nodup_append.1 h.nd).2.1
     have hja:=(List.nodup_cons.1 h3).1
     rcases nil_or_snoc (b::a)with h5 | ⟨l',x,h5⟩
     ·simp at h5
     ·rw[h5,lstD_snoc]at e
      have e':j=x:=by omega
      exact hja (by rw[h5,e'];simp)
    rw[if_neg this,ho.2]
    rfl
  ·cases c with
   | nil=>
    simp at hc
    obtain⟨rfl,rfl⟩:=hc
    rw[if_neg hyi,if_pos rfl,if_pos rfl,hy]
    simp[hdD]
   | cons b c=>
    simp at hc
open Go.RowKit Go.Maps Go.ChangeMaps Go.WideMaps
set_option linter.unusedSimpArgs false
theorem lawS:Keyed Tryz.prog 9:=string_keyed Tryz.underlying9
theorem zeroSI (w:World):(zeroValue 3).run Tryz.prog w= .ok (.int .i64 0) w:=by kernel_rfl
def keyL (s:ByteArray):Lit:= .string s.data.toList
theorem keyL_inj {s t:ByteArray} (h:keyL s=keyL t):s=t:=by
 simp only[keyL,Lit.string.injEq]at h
 have h2:s.data=t.data:=Array.toList_inj.1 h
 cases s;cases t;simp_all
def MapSI (w:World) (mb sz:Nat) (f:ByteArray→Option Int):Prop:=
 ∃D:DataW Unit,w.ownsMap Tryz.prog 9 (plainElem Tryz.prog 3) mb sz D∧Tidy D∧size D=sz∧
  ∀s,has D (keyL s)=(f s).isSome∧∀c,f s=some c→D.atKey (keyL s) (.lit (.int .i64 0))= .lit (.int .i64 c)
theorem MapSI.lt {w:World} {mb sz:Nat} {f:ByteArray→Option Int} (h:MapSI w mb sz f):mb<w.heap.size:=let ⟨_,h1,_⟩:=h;h1.lt
theorem MapSI.stay {w w':World} {mb sz:Nat} {f:ByteArray→Option Int} (h:MapSI w mb sz f) (hb:w'.heap[mb]?=w.heap[mb]?):MapSI w' mb sz f:=by
 obtain⟨D,⟨es,clock,h1,h2⟩,r⟩:=h
 exact⟨D,⟨es,clock,hb.trans h1,h2⟩,r⟩
theorem ownsMap_size {w:World} {b n:Nat} {D:DataW Unit} (h:w.ownsMap Tryz.prog 9 (plainElem Tryz.prog 3) b n D):w.ownsMap Tryz.prog 9 (plainElem Tryz.prog 3) b (size D) D:=by
 obtain⟨es,clock,hb,F,hn,rfl⟩:=h
 refine⟨es,clock,hb,F,?_,rfl⟩
 rw[size_eq,length_sorted]
 simp
theorem MapSI.new (w:World):MapSI (w.alloc (.map #[] 0)) w.heap.size 0 (fun _=>none):=
 ⟨.map [],World.ownsMap_made _ _ _ _,tidy_empty,rfl,fun s=>⟨rfl,fun c h=>by cases h⟩⟩
theorem MapSI.congr {w:World} {mb sz sz':Nat} {f g:ByteArray→Option Int} (h:MapSI w mb sz f) (hs:sz=sz') (hf:∀s,f s=g s):MapSI w mb sz' g:=by
 subst hs
 have:f=g:=funext hf
 subst this
 exact h
section
variable {w:World} {ops:Array Oper} {rest:List Oper} {o:Oper} {a:Act} {Q:Exit→Act→World→Prop}
theorem wpList_si_ok (hg:o.guard=none) (m x:Operand) (hop:o.op=Op.lookup 131 m x true) {mb sz:Nat} {f:ByteArray→Option Int} (hm:a.eval m= .map (some mb)) (h:MapSI w mb sz f)
  {s:ByteArray} (hx:a.eval x= .string s) (hs:s.size≤maxLen)
  (hK:wpList Tryz.prog ops Q rest (a.put o.dst (.tuple #[.int .i64 ((f s).getD 0), .bool (f s).isSome])) w):wpList Tryz.prog ops Q (o::rest) a w:=by
 obtain⟨D,h1,h2,h3,h4⟩:=h
 refine wpList_lookup_own_ok_int w hg m x 131 hop 9 3 .i64 lawS Tryz.underlying131 Tryz.underlying3 (zeroSI w) mb sz D hm h1 _ (keyL s) hx (keyOf_string_mk Tryz.underlying9 hs) ?_
 intro c hat _
 have hh:=h4 s
 rw[hh.1]
 have hc:c=(f s).getD 0:=by
  cases hf:f s with
  | none=>
   rw[hf]at hh
   rw[atKey_of_not_has (by simpa using hh.1)]at hat
   simpa using hat.symm
  | some c'=>
   have:=hh.2 c' hf
   rw[this]at hat
   simpa using hat.symm
 rw[hc]
 exact hK
theorem wpList_si_put (hg:o.guard=none) (m x v:Operand) (hop:o.op=Op.mapUpdate 131 m x v) {mb sz:Nat} {f:ByteArray→Option Int} (hm:a.eval m= .map (some mb)) (h:MapSI w mb sz f)
  {s:ByteArray} (hx:a.eval x= .string s) (hs:s.size≤maxLen) {c:Int} (hv:a.eval v= .int .i64 c) (hc:(Lit.int .i64 c).wf=true) (hn:sz<maxLen)
  (hK:∀w',MapSI w' mb (if(f s).isSome then sz else sz+1) (fun t=>if t=s then some c else f t)→w.grownBy w' (some mb)→wpList Tryz.prog ops Q rest (a.put o.dst undef) w'):wpList Tryz.prog ops Q (o::rest) a w:=by
 obtain⟨D,h1,h2,h3,h4⟩:=h
 refine wpList_mapUpdate_own w hg m x v 131 hop 9 3 lawS Tryz.underlying131 _ mb sz D hm h1 hn _ _ (keyL s) hx hv (keyOf_string_mk Tryz.underlying9 hs) _ [] (plainElem_int Tryz.underlying3 hc) ?_
 intro w' hown hgrow
 have e:size (D.put (keyL s) (.lit (.int .i64 c)))=if(f s).isSome then sz else sz+1:=by
  rw[size_put h2,(h4 s).1,h3]
 refine hK w' ⟨D.put (keyL s) (.lit (.int .i64 c)),?_,h2.put (by trivial) _,e,fun t=> ?_⟩ hgrow
 ·have:=ownsMap_size hown
  rw[e]at this
  exact this
 ·by_cases e:t=s
  ·subst e
   simp only[if_true,Option.isSome_some,Option.some.injEq]
   refine⟨has_put_same h2.isMap (by trivial) _,fun c' hc'=> ?_⟩
   subst hc'
   exact atKey_put_same h2.isMap (by trivial) _ _
  ·have hne:keyL t≠keyL s:=fun h=>e (keyL_inj h)
   simp only[e,if_false]
   rw[has_put_other hne]
   exact⟨(h4 t).1,fun c' hc'=>by rw[atKey_put_other hne];exact(h4 t).2 c' hc'⟩
theorem wpList_si_del (hg:o.guard=none) (m x:Operand) (hop:o.op=Op.call {callee:=Callee.builtin Builtin.delete,args:=#[m,x],argTypes:=#[131,9]}) {mb sz:Nat} {f:ByteArray→Option Int} (hm:a.eval m= .map (some mb)) (h:MapSI w mb sz f)
  {s:ByteArray} (hx:a.eval x= .string s) (hs:s.size≤maxLen)
  (hK:∀w',MapSI w' mb (if(f s).isSome then sz-1 else sz) (fun t=>if t=s then none else f t)→w.mapTurned w' mb→wpList Tryz.prog ops Q rest (a.put o.dst (.tuple #[])) w'):wpList Tryz.prog ops Q (o::rest) a w:=by
 obtain⟨D,h1,h2,h3,h4⟩:=h
 refine wpList_delete_own w hg m x 131 9 hop 3 lawS Tryz.underlying131 _ mb sz D hm h1 _ (keyL s) hx (keyOf_string_mk Tryz.underlying9 hs) ?_
 intro w' hown hturn
 have e:size (D.del (keyL s))=if(f s).isSome then sz-1 else sz:=by
  have:=size_del (k:=keyL s) h2
  rw[(h4 s).1,h3]at this
  split at this<;>simp_all<;>omega
 refine hK w' ⟨D.del (keyL s),?_,h2.del _,e,fun t=> ?_⟩ hturn
 ·have:=ownsMap_size hown
  rw[e]at this
  exact this
 ·by_cases e:t=s
  ·subst e
   simp only[if_true,Option.isSome_none]
   exact⟨has_del_same,fun c' hc'=>by cases hc'⟩
  ·have hne:keyL t≠keyL s:=fun h=>e (keyL_inj h)
   simp only[e,if_false]
   rw[has_del_other hne]
   exact⟨(h4 t).1,fun c' hc'=>by rw[atKey_del_other hne];exact(h4 t).2 c' hc'⟩
end
theorem MapSI.run_len {w:World} {mb sz:Nat} {f:ByteArray→Option Int} (h:MapSI w mb sz f) (ty:TypeId):(Builtin.len_ #[131] ty #[.map (some mb)]).run Tryz.prog w= .ok (.int .i64 sz) w:=by
 obtain⟨D,h1,h2,h3,h4⟩:=h
 have:=h1.len Tryz.underlying131 ty
 rw[h3]at this
 exact this
theorem ret_bool {a b:Bool} (h:a=b):Ending.returned (.bool a)= .returned (.bool b):=by rw[h]
theorem ret_i64 {a b:Int} (h:a=b):Ending.returned (.int .i64 a)= .returned (.int .i64 b):=by rw[h]
theorem bytes_of {s t:ByteArray} (h:s.toList=t.toList):s=t:=by
 rw[ByteArray.toList_eq,ByteArray.toList_eq]at h
 have:=Array.toList_inj.1 h
 cases s;cases t;simp_all
theorem beqS_yes {s t:ByteArray} (h:s=t):(s.toList==t.toList)=true:=by rw[h];simp
theorem beqS_no {s t:ByteArray} (h:s≠t):(s.toList==t.toList)=false:=beq_eq_false_iff_ne.2 fun e=>h (bytes_of e)
theorem bneS_yes {s t:ByteArray} (h:s=t):(s.toList != t.toList)=false:=by rw[h];simp
theorem bneS_no {s t:ByteArray} (h:s≠t):(s.toList != t.toList)=true:=by rw[bne_iff_ne];exact fun e=>h (bytes_of e)
theorem strE_yes {s:ByteArray} (h:s.size=0):s.toList= []∧s.toList.isEmpty=true∧(s.toList== [])=true:=by
 have e:s.toList= []:=by rw[ByteArray.toList_eq];exact List.eq_nil_of_length_eq_zero (by simpa using h)
 rw[e];simp
theorem strE_no {s:ByteArray} (h:s.size≠0):s.toList≠[]∧s.toList.isEmpty=false∧(s.toList== [])=false:=by
 have e:s.toList≠[]:=fun e=>h (by
  rw[ByteArray.toList_eq]at e
  have:=congrArg List.length e
  simpa using this)
 refine⟨e,?_,?_⟩
 ·cases h':s.toList with
  | nil=>exact absurd h' e
  | cons _ _=>rfl
 ·exact beq_eq_false_iff_ne.2 e
abbrev SlS (w:World) (ao:Option Addr) (n c:Nat) (T:List ByteArray):Prop:=Sl w ao n c (T.map .string)
theorem SlS.count {w:World} {ao:Option Addr} {n c:Nat} {T:List ByteArray} (h:SlS w ao n c T):T.length=n:=by
 have:=Sl.len h
 simpa using this
theorem SlS.cell {w:World} {ao:Option Addr} {n c:Nat} {T:List ByteArray} (h:SlS w ao n c T) {k:Nat} {s:ByteArray} (hk:T[k]?=some s):∃b o,ao=some ⟨b,o,none⟩∧w.cell? ⟨b,o+k,none⟩=some (.string s):=
 Sl.at_ h k _ (by rw[List.getElem?_map,hk];rfl)
theorem eq_of_ix {A B:List Int} (hl:A.length=B.length) (h:∀i,i<A.length→ix A i=ix B i):A=B:=by
 apply List.ext_getElem?
 intro i
 by_cases hi:i<A.length
 ·rw[ix_eq hi,ix_eq (by omega),h i hi]
 ·rw[List.getElem?_eq_none (by omega),List.getElem?_eq_none (by omega)]
def eqB (A B:List Int):Bool:=A==B
theorem eqB_true {A B:List Int} (h:A=B):eqB A B=true:=by subst h;simp[eqB]
theorem eqB_false {A B:List Int} (h:A≠B):eqB A B=false:=by simp[eqB,h]
theorem same10 {A B:List Int} {ao bo:Option Addr} {n m c d:Nat} (w:World) (hA:SlI w ao n c A) (hB:SlI w bo m d B):
  Calls Tryz.prog 20 #[.slice ao n c, .slice bo m d] w fun e w'=>∃k,e= .returned (.bool (eqB A B))∧w'=w.drewN k:=by
 have hmA:=Nat.le_trans hA.le hA.max
 have hmB:=Nat.le_trans hB.le hB.max
 have hlA:=Lib.hid hA.len
 have hlB:=Lib.hid hB.len
 unfold maxLen at hmA hmB
 by_cases hl:n=m
 ·have ht:(((n:Nat):Int) != (m:Nat))=false:=by rw[hl];simp
  have hl2:=Lib.hid hl
  clear hl
  go_enter Tryz.func20,Tryz.ntmps20
  go_wp2
  go_loopw [5,13] (fun _ i wr=>∃k j:Nat,k≤n∧i= .int .i64 k∧(Hid (∀i,i<k→ix A i=ix B i))∧wr=w.drewN j) (fun _ i _=>n-(intOf i).toNat)
  case atStart=>exact⟨0,0,Nat.zero_le _,rfl,(fun i h=>by omega),rfl⟩
  case round=>
   obtain⟨k,j,hk,rfl,htk,rfl⟩:=hrel
   by_cases hlt:k<n
   ·have hlt2:k<m:=by have:=hl2.out;omega
    obtain⟨b1,o1,rfl,c1⟩:=hA.at_ hlt
    obtain⟨b2,o2,rfl,c2⟩:=hB.at_ hlt2
    by_cases he:ix A k=ix B k
    ·have he3:(ix A k != ix B k)=false:=by simpa using he
     have he2:=Lib.hid he
     clear he
     go_wp2
     go_quiet (fail)
     go_wp2
     go_roundw
     case rel=>exact⟨k+1,_,by omega,by go_num,(fun i h=>by by_cases e:i=k;(subst e;exact he2.out);exact htk.out i (by omega)),rfl⟩
     case measure=>simp[intOf];omega
    ·have he3:(ix A k != ix B k)=true:=by simpa using he
     have he2:=Lib.hid he
     clear he
     go_wp2
     go_quiet (fail)
     go_wp2
     go_ret
     refine⟨_,ret_bool (eqB_false ?_).symm,World.drewN_drewN ..⟩
     intro h
     exact he2.out (by rw[h])
   ·go_wp2
    go_ret
    obtain rfl:k=n:=by omega
    exact⟨_,ret_bool (eqB_true (eq_of_ix (by rw[hlA.out,hlB.out,hl2.out]) (by rw[hlA.out];exact htk.out))).symm,rfl⟩
 ·have ht:(((n:Nat):Int) != (m:Nat))=true:=by simp;omega
  have hl2:=Lib.hid hl
  clear hl
  go_enter Tryz.func20,Tryz.ntmps20
  go_wp2
  go_ret
  refine⟨0,ret_bool (eqB_false ?_).symm,rfl⟩
  intro h
  have:=hlA.out
  have:=hlB.out
  have:=hl2.out
  subst h
  omega
theorem infoInt:(Tryz.prog.info? 3).map (fun i=>(i.zero,i.size,i.bytes))=some (some (.int .i64 0),1,8):=by kernel_rfl
theorem own_made0 (w:World):Own (w.alloc (.cells #[] 3)) w.heap.size (.slice (some ⟨w.heap.size,0,none⟩) 0 0) []:=
 World.ownsRow_made w #[] 0 (Nat.le_refl _) (by unfold maxLen;omega) rfl
theorem clone_nil (c:Nat) (w:World):
  Calls Tryz.prog 70 #[.slice none 0 c] w fun e w'=>∃v,e= .returned v∧Own w' w.heap.size v []∧Below w.heap.size w w':=by
 have hsn:=fun w=>Lib.run_eql_slice_nil (P:=Tryz.prog) w 43 3 none 0 c 0 0 Tryz.underlying43
 go_enter Tryz.func70,Tryz.ntmps70
 go_wp2
 go_ret
 exact⟨_,rfl,Own.nil _ _,Below.refl _ _⟩
theorem clone_some {A:List Int} {ad:Addr} {n c:Nat} (w:World) (hA:SlI w (some ad) n c A) (hreach:n*8≤140737488355328):
  Calls Tryz.prog 70 #[.slice (some ad) n c] w fun e w'=>∃v,e= .returned v∧Own w' w.heap.size v A∧Below w.heap.size w w':=by
 have hmA:=Nat.le_trans hA.le hA.max
 have hlA:=Lib.hid hA.len
 unfold maxLen at hmA
 obtain⟨i0,hi,hz0,hz1,hz2⟩:=info_parts infoInt
 have hsn:=fun w=>Lib.run_eql_slice_nil (P:=Tryz.prog) w 43 3 (some ad) n c 0 0 Tryz.underlying43
 have hown:=own_made0 w
 have hA2:=hA.alloc (.cells #[] 3)
 go_enter Tryz.func70,Tryz.ntmps70
 go_wp2_with (at_builtin;refine wpList_app rfl _ _ 43 rfl w.heap.size 3 i0 (.int .i64 0) 8 Tryz.underlying43 hi hz0 hz1 hz2 rfl _ 0 [] rfl hown (some ad) n c _ rfl hA2 (int_one A) (by unfold maxLen;omega) (by omega) (by simp) ?_)
 intro v' w' ho hg _
 go_wp2
 go_ret
 refine⟨_,rfl,?_,(below_alloc w _).grown hg (by simp) (by simp[Value.ownBlock])⟩
 unfold Own
 rw[hlA.out]
 simpa using ho
theorem clone_calls' {A:List Int} {ao:Option Addr} {n c:Nat} (w:World) (hA:SlI w ao n c A) (hreach:n*8≤140737488355328):
  Calls Tryz.prog 70 #[.slice ao n c] w fun e w'=>∃v,e= .returned v∧Own w' w.heap.size v A∧Below w.heap.size w w':=by
 cases ao with
 | some ad=>exact clone_some w hA hreach
 | none=>
  have hc:=Sl.nil hA rfl
  have hn:n=0:=by have:=Sl.le hA;omega
  subst hn
  have:A= []:=List.eq_nil_of_length_eq_zero hA.len
  subst this
  exact clone_nil c w
theorem clone_calls {A:List Int} {ao:Option Addr} {n c:Nat} (w:World) (hA:SlI w ao n c A) (hreach:n*8≤140737488355328):
  Calls Tryz.prog 70 #[.slice ao n c] w fun e w'=>∃vo vc,e= .returned (.slice vo n vc)∧Own w' w.heap.size (.slice vo n vc) A∧Below w.heap.size w w':=by
 have key:Calls Tryz.prog 70 #[.slice ao n c] w fun e w'=>∃v,e= .returned v∧Own w' w.heap.size v A∧Below w.heap.size w w':=clone_calls' w hA hreach
 refine key.mono fun e w' ⟨v,he,ho,hb⟩=> ?_
 obtain⟨vo,vc,rfl,_⟩:=ho.sl
 have:=hA.len
 subst this
 exact⟨vo,vc,he,ho,hb⟩
def Ft (cb mb:Nat) (no:Option Addr) (k:Nat):Prop:=k=cb∨k=mb∨no=some ⟨k,0,none⟩
def NdsO (w:World) (base top cb mb:Nat) (no:Option Addr) (m cap:Nat) (N:Nat→Nd):Prop:=
 (no=none∧m=0∧cap=0)∨∃nb,no=some ⟨nb,0,none⟩∧Nds w nb m cap N∧cb≠nb∧mb≠nb∧base≤nb∧nb<top
def RowOK (w:World) (base top cb mb:Nat) (no:Option Addr) (n:Nd) (A:List Int):Prop:=
 SlI w n.ro n.rn n.rc A∧∀ad,n.ro=some ad→base≤ad.block∧ad.block<top∧¬Ft cb mb no ad.block
structure CSt (w:World) (base top cb mb:Nat) (no:Option Addr) (m cap:Nat) (N:Nat→Nd) (e y room hits misses:Int) (ord:List Nat) (sz:Nat) (f:ByteArray→Option Int) (R:Nat→List Int):Prop where
 fl:Flds w cb (.slice no m cap) mb e y room hits misses
 nd:NdsO w base top cb mb no m cap N
 mp:MapSI w mb sz f
 ch:Chain ord N e y
 lt:∀i∈ord,i<m
 cm:cb≠mb
 bc:base≤cb∧cb<top
 bm:base≤mb∧mb<top
 rows:∀i,i<m→RowOK w base top cb mb no (N i) (R i)
 keys:∀i,i<m→(N i).key.size≤maxLen
theorem SlI.keep {w w':World} {ao:Option Addr} {n cap:Nat} {A:List Int} (h:SlI w ao n cap A) (hb:∀ad,ao=some ad→w'.heap[ad.block]?=w.heap[ad.block]?):SlI w' ao n cap A:=
 ⟨Sl.len h,Sl.le h,Sl.max h,Sl.nil h,fun i u hu=>let ⟨b,o,e,c⟩:=Sl.at_ h i u hu;⟨b,o,e,by rw[World.cell?_of_block (w:=w) (a:=⟨b,o+i,none⟩) (hb ⟨b,o,none⟩ e)];exact c⟩⟩
section
variable {w:World} {base top cb mb m cap sz:Nat} {no:Option Addr} {N:Nat→Nd} {e y room hits misses:Int} {ord:List Nat} {f:ByteArray→Option Int} {R:Nat→List Int}
theorem CSt.below {w':World} (h:CSt w base top cb mb no m cap N e y room hits misses ord sz f R) (hb:Below top w w'):CSt w' base top cb mb no m cap N e y room hits misses ord sz f R:=by
 refine⟨h.fl.stay (hb.block _ h.bc.2),?_,h.mp.stay (hb.block _ h.bm.2),h.ch,h.lt,h.cm,h.bc,h.bm,fun i hi=> ?_,h.keys⟩
 ·rcases h.nd with h' | ⟨nb,h1,h2,h3,h4,h5,h6⟩
  ·exact .inl h'
  ·exact .inr ⟨nb,h1,h2.stay (hb.block _ h6),h3,h4,h5,h6⟩
 ·obtain⟨h1,h2⟩:=h.rows i hi
  exact⟨h1.keep fun ad e=>hb.block _ (h2 ad e).2.1,h2⟩
theorem CSt.up {top':Nat} (h:CSt w base top cb mb no m cap N e y room hits misses ord sz f R) (ht:top≤top'):CSt w base top' cb mb no m cap N e y room hits misses ord sz f R:=by
 refine⟨h.fl,?_,h.mp,h.ch,h.lt,h.cm,⟨h.bc.1,by have:=h.bc.2;omega⟩,⟨h.bm.1,by have:=h.bm.2;omega⟩,fun i hi=> ?_,h.keys⟩
 ·rcases h.nd with h' | ⟨nb,h1,h2,h3,h4,h5,h6⟩
  ·exact .inl h'
  ·exact .inr ⟨nb,h1,h2,h3,h4,h5,by omega⟩
 ·obtain⟨h1,h2⟩:=h.rows i hi
  exact⟨h1,fun ad e=>⟨(h2 ad e).1,by have:=(h2 ad e).2.1;omega,(h2 ad e).2.2⟩⟩
theorem CSt.cmem (h:CSt w base top cb mb no m cap N e y room hits misses ord sz f R) (hm:0<m):∃nb,no=some ⟨nb,0,none⟩∧CMem w cb nb mb m cap N e y room hits misses∧mb≠nb∧base≤nb∧nb<top:=by
 rcases h.nd with⟨_,h',_⟩ | ⟨nb,h1,h2,h3,h4,h5,h6⟩
 ·omega
 ·exact⟨nb,h1,⟨by rw[←h1];exact h.fl,h2,h3⟩,h4,h5,h6⟩
theorem CSt.relink {w':World} {nb:Nat} {N':Nat→Nd} {e' y':Int} {ord':List Nat} (h:CSt w base top cb mb (some ⟨nb,0,none⟩) m cap N e y room hits misses ord sz f R) (htop:top≤w.heap.size) (hmn:mb≠nb) (hbn:base≤nb∧nb<top)
  (hc:CMem w' cb nb mb m cap N' e' y' room hits misses) (hk:Keeps (Two cb nb) w w') (hN:∀i,(N' i).held=(N i).held) (hch:Chain ord' N' e' y') (hlt:∀i∈ord',i<m):
  CSt w' base top cb mb (some ⟨nb,0,none⟩) m cap N' e' y' room hits misses ord' sz f R:=by
 have hb:∀k,k<top→k≠cb→k≠nb→w'.heap[k]?=w.heap[k]? :=fun k hk1 h1 h2=>hk.block k (by omega) (fun h=>by rcases h with h | h<;>omega)
 have e1:∀i,(N' i).ro=(N i).ro∧(N' i).rn=(N i).rn∧(N' i).rc=(N i).rc∧(N' i).key=(N i).key:=by
  intro i
  have:=hN i
  simp only[Nd.held,Prod.mk.injEq]at this
  exact⟨this.2.1,this.2.2.1,this.2.2.2,this.1⟩
 refine⟨hc.f, .inr ⟨nb,rfl,hc.n,hc.ne,hmn,hbn.1,hbn.2⟩,h.mp.stay (hb mb h.bm.2 (fun e=>h.cm e.symm) hmn),hch,hlt,h.cm,h.bc,h.bm,fun i hi=> ?_,fun i hi=> ?_⟩
 ·obtain⟨h1,h2⟩:=h.rows i hi
  obtain⟨a1,a2,a3,a4⟩:=e1 i
  refine⟨?_,?_⟩
  ·rw[a1,a2,a3]
   exact h1.keep fun ad e=>hb _ (h2 ad e).2.1 (fun e'=>(h2 ad e).2.2 (.inl e')) (fun e'=>(h2 ad e).2.2 (.inr (.inr (by rw[e']))))
  ·rw[a1];exact h2
 ·rw[(e1 i).2.2.2];exact h.keys i hi
end
def noNd:Nd:=⟨ByteArray.empty,none,0,0,0,0⟩
theorem new_no (room:Int) (h:room<0∨1048576<room) (w:World):
  Calls Tryz.prog 49 #[.int .i64 room] w fun en w'=>en= .returned (.pointer none)∧Below w.heap.size w w':=by
 by_cases h0:room<0
 ·go_enter Tryz.func49,Tryz.ntmps49
  go_wp2
  go_ret
  exact⟨rfl,Below.refl _ _⟩
 ·have h1:1048576<room:=by omega
  go_enter Tryz.func49,Tryz.ntmps49
  go_wp2
  go_ret
  exact⟨rfl,Below.refl _ _⟩
theorem new_yes (room:Int) (h0:0≤room) (h1:room≤1048576) (w:World) (R:Nat→List Int):
  Calls Tryz.prog 49 #[.int .i64 room] w fun en w'=>∃cb mb,en= .returned (.pointer (some ⟨cb,0,none⟩))∧
   CSt w' w.heap.size w'.heap.size cb mb none 0 0 (fun _=>noNd) (-1) (-1) room 0 0 [] 0 (fun _=>none) R∧Below w.heap.size w w':=by
 have hmm:=@run_makeMap Tryz.prog
 go_enter Tryz.func49,Tryz.ntmps49
 go_wp2
 go_ret
 refine⟨w.heap.size+1,w.heap.size,rfl,?_,(below_alloc w _).alloc (below_alloc w _).size _⟩
 refine⟨⟨by simp[go_sem],by simp[go_sem],by simp[go_sem],by simp[go_sem],by simp[go_sem],by simp[go_sem],by simp[go_sem],fun o=>by simp[go_sem]⟩, .inl ⟨rfl,rfl,rfl⟩,?_,⟨by simp,rfl,rfl,fun pre i post h=>by simp at h⟩,by simp,by omega,⟨by omega,by simp⟩,⟨by omega,by simp;omega⟩,fun i hi=>by omega,fun i hi=>by omega⟩
 exact(MapSI.new w).stay (Below.heap_alloc _ _ _ (by simp))
section
variable {w:World} {base top cb mb m cap sz:Nat} {no:Option Addr} {N:Nat→Nd} {e y room hits misses:Int} {ord:List Nat} {f:ByteArray→Option Int} {R:Nat→List Int}
theorem counts_calls (h:CSt w base top cb mb no m cap N e y room hits misses ord sz f R):
  Calls Tryz.prog 61 #[.pointer (some ⟨cb,0,none⟩)] w fun en w'=>en= .returned (.tuple #[.int .i64 hits, .int .i64 misses])∧Below w.heap.size w w':=by
 have f5:=h.fl.f5
 have f6:=h.fl.f6
 clear h
 go_enter Tryz.func61,Tryz.ntmps61
 go_wp2
 first | go_ret2 | (go_region;all_goals(try go_wp2);all_goals go_ret2)
 all_goals exact⟨rfl,by first | exact Below.refl _ _ | exact(Below.refl _ _).drew⟩
end
def cellsN (N:Nat→Nd):Nat→List Value
 | 0=>[]
 | m+1=>cellsN N m++ndCells (N m)
theorem cellsN_length (N:Nat→Nd) (m:Nat):(cellsN N m).length=m*4:=by
 induction m with
 | zero=>rfl
 | succ m ih=>simp[cellsN,ih,ndCells];omega
theorem cellsN_at (N:Nat→Nd) {m i j:Nat} (hi:i<m) (hj:j<4):(cellsN N m)[i*4+j]?=(ndCells (N i))[j]? :=by
 induction m with
 | zero=>omega
 | succ m ih=>
  unfold cellsN
  by_cases e:i=m
  ·subst e
   rw[List.getElem?_append_right (by rw[cellsN_length];omega),cellsN_length,show i*4+j-i*4=j by omega]
  ·rw[List.getElem?_append_left (by rw[cellsN_length];omega)]
   exact ih (by omega)
theorem cellsN_congr {N N':Nat→Nd} {m:Nat} (h:∀i,i<m→N i=N' i):cellsN N m=cellsN N' m:=by
 induction m with
 | zero=>rfl
 | succ m ih=>unfold cellsN;rw[ih fun i hi=>h i (by omega),h m (by omega)]
theorem cellsN_push (N:Nat→Nd) (m:Nat) (x:Nd):cellsN N m++ndCells x=cellsN (upd N m x) (m+1):=by
 show _=cellsN (upd N m x) m++ndCells (upd N m x m)
 rw[upd_same,cellsN_congr (N:=N) (N':=upd N m x) fun i hi=>by rw[upd_other _ _ _ _ (by omega)]]
theorem NdsO.row {w:World} {base top cb mb m cap:Nat} {no:Option Addr} {N:Nat→Nd} (h:NdsO w base top cb mb no m cap N):w.ownsRow base 208 4 (.slice no m cap) m (cellsN N m):=by
 refine⟨cellsN_length N m,?_⟩
 rcases h with⟨rfl,rfl,rfl⟩ | ⟨nb,rfl,h2,h3,h4,h5,h6⟩
 ·exact .inl ⟨rfl,rfl⟩
 ·obtain⟨cur,hb,hl,hc⟩:=h2.blk
  refine .inr ⟨nb,cap,cur.toArray,rfl,h5,hb,h2.le,h2.max,by simpa using hl,?_⟩
  have hle:=h2.le
  have hcl:=cellsN_length N m
  show cur.take (m*4)=cellsN N m
  apply List.ext_getElem?
  intro k
  by_cases hk:k<m*4
  ·rw[List.getElem?_take,if_pos hk]
   have e:k=k / 4*4+k % 4:=by omega
   rw[e,hc (k / 4) (by omega) (k % 4) (by omega),cellsN_at N (by omega) (by omega)]
  ·rw[List.getElem?_take,if_neg hk,List.getElem?_eq_none (by omega)]
theorem Nds.of_row {w:World} {base g m cap:Nat} {N:Nat→Nd} (h:w.ownsRow base 208 4 (.slice (some ⟨g,0,none⟩) m cap) m (cellsN N m)):Nds w g m cap N∧base≤g:=by
 obtain⟨h1,h2⟩:=h
 rcases h2 with⟨hv,hn⟩ | ⟨g',cap',cur,hv,hg,hh,hn,hm,hs,ht⟩
 ·simp at hv
 ·simp at hv
  obtain⟨rfl,rfl⟩:=hv
  refine⟨⟨hn,hm,cur.toList,by simpa using hh,by simpa using hs,fun i hi j hj=> ?_⟩,hg⟩
  rw[←cellsN_at N hi hj,←ht,List.getElem?_take,if_pos (by omega)]
theorem Keeps.then {S T:Nat→Prop} {a b c:World} (h:Keeps S a b) (k:Keeps T b c) (hst:∀i,i<a.heap.size→T i→S i):Keeps S a c:=
 ⟨k.os.trans h.os,k.tape.trans h.tape,k.output.trans h.output,Nat.le_trans h.size k.size,fun i hi hs=>(k.block i (Nat.lt_of_lt_of_le hi h.size) fun ht=>hs (hst i hi ht)).trans (h.block i hi hs)⟩
theorem Keeps.grown {S:Nat→Prop} {a w w':World} (h:Keeps S a w) {row:Option Nat} (hg:w.grownBy w' row) (hr:∀k,row=some k→k<a.heap.size→S k):Keeps S a w':=
 h.then (T:=fun k=>row=some k) ⟨hg.os,hg.tape,hg.output,hg.size,fun i hi hne=>hg.block i hi fun e=>hne e.symm⟩ fun i hi e=>hr i e hi
theorem infoNode:(Tryz.prog.info? 208).map (fun i=>(i.zero,i.size,i.bytes))=some (some (.agg #[.string ByteArray.empty, .slice none 0 0, .int .i64 0, .int .i64 0]),4,56):=by kernel_rfl
theorem Chain.congr {ord:List Nat} {N N':Nat→Nd} {e y:Int} (h:Chain ord N e y) (hN:∀i∈ord,(N' i).el=(N i).el∧(N' i).yo=(N i).yo):Chain ord N' e y:=
 ⟨h.nd,h.e_,h.y_,fun pre i post hs=>by
  obtain⟨h1,h2⟩:=hN i (by rw[hs];simp)
  rw[h1,h2];exact h.at_ pre i post hs⟩
theorem SlI.none (w:World):SlI w none 0 0 []:=⟨rfl,Nat.le_refl _,by unfold maxLen;omega,fun _=>rfl,fun i u hu=>by simp at hu⟩
theorem NdsO.ne {w:World} {base top cb mb m cap:Nat} {no:Option Addr} {N:Nat→Nd} (h:NdsO w base top cb mb no m cap N):no≠some ⟨cb,0,Option.none⟩∧no≠some ⟨mb,0,Option.none⟩:=by
 rcases h with⟨rfl,_⟩ | ⟨nb,rfl,h2,h3,h4,h5,h6⟩
 ·exact⟨by simp,by simp⟩
 ·exact⟨fun e=>by injection e with e;injection e with e;exact h3 e.symm,fun e=>by injection e with e;injection e with e;exact h4 e.symm⟩
theorem CSt.push {w w':World} {base top cb mb m cap sz g cap':Nat} {no:Option Addr} {N:Nat→Nd} {e y room hits misses:Int} {ord:List Nat} {f:ByteArray→Option Int} {R:Nat→List Int}
  (h:CSt w base top cb mb no m cap N e y room hits misses ord sz f R) (htop:top≤w'.heap.size) (hfl:Flds w' cb (.slice (some ⟨g,0,Option.none⟩) (m+1) cap') mb e y room hits misses) (hn:Nds w' g (m+1) cap' (upd N m noNd))
  (hbg:base≤g) (hglt:g<w'.heap.size) (hat:no=some ⟨g,0,Option.none⟩∨top≤g) (hblk:∀k,k<top→k≠cb→no≠some ⟨k,0,Option.none⟩→w'.heap[k]?=w.heap[k]?):
  CSt w' base w'.heap.size cb mb (some ⟨g,0,Option.none⟩) (m+1) cap' (upd N m noNd) e y room hits misses ord sz f (upd R m []):=by
 obtain⟨n1,n2⟩:=h.nd.ne
 have hb:=h.bc
 have hb2:=h.bm
 have hcg:cb≠g:=by rintro rfl;rcases hat with e | e;exact n1 e;omega
 have hmg:mb≠g:=by rintro rfl;rcases hat with e | e;exact n2 e;omega
 refine⟨hfl, .inr ⟨g,rfl,hn,hcg,hmg,hbg,hglt⟩,h.mp.stay (hblk mb hb2.2 (fun e=>h.cm e.symm) n2),h.ch.congr fun i hi=> ?_,fun i hi=>by have:=h.lt i hi;omega,h.cm,⟨hb.1,by omega⟩,⟨hb2.1,by omega⟩,fun i hi=> ?_,fun i hi=> ?_⟩
 ·rw[upd_other _ _ _ _ (by have:=h.lt i hi;omega)];exact⟨rfl,rfl⟩
 ·by_cases e:i=m
  ·subst e
   rw[upd_same,upd_same]
   exact⟨SlI.none _,fun ad e=>by cases e⟩
  ·rw[upd_other _ _ _ _ e,upd_other _ _ _ _ e]
   obtain⟨h1,h2⟩:=h.rows i (by omega)
   refine⟨h1.keep fun ad e=>hblk _ (h2 ad e).2.1 (fun e'=>(h2 ad e).2.2 (.inl e')) (fun e'=>(h2 ad e).2.2 (.inr (.inr e'))),fun ad e=> ?_⟩
   obtain⟨a1,a2,a3⟩:=h2 ad e
   refine⟨a1,by omega,fun hf=> ?_⟩
   rcases hf with h3 | h3 | h3
   ·exact a3 (.inl h3)
   ·exact a3 (.inr (.inl h3))
   ·simp at h3
    rcases hat with h4 | h4
    ·exact a3 (.inr (.inr (by rw[h4,h3])))
    ·omega
 ·by_cases e:i=m
  ·subst e;rw[upd_same];simp[noNd]
  ·rw[upd_other _ _ _ _ e];exact h.keys i (by omega)
theorem Keeps.turned {S:Nat→Prop} {a w w':World} {mb:Nat} (h:Keeps S a w) (ht:w.mapTurned w' mb) (hs:S mb):Keeps S a w':=by
 obtain⟨es,clock,es',clock',hb,rfl⟩:=ht
 refine h.then (T:=fun k=>k=mb) ⟨rfl,rfl,rfl,by simp[ChangeMaps.setBlock],fun k hk hne=>ChangeMaps.heap_setBlock_other hb _ hne⟩ (fun k _ e=>e▸hs)
theorem CSt.mapped {w w':World} {base top cb mb m cap sz sz':Nat} {no:Option Addr} {N:Nat→Nd} {e y room hits misses:Int} {ord:List Nat} {f f':ByteArray→Option Int} {R:Nat→List Int}
  (h:CSt w base top cb mb no m cap N e y room hits misses ord sz f R) (htop:top≤w.heap.size) (hm:MapSI w' mb sz' f') (hk:∀k,k<w.heap.size→k≠mb→w'.heap[k]?=w.heap[k]?):CSt w' base top cb mb no m cap N e y room hits misses ord sz' f' R:=by
 refine⟨h.fl.stay (hk cb (by have:=h.bc;omega) h.cm),?_,hm,h.ch,h.lt,h.cm,h.bc,h.bm,fun i hi=> ?_,h.keys⟩
 ·rcases h.nd with h' | ⟨nb,h1,h2,h3,h4,h5,h6⟩
  ·exact .inl h'
  ·exact .inr ⟨nb,h1,h2.stay (hk nb (by omega) (fun e=>h4 e.symm)),h3,h4,h5,h6⟩
 ·obtain⟨h1,h2⟩:=h.rows i hi
  exact⟨h1.keep fun ad e=>hk _ (by have:=(h2 ad e).2.1;omega) fun e'=>(h2 ad e).2.2 (.inr (.inl e')),h2⟩
theorem wpList_app_node {w:World} {ops:Array Oper} {rest:List Oper} {o:Oper} {a:Act} {Q:Exit→Act→World→Prop} (hgd:o.guard=none) (s x:Operand)
  (ho:o.op= .call {callee:= .builtin .append,args:=#[s,x],argTypes:=#[132,132]})
  {base top cb mb m cap B:Nat} {no:Option Addr} {N:Nat→Nd} {n:Nd} {t:TypeId} {fr:Nat×Nat} (hs:a.eval s= .slice no m cap) (hnd:NdsO w base top cb mb no m cap N) (hx:a.eval x= .slice (some ⟨B,0,none⟩) 1 1)
  (hb:w.heap[B]?=some (.cells (ndCells n).toArray t fr)) (hm:m<1048576) (hbase:base≤w.heap.size) (H:Nat) (hH:w.heap.size=H)
  (hK:∀g cap' w',Nds w' g (m+1) cap' (upd N m n)→base≤g→Keeps (fun k=>no=some ⟨k,0,none⟩) w w'→(no=some ⟨g,0,none⟩∨g=H)→g<w'.heap.size→wpList Tryz.prog ops Q rest (a.put o.dst (.slice (some ⟨g,0,none⟩) (m+1) cap')) w'):
  wpList Tryz.prog ops Q (o::rest) a w:=by
 obtain⟨i0,hi0,hz0,hz1,hz2⟩:=info_parts infoNode
 refine wpList_append_lies (P:=Tryz.prog) (w:=w) hgd s x 132 ho base 208 i0 _ 4 56 Tryz.underlying132 hi0 hz0 hz1 hz2 rfl (by omega) _ m _ hs hnd.row _ 1 1 (ndCells n) hx rfl
  (World.news_of_block hb) (by intro u hu;simp[ndCells]at hu;rcases hu with rfl | rfl | rfl | rfl<;>rfl) (by omega) (by unfold maxLen;omega) (by omega) hbase H hH ?_
 intro g cap' w' hown hgr hat hlt
 rw[cellsN_push]at hown
 obtain⟨h1,h2⟩:=Nds.of_row hown
 have hown2:∀k,(Value.slice no m cap).ownBlock=some k→no=some ⟨k,0,none⟩:=by
  intro k hk
  rcases hnd with⟨rfl,_⟩ | ⟨nb,rfl,_⟩
  ·simp[Value.ownBlock]at hk
  ·simp[Value.ownBlock]at hk;rw[hk]
 refine hK g cap' w' h1 h2 ((Keeps.refl _ _).grown hgr fun k hk _=>hown2 k hk) ?_ hlt
 rcases hat with h | h
 ·exact .inl (hown2 g h)
 ·exact .inr h
end Go.Proofs.YtimkkkdabmhedaaGreatDoor
