/- Walk: split.Split. -/
import Derived.Test.YtahiballegpbgaaGreatDoorR27
import Derived.RangeFuncBox
import Derived.Test.YtahiballegpbgaaGreatDoorR6
import Derived.Test.YtahiballegpbgaaGreatDoorR1
import Derived.Test.YtahiballegpbgaaGreatDoorR18
set_option linter.unusedVariables false
set_option maxHeartbeats 4000000
set_option maxRecDepth 100000
namespace Go.Proofs.YtahiballegpbgaaGreatDoor
open Go.RowKit
def tG (p:Int×Bool):List Value:=[.int .i64 p.1, .bool p.2]
theorem U0 (p:Int×Bool):(tG p).length=2:=rfl
theorem infoPc:(Tryz.prog.info? 92).map (fun i=>(i.zero.map (·.cells.size),i.size,i.bytes))=some (some 2,2,16):=by kernel_rfl
theorem R3 {kind:Int} {T:List Rg} {final:Bool}:∀(k:Nat) (run:List Int) (s:Bool),(uA kind T final k run s).1.length<=k
 | 0,run,s=>by simp[uA]
 | k+1,run,s=>by
  simp only[uA];split
  ·simp
  ·simp only[List.length_cons];have:=R3 (kind:=kind) (T:=T) (final:=final) k (run.drop (A5 kind T run final).1.toNat) (s && (A5 kind T run final).2);omega
def lQ (kind:Int) (T:List Rg) (final:Bool) (pre:List Rn):List (Int×Bool)×Bool:=(pre.map Rn.pr).foldl (jE kind T final) ([],true)
theorem aDf {kind:Int} {T:List Rg} {final:Bool} (pre:List Rn) (x:Rn):lQ kind T final (pre++ [x])=jE kind T final (lQ kind T final pre) x.pr:=by simp[lQ]
theorem stOf_len {kind:Int} {T:List Rg} {final:Bool} (pre:List Rn):(lQ kind T final pre).1.length<=bH pre:=by
 suffices h:∀(l:List Rn) (st:List (Int×Bool)×Bool),((l.map Rn.pr).foldl (jE kind T final) st).1.length<=st.1.length+bH l by
  have:=h pre ([],true);simpa[lQ]using this
 intro l
 induction l with
 | nil=>intro st;simp[bH]
 | cons x l ih=>
  intro st;simp only[List.map_cons,List.foldl_cons];have h1:=ih (jE kind T final st x.pr);have h2:=R3 (kind:=kind) (T:=T) (final:=x.behind || final) x.bytes.length x.bytes st.2;have h3:(jE kind T final st x.pr).1.length<=st.1.length+x.bytes.length+1:=by
   obtain⟨xo,xn,xc,xb,xh⟩:=x
   cases xh with
   | true=>simp only[jE,Rn.pr,List.length_append,if_true,List.length_singleton]at h2 |-;omega
   | false=>simp only[jE,Rn.pr,List.length_append,Bool.false_eq_true,if_false,List.length_nil]at h2 |-;omega
  have h4:bH (x::l)=x.bytes.length+1+bH l:=by simp[bH]
  omega
theorem setOne {w:World} {g:Nat} {a v:Value} {t:TypeId} (h:w.heap[g]?=some (.cells #[a] t)):(w.setCell ⟨g,0,none⟩ v).heap[g]?=some (.cells #[v] t):=by
 simp[World.setCell,Array.getElem?_modify,h]
theorem C8 {w:World} {g:Nat} {a:Value} {t:TypeId} (h:w.heap[g]?=some (.cells #[a] t)):w.cell? ⟨g,0,none⟩=some a/\w.frozen? ⟨g,0,none⟩=false:=by
 simp[World.cell?,World.frozen?,h]
theorem dC {F:Fence} {n:Nat} {P:Program} (w:World) {ops:Array Oper} {rest:List Oper} {o:Oper} {a:Act} {Q:Exit->Act->World->Prop}
  (hg:o.guard=none) (s x:Operand) (t:TypeId) (hop:o.op=Op.call {callee:=Callee.builtin Builtin.append,args:=#[s,x],argTypes:=#[t,t]})
  (base:Nat) (e:TypeId) (i:TypeInfo) (z:Value) (size bytes:Nat) (h1:P.underlying t=some (.slice e)) (h2:P.info? e=some i) (h3:i.zero=some z) (h4:i.size=size) (h5:i.bytes=bytes) (h6:z.cells.size=size) (h7:0<size)
  (v:Value) (k:Nat) (xs:List Value) (hs:a.eval s=v) (hown:w.ownsRow base e size v k xs) (ad:Addr) (m c:Nat) (news:List Value) (hx:a.eval x= .slice (some ad) m c) (hn:news.length=m*size)
  (hc:∀j u,news[j]?=some u->w.cell? (ad.add j)=some u) (h1c:∀u∈news,u.oneCell'=true) (b1:k+m<=maxLen) (b2:(k+m)*bytes<=140737488355328) (b3:base<=w.heap.size)
  (hK:∀v' w',w'.ownsRow base e size v' (k+m) (xs++news)->w.grownBy w' v.ownBlock->(v'.ownBlock=v.ownBlock\/v'.ownBlock=some w.heap.size)->wpListIn F n P ops Q rest (a.put o.dst v') w'):
  wpListIn F n P ops Q (o::rest) a w:=by
 refine wpListIn_plain hg fun K hK'=> ?_
 obtain⟨v',w',hrun,r1,r2,_,r3⟩:=run_append_own_at (P:=P) (w:=w) base t o.type e i z size bytes h1 h2 h3 h4 h5 h6 h7 v k xs hown ad m c news hn hc h1c b1 b2 b3;unfold Oper.wpIn;refine⟨?_,?_⟩
 ·simp[Oper.about,hop,resolve,Target.leads,Sem.run_pure]
 ·rw[Oper.semAt_plain F _ _ (by rw[hop];intro c hc';cases hc')];simp[execOp,hop,resolve,invoke,builtin,hs,hx,hrun,Result.andThen];exact hK' _ _ (hK v' w' r1 r2 r3)
theorem vO {w w':World} {ao:Option Addr} {n c:Nat} {A:List Int} (h:SlB w ao n c A) (hk:∀ad,ao=some ad->w'.heap[ad.block]?=w.heap[ad.block]?):SlB w' ao n c A:=
 ⟨Sl.len h,Sl.le h,Sl.max h,Sl.nil h,fun i u hu=>by
  obtain⟨b,o,e,hc⟩:=Sl.at_ h i u hu;exact⟨b,o,e,by rw[World.cell?_of_block (w:=w) (a:=⟨b,o+i,none⟩) (hk ⟨b,o,none⟩ e)];exact hc⟩⟩
theorem aAI {ao:Option Addr} {n cap k:Nat} {L:Int} (hL:L=(k:Int)) (hk:k<=n) (j0:TypeInfo) (hj:Tryz.prog.info? 5=some j0) (hj1:j0.size=1):
  ∃ao',(∀W,(Instr.sliceAt 113 (.slice ao n cap) (some (.int .i64 L)) none none).run Tryz.prog W= .ok (.slice ao' (n-k) (cap-k)) W)/\
   (∀W A,SlB W ao n cap A->SlB W ao' (n-k) (cap-k) (A.drop k))/\∀ad',ao'=some ad'->∃ad,ao=some ad/\ad.block=ad'.block:=by
 subst hL;refine⟨if cap=k then ao else ao.map (·.add k),fun W=> ?_,fun W A h=>h.drop hk,fun ad' e=> ?_⟩
 ·have:=tA Tryz.underlying113 hj W ao n cap (some (.int .i64 k)) none k n (fun w=>by simp[Instr.sliceBounds,run_sliceBound,hk]);rw[hj1,Nat.mul_one]at this;exact this
 ·split at e
  ·exact⟨ad',e,rfl⟩
  ·cases ao with
   | none=>simp at e
   | some ad=>
    simp only[Option.map_some,Option.some.injEq]at e;exact⟨ad,rfl,by rw[<-e];unfold Addr.add;split<;>rfl⟩
theorem U3 {w:World} {base:Nat} {e:TypeId} {s n:Nat} {v:Value} {xs:List Value} (h:w.ownsRow base e s v n xs):∀q,v.ownBlock=some q->∃o,w.heap[q]?=some o/\o.isCells=true:=by
 obtain⟨_,h2⟩:=h;rcases h2 with⟨rfl,_⟩ | ⟨g,cap,cur,rfl,hg,hh,_⟩
 ·intro q e;cases e
 ·intro q e;cases e;exact⟨_,hh,rfl⟩
theorem vM {B:Nat} {W A C:World} (h:KeepsFrom B W A) (hb:Below A.heap.size A C):KeepsFrom B W C:=
 h.trans ⟨hb.size,fun k o _ ho _=>(hb.block k (Array.getElem?_eq_some_iff.1 ho).1).trans ho⟩
theorem kJ {B:Nat} {W A:World} (h:KeepsFrom B W A) (ad:Addr) (v:Value):KeepsFrom B W (A.setCell ad v):=h.trans ((KeepsOthers.setCell A ad v).from B)
theorem sK {B:Nat} {W A C:World} {base:Nat} {e:TypeId} {s n:Nat} {v:Value} {xs:List Value} (h:KeepsFrom B W A) (hg:A.grownBy C v.ownBlock) (ho:A.ownsRow base e s v n xs):KeepsFrom B W C:=
 h.trans ((KeepsOthers.of_grownBy hg (fun j o e ho2=>by obtain⟨o',h1,h2⟩:=U3 ho j e;rw[ho2]at h1;cases h1;exact h2)).from B)
theorem vS {n₀:Nat} {w W A:World} (h1:Below n₀ w W) (h2:Below n₀ w A) (hs:W.heap.size<=A.heap.size):Below n₀ W A:=
 ⟨h2.os.trans h1.os.symm,h2.tape.trans h1.tape.symm,h2.output.trans h1.output.symm,hs,fun k hk=>(h2.block k hk).trans (h1.block k hk).symm⟩
structure SpI (w0 W:World) (kind:Int) (to_:Option Addr) (rn rc:Nat) (final:Bool) (bo:Nat) (ps:List (Int×Bool)) (su:Bool) (v:Value):Prop where
 c0:W.heap[w0.heap.size]?=some (.cells #[.int .i64 kind] 3)
 c1:W.heap[w0.heap.size+1]?=some (.cells #[.slice to_ rn rc] 27)
 c2:W.heap[w0.heap.size+1+1]?=some (.cells #[.bool final] 4)
 o:W.heap[bo]?=some (.cells #[v] 89)
 row:iA tG 2 92 W w0.heap.size v ps
 far:∀q,v.ownBlock=some q->w0.heap.size+1+1<q/\q≠bo/\q≠bo+1
 s:W.heap[bo+1]?=some (.cells #[.bool su] 4)
 below:Below w0.heap.size w0 W
 lo:w0.heap.size+1+1<bo
theorem SpI.stay {w0 W W':World} {kind:Int} {to_:Option Addr} {rn rc:Nat} {final:Bool} {bo:Nat} {ps:List (Int×Bool)} {su:Bool} {v:Value} (h:SpI w0 W kind to_ rn rc final bo ps su v)
  (hk:∀(q:Nat) (o:Obj),W.heap[q]?=some o->o.isCells=true->W'.heap[q]?=some o) (hb:Below w0.heap.size w0 W'):SpI w0 W' kind to_ rn rc final bo ps su v:=
 ⟨hk _ _ h.c0 rfl,hk _ _ h.c1 rfl,hk _ _ h.c2 rfl,hk _ _ h.o rfl,jA h.row (fun q hq=>by obtain⟨o,ho,hc⟩:=U3 h.row q hq;rw[ho];exact hk q o ho hc),h.far,hk _ _ h.s rfl,hb,h.lo⟩
theorem SpI.on {w0 W W':World} {kind:Int} {to_:Option Addr} {rn rc:Nat} {final:Bool} {bo:Nat} {ps:List (Int×Bool)} {su:Bool} {v:Value} (h:SpI w0 W kind to_ rn rc final bo ps su v)
  (hb:Below W.heap.size W W'):SpI w0 W' kind to_ rn rc final bo ps su v:=
 h.stay (fun q o ho _=>(hb.block q (Array.getElem?_eq_some_iff.1 ho).1).trans ho) (h.below.trans (hb.mono h.below.size))
theorem SpI.setS {w0 W:World} {kind:Int} {to_:Option Addr} {rn rc:Nat} {final:Bool} {bo:Nat} {ps:List (Int×Bool)} {su:Bool} {v:Value} (h:SpI w0 W kind to_ rn rc final bo ps su v) (b:Bool):
  SpI w0 (W.setCell ⟨bo+1,0,none⟩ (.bool b)) kind to_ rn rc final bo ps b v:=by
 have hne:∀q,q≠bo+1->(W.setCell ⟨bo+1,0,none⟩ (.bool b)).heap[q]?=W.heap[q]? :=fun q hq=>Below.heap_setCell _ _ _ _ hq
 have hlo:=h.lo;exact⟨(hne _ (by omega)).trans h.c0,(hne _ (by omega)).trans h.c1,(hne _ (by omega)).trans h.c2,(hne _ (by omega)).trans h.o,jA h.row (fun q hq=>hne q (h.far q hq).2.2),h.far,setOne h.s,h.below.setCell (p:=⟨bo+1,0,none⟩) (show w0.heap.size<=bo+1 by omega) _,h.lo⟩
theorem SpI.push {w0 W w1:World} {kind:Int} {to_:Option Addr} {rn rc:Nat} {final:Bool} {bo:Nat} {ps:List (Int×Bool)} {su:Bool} {v v':Value} (h:SpI w0 W kind to_ rn rc final bo ps su v) (p:Int×Bool) {o:Obj}
  (hgrow:(W.alloc o).grownBy w1 v.ownBlock) (hown:iA tG 2 92 w1 w0.heap.size v' (ps++ [p])) (hat:∀q,v'.ownBlock=some q->v.ownBlock=some q\/W.heap.size<=q):
  SpI w0 (w1.setCell ⟨bo,0,none⟩ v') kind to_ rn rc final bo (ps++ [p]) su v':=by
 have hlo:=h.lo;have hbo:bo<W.heap.size:=(Array.getElem?_eq_some_iff.1 h.o).1;have hbs:bo+1<W.heap.size:=(Array.getElem?_eq_some_iff.1 h.s).1;have h1:∀q,q<W.heap.size->v.ownBlock≠some q->w1.heap[q]?=W.heap[q]? :=fun q hq hn=>(hgrow.block q (by simp;omega) (fun e=>hn e.symm)).trans (Below.heap_alloc _ _ _ hq)
 have h2:∀q,q<W.heap.size->v.ownBlock≠some q->q≠bo->(w1.setCell ⟨bo,0,none⟩ v').heap[q]?=W.heap[q]? :=fun q hq hn hb=>(Below.heap_setCell _ _ _ _ hb).trans (h1 q hq hn)
 have hfar:∀q,v'.ownBlock=some q->w0.heap.size+1+1<q/\q≠bo/\q≠bo+1:=fun q hq=>by
  rcases hat q hq with h3 | h3
  ·exact h.far q h3
  ·exact⟨by omega,by omega,by omega⟩
 refine⟨(h2 _ (by omega) (fun e=>by have:=(h.far _ e).1;omega) (by omega)).trans h.c0,(h2 _ (by omega) (fun e=>by have:=(h.far _ e).1;omega) (by omega)).trans h.c1,(h2 _ (by omega) (fun e=>by have:=(h.far _ e).1;omega) (by omega)).trans h.c2,
  setOne ((h1 bo hbo (fun e=>(h.far _ e).2.1 rfl)).trans h.o),jA hown (fun q hq=>Below.heap_setCell _ _ _ _ (hfar q hq).2.1),hfar,(h2 _ hbs (fun e=>(h.far _ e).2.2 rfl) (by omega)).trans h.s,?_,h.lo⟩
 have hb:=h.below;have hsz:=hb.size;exact((hb.alloc hsz _).trans ((Below.refl _ _).grown hgrow (by simp;omega) (fun q hq=>by have:=(h.far q hq).1;omega))).setCell (p:=⟨bo,0,none⟩) (show w0.heap.size<=bo by omega) _
attribute [local go_sem] Oper.semAt_some
theorem X1 {text:List Int} {T:List Rg} {ao to_:Option Addr} {tn tc rn rc:Nat} (kind:Int) (final:Bool) (w:World) (hS:SlI w ao tn tc text) (hsz:tn<=1048570)
  (hR:SlF 3 w to_ rn rc (flat Rg.enc T)) (hT:oA T) (hk0:0<=kind) (hk3:kind<=3):
  Calls Tryz.prog 142 #[.int .i64 kind, .slice to_ rn rc, .slice ao tn tc, .bool final] w fun e w'=>(∃v,e= .returned v/\iA tG 2 92 w' w.heap.size v (zA kind T text final))/\Below w.heap.size w w':=by
 refine(callsIn_wide (n:=5)).1 ?_
 obtain⟨wa,hwa⟩:∃wa,((w.alloc (.cells #[.int .i64 kind] 3)).alloc (.cells #[.slice to_ rn rc] 27)).alloc (.cells #[.bool final] 4)=wa:=⟨_,rfl⟩;have hba:Below w.heap.size w wa:=by rw[<-hwa];exact((aA w _).alloc (by simp) _).alloc (by simp;omega) _
 have k2:wa.heap[w.heap.size+1+1]?=some (.cells #[.bool final] 4):=by
  rw[<-hwa];have:=heap_alloc_new ((w.alloc (.cells #[.int .i64 kind] 3)).alloc (.cells #[.slice to_ rn rc] 27)) (.cells #[.bool final] 4);simpa using this
 have k1:wa.heap[w.heap.size+1]?=some (.cells #[.slice to_ rn rc] 27):=by
  rw[<-hwa];refine(Below.heap_alloc _ _ _ (by simp)).trans ?_
  have:=heap_alloc_new (w.alloc (.cells #[.int .i64 kind] 3)) (.cells #[.slice to_ rn rc] 27);simpa using this
 have k0:wa.heap[w.heap.size]?=some (.cells #[.int .i64 kind] 3):=by
  rw[<-hwa];exact(Below.heap_alloc _ _ _ (by simp;omega)).trans ((Below.heap_alloc _ _ _ (by simp)).trans (heap_alloc_new w _))
 have hsa:wa.heap.size=w.heap.size+1+1+1:=by rw[<-hwa];simp
 have hmay:=(callsIn_wide (n:=4)).2 (E8 wa (hR.below hba));have hlt:decide (kind<0)=false:=by simp;omega
 have hgt:decide (3<kind)=false:=by simp;omega
 have HWA:=hW_ hwa;have HK0:=hW_ k0;have HK1:=hW_ k1;have HK2:=hW_ k2;have HBA:=hW_ hba;have HSA:=hW_ hsa;have HT:=hW_ hT;have HR:=hW_ hR;have HS:=hW_ hS;have HM:=hW_ hmay;refine callsIn_of_wp_marks Tryz.func142 rfl trivial ?_ rfl
 simp only[Tryz.ntmps142,List.size_toArray,List.length_cons,List.length_nil,Nat.reduceAdd,Nat.reduceSub,Array.replicate_succ,Array.replicate_zero,List.push_toArray,List.append_toArray,List.nil_append,List.cons_append];clear hwa k0 k1 k2 hba hsa hT hR hS hmay
 gi_wp2_with (refine⟨trivial,?_⟩;gi_at_call 71;rw[HWA.out];refine HM.out.mono ?_;rintro e w2 ⟨⟨bb,rfl,hbb⟩,hb2⟩;obtain rfl:bb=true:=hbb.2 HT.out;clear hbb)
 obtain⟨wb,hwb⟩:∃wb,(w2.alloc (.cells #[.slice none 0 0] 89)).alloc (.cells #[.bool true] 4)=wb:=⟨_,rfl⟩;have HB2:=hW_ hb2;have HWB:=hW_ hwb;clear hb2 hwb;have hruns:=(callsIn_wide (n:=4)).2 (aAH (ao:=ao) (tn:=tn) (tc:=tc) wb)
 gi_wp2_with (refine⟨trivial,?_⟩;gi_at_call 178;rw[HWB.out];refine hruns.mono ?_;rintro e w3 ⟨rfl,rfl⟩)
 have hsw2:=HB2.out.size;have hsb:wb.heap.size=w2.heap.size+1+1:=by rw[<-HWB.out];simp
 obtain⟨wc,hwc⟩:∃wc,wb.alloc (.cells #[.slice ao tn tc] 34)=wc:=⟨_,rfl⟩;have hsc:wc.heap.size=w2.heap.size+1+1+1:=by rw[<-hwc];simp[hsb]
 have hb2b:Below w2.heap.size w2 wb:=by rw[<-HWB.out];exact(aA w2 _).alloc (by simp) _
 have hbbc:Below wb.heap.size wb wc:=hwc▸aA wb _;have hbw:Below w.heap.size w wc:=(HBA.out.trans (HB2.out.mono HBA.out.size)).trans ((hb2b.trans (hbbc.mono (by omega))).mono (by have:=HSA.out;omega));have hin:SpI w wc kind to_ rn rc final w2.heap.size [] true (.slice none 0 0):=by
  have hs:=HSA.out;have e2:∀q,q<w2.heap.size->wc.heap[q]?=w2.heap[q]? :=fun q hq=>(hbbc.block q (by omega)).trans (hb2b.block q hq)
  have e3:∀q,q<wa.heap.size->wc.heap[q]?=wa.heap[q]? :=fun q hq=>(e2 q (by omega)).trans (HB2.out.block q hq)
  have o1:wb.heap[w2.heap.size]?=some (.cells #[.slice none 0 0] 89):=by
   rw[<-HWB.out];exact(Below.heap_alloc _ _ _ (by simp)).trans (heap_alloc_new w2 _)
  have o2:wb.heap[w2.heap.size+1]?=some (.cells #[.bool true] 4):=by
   rw[<-HWB.out];have:=heap_alloc_new (w2.alloc (.cells #[.slice none 0 0] 89)) (.cells #[.bool true] 4);simpa using this
  exact⟨(e3 _ (by omega)).trans HK0.out,(e3 _ (by omega)).trans HK1.out,(e3 _ (by omega)).trans HK2.out,(hbbc.block _ (by omega)).trans o1,iA.nil _ _,(fun q e=>by cases e),(hbbc.block _ (by omega)).trans o2,hbw,by omega⟩
 have hbox:wc.cell? ⟨wb.heap.size,0,none⟩=some (.slice ao tn tc):=by
  have:=heap_alloc_new wb (.cells #[.slice ao tn tc] 34);rw[hwc]at this;simp[World.cell?,this]
 have HIN:=hW_ hin;have HBW:=hW_ hbw;have HBOX:=hW_ hbox;have HSC:=hW_ hsc;have HSB:=hW_ hsb;rw[hwc];clear hwc hb2b hbbc hin hbw hbox hsw2 hruns;refine jX (gf:=203) (lb:=#[.pointer (some ⟨wb.heap.size,0,none⟩)]) rfl (by omega) rfl trivial (enters_of Tryz.func203 (by kernel_rfl) rfl) (encs:=Rn.enc) w.heap.size (by have:=HSC.out;have:=HSA.out;have:=HB2.out.size;omega)
  (fun xs=>xs.map Rn.pr=qC [] text) (RnOk tn) RnIn ?hrx ?hseq (fun _=>rfl)
  (fun pre W=>∃v,SpI w W kind to_ rn rc final w2.heap.size (lQ kind T final pre).1 (lQ kind T final pre).2 v) ?hI ?hIB ⟨_,HIN.out⟩ ?a1 ?assign ?body ?done
 case hrx=>exact fun Wj x A B row h hg hr=>⟨Sl.stay h.1 (fun p u hc=>cell_kept hc hg (fun r e=>(hr r e).2)),fun ad e=>⟨(h.2 ad e).1,Nat.lt_of_lt_of_le (h.2 ad e).2 hg.size⟩⟩
 case hI=>
  rintro pre A B row ⟨v,h⟩ hg hr;refine⟨v,h.stay (fun q o ho hc=>(grownBy_keeps_cells hg (fun r e=>(hr r e).2) ho hc).trans ho) (h.below.trans ((Below.refl _ _).grown hg h.below.size (fun r e=>by have:=(hr r e).1;have:=HSC.out;have:=HSA.out;have:=HB2.out.size;omega)))⟩
 case hIB=>rintro pre A B ⟨v,h⟩ hb;exact⟨v,h.on hb⟩
 case hseq=>
  intro l J W hW hJ hY h0;exact runs1_in 3 l wb.heap.size w.heap.size w HS.out rfl (by omega) J hJ W (HBW.out.trans (hW.mono HBW.out.size)) (eA hW _ _ HBOX.out) hY h0
 case assign=>
  intro l x W K hK;unfold Rn.enc;gi_wp2;exact hK
 case done=>
  rintro D xs W hD hxs ⟨v,h⟩ hK;obtain⟨b0,bf⟩:=C8 h.o;have hfin:(lQ kind T final xs).1=zA kind T text final:=by
   unfold lQ;rw[hxs];have:=nM (kind:=kind) (final:=final) HT.out (text:=text) (run:=[]) (acc:=[]) (by simp);simpa using this
  have HROW:=hW_ h.row;rw[hfin]at HROW;have HBL:=hW_ h.below;have hD2:w.heap.size<=D:=by have:=HBW.out.size;omega
  clear h hfin hxs;gi_wp2;refine⟨by simp, .inl ⟨_,_,rfl,run_takeDeferred hK,?_⟩⟩;exact⟨_,results_tmp rfl _ _ _,⟨v,rfl,ownsRow_putObj HROW.out _ hK rfl⟩,HBL.out.trans (belowK_b (w:=w) (Nat.le_refl _) W D _ _ hD2 hK rfl rfl)⟩
 case body=>
  rintro l pre x Wj W ⟨vj,hij⟩ hkj hsj ⟨v,hi⟩ ⟨hxb,hxlo⟩ ⟨hcost,hby⟩;obtain rfl:v=vj:=by
   have h1:=hkj _ _ hij.o rfl;rw[hi.o]at h1;simpa using h1
  have hvx:∀ad,x.ao=some ad->v.ownBlock≠some ad.block:=fun ad e h=>by
   have h1:=(World.ownsRow.lt hij.row ad.block h).2;have h2:=(hxlo ad e).1;omega
  obtain⟨fb,hfb⟩:∃fb,(x.behind || final)=fb:=⟨_,rfl⟩;obtain⟨⟨acc,s0⟩,hst⟩:∃st,lQ kind T final pre=st:=⟨_,rfl⟩;have hacc:acc.length<=bH pre:=by have:=stOf_len (kind:=kind) (T:=T) (final:=final) pre;rw[hst]at this;exact this
  have hsn:=aDf (kind:=kind) (T:=T) (final:=final) pre x;rw[hst]at hsn hi;unfold jE Rn.pr at hsn;simp only[hfb]at hsn hi;obtain⟨⟨P,sf⟩,hP⟩:∃q,uA kind T fb x.bytes.length x.bytes s0=q:=⟨_,rfl⟩;rw[hP]at hsn;simp only at hsn;rw[zM]at hcost;have HSN:=hW_ hsn;have HP:=hW_ hP;have HFB:=hW_ hfb;have HXB:=hW_ hxb;have HBY:=hW_ hby;have HIW:=hW_ hi;have HVX:=hW_ hvx;have HXL:Hid (∀ad,x.ao=some ad->ad.block<W.heap.size):=hW_ (fun ad e=>(hxlo ad e).2);have HXO:Hid (∀ad,x.ao=some ad->w2.heap.size+1<ad.block):=hW_ (fun ad e=>by
   have h1:=(hxlo ad e).1;have h2:=(Array.getElem?_eq_some_iff.1 hij.s).1;omega)
  have hxn:x.bytes.length=x.n:=hxb.len;obtain⟨i0,z0,hci,hz0,hz1,hz2,hz3⟩:=B6 infoPc;obtain⟨j0,hj,hj0,hj1,hj2⟩:=info_parts aCw;clear hij hkj hsj hxlo hsn hP hfb hst hxb hby hi hvx;have hrd:(Fence.wide.inRound l).round=some l:=rfl;have hfnF:∀f,(Fence.wide.inRound l).fn f=True:=fun _=>rfl
  gi_wp2;gi_loopw [11] (fun rv wr=>∃(ro:Option Addr) (rn' rc':Nat) (rest:List Int) (D:List (Int×Bool)) (s:Bool) (v':Value),rv= .slice ro rn' rc'/\rn'=rest.length/\D.length+rest.length<=x.bytes.length/\Hid (SlB W ro rn' rc' rest)/\Hid (∀ad,ro=some ad->∃a0,x.ao=some a0/\a0.block=ad.block)/\Hid (∀y∈rest,0<=y/\y<256)/\
    Hid (SpI w wr kind to_ rn rc final w2.heap.size (acc++D) s v')/\Hid (∀ad,x.ao=some ad->v'.ownBlock≠some ad.block)/\Hid (∀ad,x.ao=some ad->wr.heap[ad.block]?=W.heap[ad.block]?)/\Hid (KeepsFrom wc.heap.size W wr)/\
    Hid (D++(uA kind T fb rest.length rest s).1=P)/\Hid ((uA kind T fb rest.length rest s).2=sf)) (fun rv _=>match rv with | .slice _ n _=>n | _=>0)
  case atStart=>
   exact⟨x.ao,x.n,x.c,x.bytes,[],s0,v,rfl,hxn.symm,by simp,HXB,hW_ (fun ad e=>⟨ad,e,rfl⟩),HBY,hW_ (by simpa using HIW.out),HVX,hW_ (fun _ _=>rfl),hW_ (KeepsFrom.refl _ _),hW_ (by rw[HP.out];rfl),hW_ (by rw[HP.out])⟩
  case round=>
   obtain⟨ro,rn',rc',rest,D,s,v',rfl,hrn,hDl,HRB,HRA,HRY,HSI,HVO,HXS,HKF,HPP,HPS⟩:=hrel;have HRW:Hid (SlB wr ro rn' rc' rest):=hW_ (vO HRB.out (fun ad e=>by
    obtain⟨a0,h1,h2⟩:=HRA.out ad e;rw[<-h2];exact HXS.out a0 h1))
   cases rest with
   | nil=>
    have hr0:rn'=0:=by simpa using hrn
    subst hr0;have HD:Hid (D=P):=hW_ (by have:=HPP.out;simpa[uA]using this);have HSF:Hid (s=sf):=hW_ (by have:=HPS.out;simpa[uA]using this);have HDL:=hW_ hDl;clear hrn hDl;have HLN:Hid ((acc++D).length<=1048575):=hW_ (by rw[List.length_append];have hDl:=HDL.out;simp only[List.length_nil]at hDl;omega);obtain⟨q0,q1⟩:=C8 HSI.out.o;obtain⟨r0,r1⟩:=C8 HSI.out.s
    cases hbh:x.behind with
    | false=>
     have HSN2:Hid (lQ kind T final (pre++ [x])=(acc++D,s)):=hW_ (by rw[HSN.out,hbh,HD.out,HSF.out];simp);gi_wp2;exact⟨HKF.out,vS HIW.out.below HSI.out.below HKF.out.size,v',by rw[HSN2.out];exact HSI.out⟩
    | true=>
     have HSN2:Hid (lQ kind T final (pre++ [x])=(acc++D++ [(1,s)],s)):=hW_ (by rw[HSN.out,hbh,HD.out,HSF.out];simp);have HNW:Hid (∀j u,[Value.int .i64 1,Value.bool s][j]?=some u->(wr.alloc (.cells #[.int .i64 1, .bool s] 92)).cell? ((⟨wr.heap.size,0,none⟩:Addr).add j)=some u):=hW_ (by
      have:=World.news_of_block (cs:=#[.int .i64 1, .bool s]) (heap_alloc_new wr (.cells #[.int .i64 1, .bool s] 92));exact this)
     gi_wp2_with (gi_at_builtin;go_loud (refine dC _ rfl _ _ 89 rfl w.heap.size 92 i0 z0 2 16 Tryz.underlying89 hci hz0 hz1 hz2 hz3 (by omega) _ _ _ rfl (World.ownsRow.alloc HSI.out.row _) ⟨wr.heap.size,0,none⟩ 1 1 [.int .i64 1, .bool s] rfl rfl HNW.out (by simp[Value.oneCell']) (by have:=HLN.out;unfold maxLen;omega) (by have:=HLN.out;omega) (by have:=HSI.out.below.size;simp;omega) ?_))
     intro v2 w5 hown' hgrow hat;obtain⟨g2,cap2,hv2⟩:=ownsRow_succ hown';obtain⟨kk,hkk⟩:∃kk,acc.length+D.length+1=kk:=⟨_,rfl⟩;have hv3:v2= .slice (some ⟨g2,0,none⟩) kk cap2:=by rw[hv2,<-hkk];try rfl
     subst hv3;clear hv2 hkk;have hx5:w5.heap[w2.heap.size]?=some (.cells #[v'] 89):=(hgrow.block _ (by have:=(Array.getElem?_eq_some_iff.1 HSI.out.o).1;simp;omega) (fun e=>(HSI.out.far _ e.symm).2.1 rfl)).trans ((Below.heap_alloc _ _ _ (Array.getElem?_eq_some_iff.1 HSI.out.o).1).trans HSI.out.o)
     obtain⟨y0,y1⟩:=C8 hx5;have hat2:∀q,(Value.slice (some ⟨g2,0,none⟩) kk cap2).ownBlock=some q->v'.ownBlock=some q\/wr.heap.size<=q:=fun q hq=>by
      rcases hat with h | h
      ·left;rw[<-h];exact hq
      ·right;rw[hq]at h;have:=Option.some.inj h
       first | (simp at this;omega) | omega
     have hown2:iA tG 2 92 w5 w.heap.size (.slice (some ⟨g2,0,none⟩) kk cap2) ((acc++D)++ [(1,s)]):=by
      unfold iA;rw[List.length_append,List.length_append,List.length_singleton,cB,cE];exact hown'
     have HPU:=hW_ (HSI.out.push (1,s) hgrow hown2 hat2);have HVO2:Hid (∀ad,x.ao=some ad->(Value.slice (some ⟨g2,0,none⟩) kk cap2).ownBlock≠some ad.block):=hW_ (fun ad e h=>by
      rcases hat2 _ h with h1 | h1
      ·exact HVO.out ad e h1
      ·have:=HXL.out ad e;have:=HKF.out.size;omega)
     have HKF2:=hW_ (kJ (sK (vM HKF.out (aA wr (.cells #[.int .i64 1, .bool s] 92))) hgrow (World.ownsRow.alloc HSI.out.row _)) ⟨w2.heap.size,0,none⟩ (.slice (some ⟨g2,0,none⟩) kk cap2));have HXS2:Hid (∀ad,x.ao=some ad->(w5.setCell ⟨w2.heap.size,0,none⟩ (.slice (some ⟨g2,0,none⟩) kk cap2)).heap[ad.block]?=W.heap[ad.block]?):=hW_ (fun ad e=>by
      have h1:=HXL.out ad e;have h2:=HXO.out ad e;refine(Below.heap_setCell _ _ _ _ (by show ad.block≠w2.heap.size;omega)).trans ((hgrow.block _ (by have:=HKF.out.size;simp;omega) (fun h=>HVO.out ad e h.symm)).trans ((Below.heap_alloc _ _ _ (by have:=HKF.out.size;omega)).trans (HXS.out ad e))))
     clear hown' hgrow hat hx5 hat2 hown2;gi_wp2;exact⟨HKF2.out,vS HIW.out.below HPU.out.below HKF2.out.size,(.slice (some ⟨g2,0,none⟩) kk cap2),by rw[HSN2.out];exact HPU.out⟩
   | cons c rest'=>
    have hrn2:rn'=rest'.length+1:=by simpa using hrn
    have hrp:(0:Int)<(rn':Int):=by omega
    obtain⟨⟨n,d⟩,hnx⟩:∃q,A5 kind T (c::rest') fb=q:=⟨_,rfl⟩;have hnl:=F1 (kind:=kind) HT.out HRY.out (by simp) fb;rw[hnx]at hnl;obtain⟨hn1,hn2⟩:=hnl;simp only at hn1 hn2;obtain⟨m,hm⟩:=Int.eq_ofNat_of_zero_le (show 0<=n by omega);subst hm;simp only[List.length_cons]at hn2 hDl;have hmr:m<=rn':=by omega
    have hnext:=aAS kind fb wr HRW.out HRY.out (by simp) (by omega) (SlF.below HR.out HSI.out.below) HT.out hk0 hk3;unfold mC at hnext;rw[hnx]at hnext;simp only at hnext;have HPC:Hid (uA kind T fb (c::rest').length (c::rest') s=(((m:Int),s && d)::(uA kind T fb ((c::rest').drop m).length ((c::rest').drop m) (s && d)).1,(uA kind T fb ((c::rest').drop m).length ((c::rest').drop m) (s && d)).2)):=hW_ (by
     have hmo:=yP (kind:=kind) (final:=fb) HT.out (k:=rest'.length) (j:=((c::rest').drop m).length) (run:=(c::rest').drop m) (sure:=s && d) (by simp;omega) (Nat.le_refl _) (fun y hy=>HRY.out y (List.mem_of_mem_drop hy));rw[<-hmo];simp only[List.length_cons,uA];rw[if_neg (by simp),hnx];rfl)
    have HRN:=hW_ hrn2;have HDL:=hW_ hDl;obtain⟨ro2,hsl,hslB,hslA⟩:=aAI (ao:=ro) (n:=rn') (cap:=rc') (k:=m) (L:=(m:Int)) rfl hmr j0 hj hj1;have HSB2:=hW_ (hslB W _ HRB.out);have HSA2:=hW_ hslA;have HSL:=hW_ hsl;have HLN:Hid ((acc++D).length<=1048575):=hW_ (by rw[List.length_append];omega);have HNX:=hW_ hnext;obtain⟨k0,_⟩:=C8 HSI.out.c0;obtain⟨k1,_⟩:=C8 HSI.out.c1;obtain⟨k2,_⟩:=C8 HSI.out.c2;clear hnext hnx hslB hslA hsl hrn hrn2 hDl
    cases hbh:x.behind with
    | true=>
     obtain rfl:fb=true:=by rw[<-HFB.out,hbh];rfl
     gi_wp2_with (fail)
     refine(CallsIn.inRound l (callsIn_wide.2 HNX.out)).mono ?_
     rintro e W3 ⟨rfl,hb3⟩;have hs3:=HSI.out.on hb3;have HKF3:=hW_ (vM HKF.out hb3);have HXS3:Hid (∀ad,x.ao=some ad->W3.heap[ad.block]?=W.heap[ad.block]?):=hW_ (fun ad e=>(hb3.block _ (by have:=HXL.out ad e;have:=HKF.out.size;omega)).trans (HXS.out ad e));obtain⟨W4,hW4⟩:∃W4,W3.setCell ⟨w2.heap.size+1,0,none⟩ (.bool (s && d))=W4:=⟨_,rfl⟩;have hs4:=hs3.setS (s && d);have hz4:W4.heap.size=W3.heap.size:=by rw[<-hW4];simp
     have hk4:=kJ HKF3.out ⟨w2.heap.size+1,0,none⟩ (.bool (s && d));have hx4:∀ad,x.ao=some ad->W4.heap[ad.block]?=W.heap[ad.block]? :=fun ad e=>by
      rw[<-hW4];exact(Below.heap_setCell _ _ _ _ (by have:=HXO.out ad e;show ad.block≠w2.heap.size+1;omega)).trans (HXS3.out ad e)
     obtain⟨p0,p1⟩:=C8 hs3.s;obtain⟨u0,u1⟩:=C8 hs3.o;obtain⟨r0,r1⟩:=C8 hs4.s;obtain⟨t0,t1⟩:=C8 hs4.o;rw[hW4]at hs4 hk4;have HS4:=hW_ hs4;have HK4:=hW_ hk4;have HX4:=hW_ hx4;have HW4:=hW_ hW4;have HZ4:=hW_ hz4;clear hb3 hs3 hs4 hk4 hx4 hW4 hz4 k0 k1 k2
     cases s with
     | true=>
      simp only[Bool.true_and]at *;have HNW:Hid (∀j u,[Value.int .i64 (m:Int),Value.bool d][j]?=some u->(W4.alloc (.cells #[.int .i64 (m:Int), .bool d] 92)).cell? ((⟨W3.heap.size,0,none⟩:Addr).add j)=some u):=hW_ (by
       have:=World.news_of_block (cs:=#[.int .i64 (m:Int), .bool d]) (heap_alloc_new W4 (.cells #[.int .i64 (m:Int), .bool d] 92));rw[HZ4.out]at this;exact this)
      gi_wp2_with (gi_at_builtin;rw[HW4.out];go_loud (refine dC _ rfl _ _ 89 rfl w.heap.size 92 i0 z0 2 16 Tryz.underlying89 hci hz0 hz1 hz2 hz3 (by omega) _ _ _ rfl (World.ownsRow.alloc HS4.out.row _) ⟨W3.heap.size,0,none⟩ 1 1 [.int .i64 (m:Int), .bool d] rfl rfl HNW.out (by simp[Value.oneCell']) (by have:=HLN.out;unfold maxLen;omega) (by have:=HLN.out;omega) (by have:=HS4.out.below.size;simp;omega) ?_))
      intro v2 w5 hown' hgrow hat;obtain⟨g2,cap2,hv2⟩:=ownsRow_succ hown';obtain⟨kk,hkk⟩:∃kk,acc.length+D.length+1=kk:=⟨_,rfl⟩;have hv3:v2= .slice (some ⟨g2,0,none⟩) kk cap2:=by rw[hv2,<-hkk];try rfl
      subst hv3;clear hv2 hkk;have hx5:w5.heap[w2.heap.size]?=some (.cells #[v'] 89):=(hgrow.block _ (by have:=(Array.getElem?_eq_some_iff.1 HS4.out.o).1;simp;omega) (fun e=>(HS4.out.far _ e.symm).2.1 rfl)).trans ((Below.heap_alloc _ _ _ (Array.getElem?_eq_some_iff.1 HS4.out.o).1).trans HS4.out.o)
      obtain⟨y0,y1⟩:=C8 hx5;have hat2:∀q,(Value.slice (some ⟨g2,0,none⟩) kk cap2).ownBlock=some q->v'.ownBlock=some q\/W4.heap.size<=q:=fun q hq=>by
       rcases hat with h | h
       ·left;rw[<-h];exact hq
       ·right;rw[hq]at h;have:=Option.some.inj h
        first | (simp at this;omega) | omega
      have hown2:iA tG 2 92 w5 w.heap.size (.slice (some ⟨g2,0,none⟩) kk cap2) ((acc++D)++ [((m:Int),d)]):=by
       unfold iA;rw[List.length_append,List.length_append,List.length_singleton,cB,cE];exact hown'
      have HPU:=hW_ (HS4.out.push ((m:Int),d) hgrow hown2 hat2);have HVO2:Hid (∀ad,x.ao=some ad->(Value.slice (some ⟨g2,0,none⟩) kk cap2).ownBlock≠some ad.block):=hW_ (fun ad e h=>by
       rcases hat2 _ h with h1 | h1
       ·exact HVO.out ad e h1
       ·have:=HXL.out ad e;have:=HKF3.out.size;have:=HZ4.out;omega)
      have HKF2:=hW_ (kJ (sK (vM HK4.out (aA W4 (.cells #[.int .i64 (m:Int), .bool d] 92))) hgrow (World.ownsRow.alloc HS4.out.row _)) ⟨w2.heap.size,0,none⟩ (.slice (some ⟨g2,0,none⟩) kk cap2));have HXS2:Hid (∀ad,x.ao=some ad->(w5.setCell ⟨w2.heap.size,0,none⟩ (.slice (some ⟨g2,0,none⟩) kk cap2)).heap[ad.block]?=W.heap[ad.block]?):=hW_ (fun ad e=>by
       have h1:=HXL.out ad e;have h2:=HXO.out ad e;refine(Below.heap_setCell _ _ _ _ (by show ad.block≠w2.heap.size;omega)).trans ((hgrow.block _ (by have:=HKF3.out.size;have:=HZ4.out;simp;omega) (fun h=>HVO.out ad e h.symm)).trans ((Below.heap_alloc _ _ _ (by have:=HKF3.out.size;have:=HZ4.out;omega)).trans (HX4.out ad e))))
      clear hown' hgrow hat hx5 hat2 hown2 p0 p1 u0 u1 r0 r1 t0 t1;have hsl:=HSL.out;gi_wp2;go_roundw
      case rel=>
       refine⟨ro2,rn'-m,rc'-m,(c::rest').drop m,D++ [((m:Int),d)],d,(.slice (some ⟨g2,0,none⟩) kk cap2),rfl,by rw[List.length_drop,List.length_cons];have:=HRN.out;omega,by have:=HDL.out;rw[List.length_append,List.length_drop,List.length_cons];simp;omega,HSB2,hW_ (fun ad e=> ?_),hW_ (fun y hy=>HRY.out y (List.mem_of_mem_drop hy)),hW_ (by rw[<-List.append_assoc];exact HPU.out),HVO2,HXS2,HKF2,hW_ (by rw[<-HPP.out,HPC.out];simp),hW_ (by rw[<-HPS.out,HPC.out])⟩;obtain⟨a1,h1,h2⟩:=HSA2.out ad e;obtain⟨a0,h3,h4⟩:=HRA.out a1 h1;exact⟨a0,h3,h4.trans h2⟩
      case measure=>simp;omega
     | false=>
      simp only[Bool.false_and]at *;have HNW:Hid (∀j u,[Value.int .i64 (m:Int),Value.bool false][j]?=some u->(W4.alloc (.cells #[.int .i64 (m:Int), .bool false] 92)).cell? ((⟨W3.heap.size,0,none⟩:Addr).add j)=some u):=hW_ (by
       have:=World.news_of_block (cs:=#[.int .i64 (m:Int), .bool false]) (heap_alloc_new W4 (.cells #[.int .i64 (m:Int), .bool false] 92));rw[HZ4.out]at this;exact this)
      gi_wp2_with (gi_at_builtin;rw[HW4.out];go_loud (refine dC _ rfl _ _ 89 rfl w.heap.size 92 i0 z0 2 16 Tryz.underlying89 hci hz0 hz1 hz2 hz3 (by omega) _ _ _ rfl (World.ownsRow.alloc HS4.out.row _) ⟨W3.heap.size,0,none⟩ 1 1 [.int .i64 (m:Int), .bool false] rfl rfl HNW.out (by simp[Value.oneCell']) (by have:=HLN.out;unfold maxLen;omega) (by have:=HLN.out;omega) (by have:=HS4.out.below.size;simp;omega) ?_))
      intro v2 w5 hown' hgrow hat;obtain⟨g2,cap2,hv2⟩:=ownsRow_succ hown';obtain⟨kk,hkk⟩:∃kk,acc.length+D.length+1=kk:=⟨_,rfl⟩;have hv3:v2= .slice (some ⟨g2,0,none⟩) kk cap2:=by rw[hv2,<-hkk];try rfl
      subst hv3;clear hv2 hkk;have hx5:w5.heap[w2.heap.size]?=some (.cells #[v'] 89):=(hgrow.block _ (by have:=(Array.getElem?_eq_some_iff.1 HS4.out.o).1;simp;omega) (fun e=>(HS4.out.far _ e.symm).2.1 rfl)).trans ((Below.heap_alloc _ _ _ (Array.getElem?_eq_some_iff.1 HS4.out.o).1).trans HS4.out.o)
      obtain⟨y0,y1⟩:=C8 hx5;have hat2:∀q,(Value.slice (some ⟨g2,0,none⟩) kk cap2).ownBlock=some q->v'.ownBlock=some q\/W4.heap.size<=q:=fun q hq=>by
       rcases hat with h | h
       ·left;rw[<-h];exact hq
       ·right;rw[hq]at h;have:=Option.some.inj h
        first | (simp at this;omega) | omega
      have hown2:iA tG 2 92 w5 w.heap.size (.slice (some ⟨g2,0,none⟩) kk cap2) ((acc++D)++ [((m:Int),false)]):=by
       unfold iA;rw[List.length_append,List.length_append,List.length_singleton,cB,cE];exact hown'
      have HPU:=hW_ (HS4.out.push ((m:Int),false) hgrow hown2 hat2);have HVO2:Hid (∀ad,x.ao=some ad->(Value.slice (some ⟨g2,0,none⟩) kk cap2).ownBlock≠some ad.block):=hW_ (fun ad e h=>by
       rcases hat2 _ h with h1 | h1
       ·exact HVO.out ad e h1
       ·have:=HXL.out ad e;have:=HKF3.out.size;have:=HZ4.out;omega)
      have HKF2:=hW_ (kJ (sK (vM HK4.out (aA W4 (.cells #[.int .i64 (m:Int), .bool false] 92))) hgrow (World.ownsRow.alloc HS4.out.row _)) ⟨w2.heap.size,0,none⟩ (.slice (some ⟨g2,0,none⟩) kk cap2));have HXS2:Hid (∀ad,x.ao=some ad->(w5.setCell ⟨w2.heap.size,0,none⟩ (.slice (some ⟨g2,0,none⟩) kk cap2)).heap[ad.block]?=W.heap[ad.block]?):=hW_ (fun ad e=>by
       have h1:=HXL.out ad e;have h2:=HXO.out ad e;refine(Below.heap_setCell _ _ _ _ (by show ad.block≠w2.heap.size;omega)).trans ((hgrow.block _ (by have:=HKF3.out.size;have:=HZ4.out;simp;omega) (fun h=>HVO.out ad e h.symm)).trans ((Below.heap_alloc _ _ _ (by have:=HKF3.out.size;have:=HZ4.out;omega)).trans (HX4.out ad e))))
      clear hown' hgrow hat hx5 hat2 hown2 p0 p1 u0 u1 r0 r1 t0 t1;have hsl:=HSL.out;gi_wp2;go_roundw
      case rel=>
       refine⟨ro2,rn'-m,rc'-m,(c::rest').drop m,D++ [((m:Int),false)],false,(.slice (some ⟨g2,0,none⟩) kk cap2),rfl,by rw[List.length_drop,List.length_cons];have:=HRN.out;omega,by have:=HDL.out;rw[List.length_append,List.length_drop,List.length_cons];simp;omega,HSB2,hW_ (fun ad e=> ?_),hW_ (fun y hy=>HRY.out y (List.mem_of_mem_drop hy)),hW_ (by rw[<-List.append_assoc];exact HPU.out),HVO2,HXS2,HKF2,hW_ (by rw[<-HPP.out,HPC.out];simp),hW_ (by rw[<-HPS.out,HPC.out])⟩;obtain⟨a1,h1,h2⟩:=HSA2.out ad e;obtain⟨a0,h3,h4⟩:=HRA.out a1 h1;exact⟨a0,h3,h4.trans h2⟩
      case measure=>simp;omega
    | false=>
     obtain rfl:fb=final:=by rw[<-HFB.out,hbh];rfl
     gi_wp2_with (fail)
     refine(CallsIn.inRound l (callsIn_wide.2 HNX.out)).mono ?_
     rintro e W3 ⟨rfl,hb3⟩;have hs3:=HSI.out.on hb3;have HKF3:=hW_ (vM HKF.out hb3);have HXS3:Hid (∀ad,x.ao=some ad->W3.heap[ad.block]?=W.heap[ad.block]?):=hW_ (fun ad e=>(hb3.block _ (by have:=HXL.out ad e;have:=HKF.out.size;omega)).trans (HXS.out ad e));obtain⟨W4,hW4⟩:∃W4,W3.setCell ⟨w2.heap.size+1,0,none⟩ (.bool (s && d))=W4:=⟨_,rfl⟩;have hs4:=hs3.setS (s && d);have hz4:W4.heap.size=W3.heap.size:=by rw[<-hW4];simp
     have hk4:=kJ HKF3.out ⟨w2.heap.size+1,0,none⟩ (.bool (s && d));have hx4:∀ad,x.ao=some ad->W4.heap[ad.block]?=W.heap[ad.block]? :=fun ad e=>by
      rw[<-hW4];exact(Below.heap_setCell _ _ _ _ (by have:=HXO.out ad e;show ad.block≠w2.heap.size+1;omega)).trans (HXS3.out ad e)
     obtain⟨p0,p1⟩:=C8 hs3.s;obtain⟨u0,u1⟩:=C8 hs3.o;obtain⟨r0,r1⟩:=C8 hs4.s;obtain⟨t0,t1⟩:=C8 hs4.o;rw[hW4]at hs4 hk4;have HS4:=hW_ hs4;have HK4:=hW_ hk4;have HX4:=hW_ hx4;have HW4:=hW_ hW4;have HZ4:=hW_ hz4;clear hb3 hs3 hs4 hk4 hx4 hW4 hz4 k0 k1 k2
     cases s with
     | true=>
      simp only[Bool.true_and]at *;have HNW:Hid (∀j u,[Value.int .i64 (m:Int),Value.bool d][j]?=some u->(W4.alloc (.cells #[.int .i64 (m:Int), .bool d] 92)).cell? ((⟨W3.heap.size,0,none⟩:Addr).add j)=some u):=hW_ (by
       have:=World.news_of_block (cs:=#[.int .i64 (m:Int), .bool d]) (heap_alloc_new W4 (.cells #[.int .i64 (m:Int), .bool d] 92));rw[HZ4.out]at this;exact this)
      gi_wp2_with (gi_at_builtin;rw[HW4.out];go_loud (refine dC _ rfl _ _ 89 rfl w.heap.size 92 i0 z0 2 16 Tryz.underlying89 hci hz0 hz1 hz2 hz3 (by omega) _ _ _ rfl (World.ownsRow.alloc HS4.out.row _) ⟨W3.heap.size,0,none⟩ 1 1 [.int .i64 (m:Int), .bool d] rfl rfl HNW.out (by simp[Value.oneCell']) (by have:=HLN.out;unfold maxLen;omega) (by have:=HLN.out;omega) (by have:=HS4.out.below.size;simp;omega) ?_))
      intro v2 w5 hown' hgrow hat;obtain⟨g2,cap2,hv2⟩:=ownsRow_succ hown';obtain⟨kk,hkk⟩:∃kk,acc.length+D.length+1=kk:=⟨_,rfl⟩;have hv3:v2= .slice (some ⟨g2,0,none⟩) kk cap2:=by rw[hv2,<-hkk];try rfl
      subst hv3;clear hv2 hkk;have hx5:w5.heap[w2.heap.size]?=some (.cells #[v'] 89):=(hgrow.block _ (by have:=(Array.getElem?_eq_some_iff.1 HS4.out.o).1;simp;omega) (fun e=>(HS4.out.far _ e.symm).2.1 rfl)).trans ((Below.heap_alloc _ _ _ (Array.getElem?_eq_some_iff.1 HS4.out.o).1).trans HS4.out.o)
      obtain⟨y0,y1⟩:=C8 hx5;have hat2:∀q,(Value.slice (some ⟨g2,0,none⟩) kk cap2).ownBlock=some q->v'.ownBlock=some q\/W4.heap.size<=q:=fun q hq=>by
       rcases hat with h | h
       ·left;rw[<-h];exact hq
       ·right;rw[hq]at h;have:=Option.some.inj h
        first | (simp at this;omega) | omega
      have hown2:iA tG 2 92 w5 w.heap.size (.slice (some ⟨g2,0,none⟩) kk cap2) ((acc++D)++ [((m:Int),d)]):=by
       unfold iA;rw[List.length_append,List.length_append,List.length_singleton,cB,cE];exact hown'
      have HPU:=hW_ (HS4.out.push ((m:Int),d) hgrow hown2 hat2);have HVO2:Hid (∀ad,x.ao=some ad->(Value.slice (some ⟨g2,0,none⟩) kk cap2).ownBlock≠some ad.block):=hW_ (fun ad e h=>by
       rcases hat2 _ h with h1 | h1
       ·exact HVO.out ad e h1
       ·have:=HXL.out ad e;have:=HKF3.out.size;have:=HZ4.out;omega)
      have HKF2:=hW_ (kJ (sK (vM HK4.out (aA W4 (.cells #[.int .i64 (m:Int), .bool d] 92))) hgrow (World.ownsRow.alloc HS4.out.row _)) ⟨w2.heap.size,0,none⟩ (.slice (some ⟨g2,0,none⟩) kk cap2));have HXS2:Hid (∀ad,x.ao=some ad->(w5.setCell ⟨w2.heap.size,0,none⟩ (.slice (some ⟨g2,0,none⟩) kk cap2)).heap[ad.block]?=W.heap[ad.block]?):=hW_ (fun ad e=>by
       have h1:=HXL.out ad e;have h2:=HXO.out ad e;refine(Below.heap_setCell _ _ _ _ (by show ad.block≠w2.heap.size;omega)).trans ((hgrow.block _ (by have:=HKF3.out.size;have:=HZ4.out;simp;omega) (fun h=>HVO.out ad e h.symm)).trans ((Below.heap_alloc _ _ _ (by have:=HKF3.out.size;have:=HZ4.out;omega)).trans (HX4.out ad e))))
      clear hown' hgrow hat hx5 hat2 hown2 p0 p1 u0 u1 r0 r1 t0 t1;have hsl:=HSL.out;gi_wp2;go_roundw
      case rel=>
       refine⟨ro2,rn'-m,rc'-m,(c::rest').drop m,D++ [((m:Int),d)],d,(.slice (some ⟨g2,0,none⟩) kk cap2),rfl,by rw[List.length_drop,List.length_cons];have:=HRN.out;omega,by have:=HDL.out;rw[List.length_append,List.length_drop,List.length_cons];simp;omega,HSB2,hW_ (fun ad e=> ?_),hW_ (fun y hy=>HRY.out y (List.mem_of_mem_drop hy)),hW_ (by rw[<-List.append_assoc];exact HPU.out),HVO2,HXS2,HKF2,hW_ (by rw[<-HPP.out,HPC.out];simp),hW_ (by rw[<-HPS.out,HPC.out])⟩;obtain⟨a1,h1,h2⟩:=HSA2.out ad e;obtain⟨a0,h3,h4⟩:=HRA.out a1 h1;exact⟨a0,h3,h4.trans h2⟩
      case measure=>simp;omega
     | false=>
      simp only[Bool.false_and]at *;have HNW:Hid (∀j u,[Value.int .i64 (m:Int),Value.bool false][j]?=some u->(W4.alloc (.cells #[.int .i64 (m:Int), .bool false] 92)).cell? ((⟨W3.heap.size,0,none⟩:Addr).add j)=some u):=hW_ (by
       have:=World.news_of_block (cs:=#[.int .i64 (m:Int), .bool false]) (heap_alloc_new W4 (.cells #[.int .i64 (m:Int), .bool false] 92));rw[HZ4.out]at this;exact this)
      gi_wp2_with (gi_at_builtin;rw[HW4.out];go_loud (refine dC _ rfl _ _ 89 rfl w.heap.size 92 i0 z0 2 16 Tryz.underlying89 hci hz0 hz1 hz2 hz3 (by omega) _ _ _ rfl (World.ownsRow.alloc HS4.out.row _) ⟨W3.heap.size,0,none⟩ 1 1 [.int .i64 (m:Int), .bool false] rfl rfl HNW.out (by simp[Value.oneCell']) (by have:=HLN.out;unfold maxLen;omega) (by have:=HLN.out;omega) (by have:=HS4.out.below.size;simp;omega) ?_))
      intro v2 w5 hown' hgrow hat;obtain⟨g2,cap2,hv2⟩:=ownsRow_succ hown';obtain⟨kk,hkk⟩:∃kk,acc.length+D.length+1=kk:=⟨_,rfl⟩;have hv3:v2= .slice (some ⟨g2,0,none⟩) kk cap2:=by rw[hv2,<-hkk];try rfl
      subst hv3;clear hv2 hkk;have hx5:w5.heap[w2.heap.size]?=some (.cells #[v'] 89):=(hgrow.block _ (by have:=(Array.getElem?_eq_some_iff.1 HS4.out.o).1;simp;omega) (fun e=>(HS4.out.far _ e.symm).2.1 rfl)).trans ((Below.heap_alloc _ _ _ (Array.getElem?_eq_some_iff.1 HS4.out.o).1).trans HS4.out.o)
      obtain⟨y0,y1⟩:=C8 hx5;have hat2:∀q,(Value.slice (some ⟨g2,0,none⟩) kk cap2).ownBlock=some q->v'.ownBlock=some q\/W4.heap.size<=q:=fun q hq=>by
       rcases hat with h | h
       ·left;rw[<-h];exact hq
       ·right;rw[hq]at h;have:=Option.some.inj h
        first | (simp at this;omega) | omega
      have hown2:iA tG 2 92 w5 w.heap.size (.slice (some ⟨g2,0,none⟩) kk cap2) ((acc++D)++ [((m:Int),false)]):=by
       unfold iA;rw[List.length_append,List.length_append,List.length_singleton,cB,cE];exact hown'
      have HPU:=hW_ (HS4.out.push ((m:Int),false) hgrow hown2 hat2);have HVO2:Hid (∀ad,x.ao=some ad->(Value.slice (some ⟨g2,0,none⟩) kk cap2).ownBlock≠some ad.block):=hW_ (fun ad e h=>by
       rcases hat2 _ h with h1 | h1
       ·exact HVO.out ad e h1
       ·have:=HXL.out ad e;have:=HKF3.out.size;have:=HZ4.out;omega)
      have HKF2:=hW_ (kJ (sK (vM HK4.out (aA W4 (.cells #[.int .i64 (m:Int), .bool false] 92))) hgrow (World.ownsRow.alloc HS4.out.row _)) ⟨w2.heap.size,0,none⟩ (.slice (some ⟨g2,0,none⟩) kk cap2));have HXS2:Hid (∀ad,x.ao=some ad->(w5.setCell ⟨w2.heap.size,0,none⟩ (.slice (some ⟨g2,0,none⟩) kk cap2)).heap[ad.block]?=W.heap[ad.block]?):=hW_ (fun ad e=>by
       have h1:=HXL.out ad e;have h2:=HXO.out ad e;refine(Below.heap_setCell _ _ _ _ (by show ad.block≠w2.heap.size;omega)).trans ((hgrow.block _ (by have:=HKF3.out.size;have:=HZ4.out;simp;omega) (fun h=>HVO.out ad e h.symm)).trans ((Below.heap_alloc _ _ _ (by have:=HKF3.out.size;have:=HZ4.out;omega)).trans (HX4.out ad e))))
      clear hown' hgrow hat hx5 hat2 hown2 p0 p1 u0 u1 r0 r1 t0 t1;have hsl:=HSL.out;gi_wp2;go_roundw
      case rel=>
       refine⟨ro2,rn'-m,rc'-m,(c::rest').drop m,D++ [((m:Int),false)],false,(.slice (some ⟨g2,0,none⟩) kk cap2),rfl,by rw[List.length_drop,List.length_cons];have:=HRN.out;omega,by have:=HDL.out;rw[List.length_append,List.length_drop,List.length_cons];simp;omega,HSB2,hW_ (fun ad e=> ?_),hW_ (fun y hy=>HRY.out y (List.mem_of_mem_drop hy)),hW_ (by rw[<-List.append_assoc];exact HPU.out),HVO2,HXS2,HKF2,hW_ (by rw[<-HPP.out,HPC.out];simp),hW_ (by rw[<-HPS.out,HPC.out])⟩;obtain⟨a1,h1,h2⟩:=HSA2.out ad e;obtain⟨a0,h3,h4⟩:=HRA.out a1 h1;exact⟨a0,h3,h4.trans h2⟩
      case measure=>simp;omega
open Go
def rG (c:Int) (A:List Int) (k:Nat):List Rg:=(List.range k).map (fun j=>⟨ix A (2*j),ix A (2*j+1),c⟩)
theorem rC (c:Int) (A:List Int) (k:Nat):(rG c A k).length=k:=by simp[rG]
theorem aAL (c:Int) (A:List Int) (k:Nat):rG c A k++ [⟨ix A (2*k),ix A (2*k+1),c⟩]=rG c A (k+1):=by
 unfold rG;rw[List.range_succ,List.map_append];rfl
def us1:List Int:=[0x41,0x5a,0x61,0x7a,0xaa,0xaa,0xb5,0xb5,0xba,0xba,0xc0,0xd6,0xd8,0xf6,0xf8,0x2c1,0x370,0x373,0x376,0x377,0x37b,0x37d,0x37f,0x37f,0x386,0x386,0x388,0x3f5,0x3f7,0x481,0x48a,0x52f,0x531,0x556,0x561,0x587,0x5d0,0x5ea,0x620,0x64a,0x904,0x939,0xe01,0xe30,0x10a0,0x10ff,0x1100,0x1248,0x1e00,0x1fbc,0x3041,0x3096,0x30a1,0x30fa,0x4e00,0x9fff,0xac00,0xd7a3,0x20000,0x2a6df]
def us2:List Int:=[0x30,0x39,0xb2,0xb3,0xb9,0xb9,0xbc,0xbe,0x660,0x669,0x966,0x96f,0x2160,0x2188,0xff10,0xff19]
def us4:List Int:=[0xa,0xa,0xd,0xd]
def us3:List Int:=[0x9,0x9,0xb,0xc,0x20,0x20,0x85,0x85,0xa0,0xa0,0x1680,0x1680,0x2000,0x200a,0x2028,0x2029,0x202f,0x202f,0x205f,0x205f,0x3000,0x3000]
def usU:List Rg:=rG 1 us1 30++rG 2 us2 8++rG 4 us4 2++rG 3 us3 11
def U9 (S:List Rg) (r:Rg):List Rg:=S.takeWhile (fun x=>decide (x.lo<r.lo))++r::S.dropWhile (fun x=>decide (x.lo<r.lo))
theorem dZ {S:List Rg} {r:Rg} {k:Nat} (hk:k<=S.length) (h1:∀j,j<k->(rg S j).lo<r.lo) (h2:k=S.length\/¬(rg S k).lo<r.lo):U9 S r=S.take k++r::S.drop k:=by
 unfold U9;have e:S.takeWhile (fun x=>decide (x.lo<r.lo))=S.take k/\S.dropWhile (fun x=>decide (x.lo<r.lo))=S.drop k:=by
  induction S generalizing k with
  | nil=>simp at hk;subst hk;simp
  | cons x S ih=>
   cases k with
   | zero=>
    rcases h2 with h | h
    ·simp at h
    ·simp[rg]at h;simp[h]
   | succ k=>
    have h0:=h1 0 (by omega);simp[rg]at h0;have:=ih (k:=k) (by simp at hk;omega) (fun j hj=>by have:=h1 (j+1) (by omega);simpa[rg]using this) (by
     rcases h2 with h | h
     ·left;simpa using h
     ·right;simpa[rg]using h)
    simp[h0,this.1,this.2]
 rw[e.1,e.2]
def cM (L:List Rg) (k:Nat):List Rg:=(L.take k).foldl U9 []
theorem wM {L:List Rg} {k:Nat} (h:k<L.length):cM L (k+1)=U9 (cM L k) (rg L k):=by
 unfold cM;rw[List.take_add_one,rH h];simp
theorem aDN (S:List Rg) (r:Rg):(U9 S r).length=S.length+1:=by
 unfold U9;have:=congrArg List.length (List.takeWhile_append_dropWhile (p:=fun x:Rg=>decide (x.lo<r.lo)) (l:=S));rw[List.length_append]at this;rw[List.length_append,List.length_cons];omega
theorem U8 (L:List Rg):∀{k:Nat},k<=L.length->(cM L k).length=k
 | 0,_=>rfl
 | k+1,h=>by rw[wM h,aDN,U8 L (by omega)]
theorem pQ {t:List Rg} {to_:Option Addr} {tn tc:Nat} (w:World) (hR:SlF 3 w to_ tn tc (flat Rg.enc t)):
  Calls Tryz.prog 89 #[.slice to_ tn tc] w (aAj t w):=by
 have hm:=Nat.le_trans hR.le hR.max;unfold maxLen at hm;have HL:=hW_ (hR.count Rg.enc_len (by omega));have HR:=hW_ hR;clear hR
 by_cases h200:(200:Int)<tn
 ·have HF:Hid (false=true↔oA t):=hW_ (aAR (by have:=HL.out;omega));go_enter Tryz.func89,Tryz.ntmps89;go_wp2_with (fail);go_ret;exact⟨⟨_,rfl,HF.out⟩,Below.refl _ _⟩
 go_enter Tryz.func89,Tryz.ntmps89;go_wp2_with (fail);go_loopw [3,10] (fun v i wr=>∃(k:Nat) (la:Int),k<=tn/\i= .int .i64 k/\v= .int .i64 la/\Hid ((k=0/\la= -1)\/(0<k/\la=(rg t (k-1)).hi))/\Hid (yJ t k)/\Below w.heap.size w wr) (fun _ i _=>tn-(intOf i).toNat)
 case atStart=>exact⟨0,-1,Nat.zero_le _,rfl,rfl,hW_ (.inl ⟨rfl,rfl⟩),hW_ (yJ.zero t),Below.refl _ _⟩
 case round=>
  obtain⟨k,la,hk,rfl,rfl,HLA,HT,hb⟩:=hrel;have HB:=hW_ hb;clear hb
  by_cases hlt:k<tn
  ·have hkT:k<t.length:=by have:=HL.out;omega
   obtain⟨b,of,rfl,hce⟩:=(HR.out.below HB.out).elem Rg.enc_len (by omega) (rH hkT);obtain⟨⟨lo,hi,cl⟩,hseq⟩:∃m,rg t k=m:=⟨_,rfl⟩;rw[hseq]at hce;have d0:=hce 0 _ rfl;have d1:=hce 1 _ rfl;have d2:=hce 2 _ rfl;rw[Nat.add_zero]at d0;simp only at d0 d1 d2;have HRK:=hW_ hseq;have gk:(k:Int)<(tn:Int):=by omega
   clear hce hseq
   by_cases r0:lo<=la
   ·have g0:decide (lo<=la)=true:=by simpa using r0
    have HF:Hid (false=true↔oA t):=hW_ (by
     rcases HLA.out with⟨e1,e2⟩ | ⟨e1,e2⟩
     ·exact eD hkT (by rw[HRK.out];unfold J6;simp only;omega)
     ·exact P5 e1 hkT (by rw[HRK.out];simp only;omega))
    clear r0;go_wp2_with (fail);go_quiet (fail);go_wp2_with (fail);go_ret;exact⟨⟨_,rfl,HF.out⟩,bA HB.out _⟩
   have g0:decide (lo<=la)=false:=by simpa using r0
   by_cases r1:hi<lo
   ·have g1:decide (hi<lo)=true:=by simpa using r1
    have HF:=hW_ (eD hkT (by rw[HRK.out];unfold J6;simp only;omega));clear r0 r1;go_wp2_with (fail);go_quiet (fail);go_wp2_with (fail);go_ret;exact⟨⟨_,rfl,HF.out⟩,bA HB.out _⟩
   have g1:decide (hi<lo)=false:=by simpa using r1
   by_cases r2:1114111<hi
   ·have g2:decide (1114111<hi)=true:=by simpa using r2
    have HF:=hW_ (eD hkT (by rw[HRK.out];unfold J6;simp only;omega));clear r0 r1 r2;go_wp2_with (fail);go_quiet (fail);go_wp2_with (fail);go_ret;exact⟨⟨_,rfl,HF.out⟩,bA HB.out _⟩
   have g2:decide (1114111<hi)=false:=by simpa using r2
   by_cases r3:cl<1
   ·have g3:decide (cl<1)=true:=by simpa using r3
    have HF:=hW_ (eD hkT (by rw[HRK.out];unfold J6;simp only;omega));clear r0 r1 r2 r3;go_wp2_with (fail);go_quiet (fail);go_wp2_with (fail);go_ret;exact⟨⟨_,rfl,HF.out⟩,bA HB.out _⟩
   have g3:decide (cl<1)=false:=by simpa using r3
   by_cases r4:4<cl
   ·have g4:decide (4<cl)=true:=by simpa using r4
    have HF:=hW_ (eD hkT (by rw[HRK.out];unfold J6;simp only;omega));clear r0 r1 r2 r3 r4;go_wp2_with (fail);go_quiet (fail);go_wp2_with (fail);go_ret;exact⟨⟨_,rfl,HF.out⟩,bA HB.out _⟩
   have g4:decide (4<cl)=false:=by simpa using r4
   have HT2:Hid (yJ t (k+1)):=hW_ (HT.out.next (by
    rw[HRK.out];unfold J6;simp only;rcases HLA.out with⟨e1,e2⟩ | ⟨e1,e2⟩
    ·omega
    ·have h3:=(HT.out.ok (k-1) (by omega)).1;have h4:=(HT.out.ok (k-1) (by omega)).2.1;omega) (fun h=>by
    rcases HLA.out with⟨e1,e2⟩ | ⟨e1,e2⟩
    ·omega
    ·rw[<-e2,HRK.out];simp only;omega))
   have HLA2:Hid ((k+1=0/\hi= -1)\/(0<k+1/\hi=(rg t (k+1-1)).hi)):=hW_ (.inr ⟨by omega,by rw[show k+1-1=k by omega,HRK.out]⟩);clear r0 r1 r2 r3 r4;go_wp2_with (fail);go_quiet (fail);go_wp2_with (fail);go_roundw
   case rel=>exact⟨k+1,hi,by omega,by go_num,rfl,HLA2,HT2,bA HB.out _⟩
   case measure=>simp[intOf];omega
  ·have HF:Hid (oA t):=hW_ (HT.out.all (by have:=HL.out;omega) (by have:=HL.out;omega));go_wp2_with (fail);go_ret;exact⟨⟨true,rfl,(fun _=>HF.out),(fun _=>rfl)⟩,HB.out⟩
end Go.Proofs.YtahiballegpbgaaGreatDoor
