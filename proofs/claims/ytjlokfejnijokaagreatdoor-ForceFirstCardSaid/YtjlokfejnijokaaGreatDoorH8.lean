/- A map to ints: what 'm[a], m[b] = x, y' does where both keys are there; and 'delete'. Plain lemmas. -/
import Derived.Test.YtjlokfejnijokaaGreatDoorH1
import Derived.Test.YtjlokfejnijokaaGreatDoorH7
import Derived.RegionTactic
import Derived.Deep.DeepCutAuto
import Derived.Laws.ResultCell
set_option linter.unusedVariables false
set_option maxHeartbeats 4000000
set_option maxRecDepth 100000
namespace Go.Proofs.YtjlokfejnijokaaGreatDoor
open Go.RowKit Go.Maps Go.ChangeMaps Go.WideMaps
set_option linter.unusedSimpArgs false
section
variable {P:Program} {k t e:TypeId} {α:Type} {V:qB P k α}
def sF (V:qB P k α) (e:TypeId) (w:World) (mb sz:Nat) (f:α->Option Int) (st:α->Nat):Prop:=
 ∃es clock,w.heap[mb]?=some (.map es clock)/\sA V e w mb sz f/\∀s,V.ok s->(f s).isSome=true->∃x∈es.toList,x.key=V.val s/\st s=x.born
theorem sF.rep {w:World} {mb sz:Nat} {f:α->Option Int} {st:α->Nat} (h:sF V e w mb sz f st):sA V e w mb sz f:=let ⟨_,_,_,h1,_⟩:=h;h1
theorem sA.stamped (ht:P.underlying t=some (.map k e)) (he:P.underlying e=some (.int .i64)) (hz:∀w:World,(zeroValue e).run P w= .ok (.int .i64 0) w) {w:World} {mb sz:Nat} {f:α->Option Int} (h:sA V e w mb sz f):∃st,sF V e w mb sz f st:=by
 have hm:=h;obtain⟨D,h1,h2,h3,h4⟩:=h;have h1':=h1;obtain⟨es,clock,hb,F,hsz,hD⟩:=h1;have key:∀s,V.ok s->(f s).isSome=true->∃x∈es.toList,x.key=V.val s:=fun s hs hf=>by
  rcases V.keyed.find w (V.key s hs) es.toList F.keys with⟨hn,_⟩ | ⟨j,e0,h5,h6,h7⟩
  ·obtain⟨v,ps,hrun,_⟩:=h1'.look_ok V.keyed ht (hz w) (plainElem_int he (by decide)) (V.key s hs);rw[(h4 s hs).1,hf]at hrun;simp[Instr.lookup,run_underlying ht,MapKept.run_getObj_map hb,V.keyed.check w _ (V.key s hs),hn,hz w,Result.andThen]at hrun
  ·exact⟨e0,List.mem_of_getElem? (show es.toList[j]?=some e0 from h6),h7⟩
 refine⟨fun s=>open Classical in if h:∃x∈es.toList,x.key=V.val s then h.choose.born else 0,es,clock,hb,hm,fun s hs hf=> ?_⟩;have h8:=key s hs hf;refine⟨h8.choose,h8.choose_spec.1,h8.choose_spec.2,?_⟩;simp only[dif_pos h8]
theorem sF.find {w:World} {mb sz:Nat} {f:α->Option Int} {es:Array MapEntry} {clock:Nat} (hb:w.heap[mb]?=some (.map es clock)) (h:sA V e w mb sz f) {s:α} (hs:V.ok s) {x:MapEntry} (hxm:x∈es.toList) (hxk:x.key=V.val s):
  (es.toList.map (·.born)).Nodup/\∃j,es[j]?=some x/\∀W:World,(Instr.findKey k (V.val s) es.toList).run P W= .ok (some (j,x.val)) W:=by
 obtain⟨D,⟨es',clock',hb',F,hsz,hD⟩,_⟩:=h;rw[hb]at hb'
 cases hb'
 obtain⟨j,hj⟩:∃j,es[j]?=some x:=by
  obtain⟨j,hj,rfl⟩:=List.getElem_of_mem hxm;exact⟨j,by simp at hj;exact Array.getElem?_eq_getElem hj⟩
 have hjl:=(Array.getElem?_eq_some_iff.1 hj).1;have hnd:=F.stamped.2.2;refine⟨F.stamped.2.1,j,hj,fun W=> ?_⟩;rcases V.keyed.find W (V.key s hs) es.toList F.keys with⟨_,h2⟩ | ⟨j',e0,h1,h2,h3⟩
 ·exact absurd hxk (h2 x hxm)
 ·have hjj:j'=j:=by
   have hj':es[j']?=some e0:=by simpa using h2
   have hjl':=(Array.getElem?_eq_some_iff.1 hj').1;rcases Nat.lt_trichotomy j' j with h4 | h4 | h4
   ·have:=(List.pairwise_iff_getElem.1 hnd) j' j (by simpa using hjl') (by simpa using hjl) h4;simp only[List.getElem_map,Array.getElem_toList]at this;rw[(Array.getElem?_eq_some_iff.1 hj).2,(Array.getElem?_eq_some_iff.1 hj').2,hxk,h3]at this;exact absurd rfl this
   ·exact h4
   ·have:=(List.pairwise_iff_getElem.1 hnd) j j' (by simpa using hjl) (by simpa using hjl') h4;simp only[List.getElem_map,Array.getElem_toList]at this;rw[(Array.getElem?_eq_some_iff.1 hj).2,(Array.getElem?_eq_some_iff.1 hj').2,hxk,h3]at this;exact absurd rfl this
  subst hjj;have hj':es[j']?=some e0:=by simpa using h2
  rw[hj]at hj'
  cases hj'
  exact h1
theorem nR {W:World} {mb:Nat} {o:Obj} (h:W.heap[mb]?=some o):ChangeMaps.setBlock W mb o=W:=by
 have e:W.heap.setIfInBounds mb o=W.heap:=by
  apply Array.ext_getElem?;intro i;rw[Array.getElem?_setIfInBounds];split
  ·rename_i h1;subst h1;rw[if_pos (Array.getElem?_eq_some_iff.1 h).1,h]
  ·rfl
 unfold ChangeMaps.setBlock;rw[e]
theorem sF.entry (ht:P.underlying t=some (.map k e)) (he:P.underlying e=some (.int .i64)) (hz:∀w:World,(zeroValue e).run P w= .ok (.int .i64 0) w) {w:World} {mb sz:Nat} {f:α->Option Int} {st:α->Nat} (h:sF V e w mb sz f st) {s:α} (hs:V.ok s) {c:Int} (hf:f s=some c):
  (Instr.mapEntry t (.map (some mb)) (V.val s)).run P w= .ok (.tuple #[.int .i64 c,goInt (st s)]) w:=by
 obtain⟨es,clock,hb,hm,hst⟩:=h;obtain⟨x,hxm,hxk,hxs⟩:=hst s hs (by rw[hf];rfl);obtain⟨hnd,j,hj,hfind⟩:=sF.find hb hm hs hxm hxk;have hjl:=(Array.getElem?_eq_some_iff.1 hj).1;have hkey:=V.key s hs;have hmod:es.modify j (fun e=>{e with key:=V.val s})=es:=by
  apply Array.ext
  ·simp
  ·intro i h1 h2;rw[Array.getElem_modify];split
   ·subst i;have:es[j]=x:=(Array.getElem?_eq_some_iff.1 hj).2;rw[this,<-hxk]
   ·rfl
 have hstay:∀W:World,(Instr.keyThatStays x.key (V.val s)).run P W= .ok (V.val s) W:=fun W=>by
  rw[hxk];exact V.keyed.stays W hkey
 have hg:=sA.get (s:=s) ht he hz hm hs;have hv:x.val= .int .i64 c:=by
  rw[hf]at hg;simp[Instr.lookup,run_underlying ht,MapKept.run_getObj_map hb,V.keyed.check w _ hkey,hfind,Result.andThen]at hg;exact hg
 have hsame:({w with heap:=w.heap.setIfInBounds mb (.map es clock)}:World)=w:=nR hb;simp[Instr.mapEntry,run_underlying ht,MapKept.run_getObj_map hb,V.keyed.check w false hkey,hfind w,hstay w,hmod,MapKept.run_setObj_map _ hb,Result.andThen,hj,hsame,hv,hxs,ChangeMaps.setBlock]
theorem sF.store [DecidableEq α] (ht:P.underlying t=some (.map k e)) (he:P.underlying e=some (.int .i64)) {w:World} {mb sz:Nat} {f:α->Option Int} {st:α->Nat} (h:sF V e w mb sz f st) {s:α} (hs:V.ok s) (hf:(f s).isSome=true) {c:Int} (hc:(Lit.int .i64 c).wf=true) (hn:sz<maxLen):
  ∃o,(Instr.entryStore t (.map (some mb)) (goInt (st s)) (.int .i64 c)).run P w= .ok () (ChangeMaps.setBlock w mb o)/\sF V e (ChangeMaps.setBlock w mb o) mb sz (fun t=>if t=s then some c else f t) st:=by
 obtain⟨es,clock,hb,hm,hst⟩:=h;obtain⟨x,hxm,hxk,hxs⟩:=hst s hs hf;obtain⟨hnd,j,hj,hfind⟩:=sF.find hb hm hs hxm hxk;have hjl:=(Array.getElem?_eq_some_iff.1 hj).1;have hkey:=V.key s hs;have hstay:∀W:World,(Instr.keyThatStays x.key (V.val s)).run P W= .ok (V.val s) W:=fun W=>by
  rw[hxk];exact V.keyed.stays W hkey
 have hmod2:(es.modify j fun e=>{e with key:=V.val s,val:= .int .i64 c})=es.modify j (fun e=>{e with val:= .int .i64 c}):=by
  apply Array.ext
  ·simp
  ·intro i h1 h2;rw[Array.getElem_modify,Array.getElem_modify];split
   ·subst i;have:es[j]=x:=(Array.getElem?_eq_some_iff.1 hj).2;rw[this,<-hxk]
   ·rfl
 obtain⟨w',hrun,hm',hg'⟩:=sA.update (s:=s) ht he hm hs hc hn;have hrun2:(Instr.mapUpdate t (.map (some mb)) (V.val s) (.int .i64 c)).run P w= .ok () (ChangeMaps.setBlock w mb (.map (es.modify j (fun e=>{e with val:= .int .i64 c})) clock)):=by
  simp[Instr.mapUpdate,run_underlying ht,MapKept.run_getObj_map hb,V.keyed.check w false hkey,hfind w,hj,hstay w,hmod2,MapKept.run_setObj_map _ hb,Result.andThen,ChangeMaps.setBlock]
 rw[hrun]at hrun2;have hw':w'=_:=(Result.ok.inj hrun2).2;subst hw';refine⟨.map (es.modify j (fun e=>{e with val:= .int .i64 c})) clock,?_,_,_,heap_setBlock_same hb _,by rw[hf]at hm';exact hm',fun s' hs' hf'=> ?_⟩
 ·rw[hxs];simp[Instr.entryStore,MapKept.run_getObj_map hb,MapKept.run_setObj_map _ hb,Result.andThen,ChangeMaps.setBlock,goInt,asInt,asIntOf,K9 hnd hj]
 ·have hf2:(f s').isSome=true:=by
   by_cases e1:s'=s
   ·subst e1;exact hf
   ·simpa[e1]using hf'
  obtain⟨x',hxm',hxk',hxs'⟩:=hst s' hs' hf2;obtain⟨i,hi,rfl⟩:=List.getElem_of_mem hxm';simp only[Array.length_toList]at hi;refine⟨(es.modify j (fun e=>{e with val:= .int .i64 c}))[i]'(by simpa using hi),Array.getElem_mem_toList _,?_,?_⟩
  ·rw[Array.getElem_modify];split<;>simpa using hxk'
  ·rw[Array.getElem_modify];split<;>simpa using hxs'
theorem sA.del [DecidableEq α] (ht:P.underlying t=some (.map k e)) {w:World} {mb sz:Nat} {f:α->Option Int} (h:sA V e w mb sz f) {s:α} (hs:V.ok s) (ty:TypeId):
  ∃w',(Builtin.delete_ #[t,k] ty #[.map (some mb),V.val s]).run P w= .ok (.tuple #[]) w'/\sA V e w' mb (if(f s).isSome then sz-1 else sz) (fun t=>if t=s then none else f t)/\w.mapTurned w' mb:=by
 obtain⟨D,h1,h2,h3,h4⟩:=h;obtain⟨w',hrun,hown,hturn⟩:=h1.drop V.keyed ht (V.key s hs) ty;have e1:size (D.del (V.lit s))=if(f s).isSome then sz-1 else sz:=by
  have:=size_del (k:=V.lit s) h2;rw[(h4 s hs).1,h3]at this;split at this<;>simp_all<;>omega
 refine⟨w',hrun,⟨D.del (V.lit s),?_,h2.del _,e1,fun t ht'=> ?_⟩,hturn⟩
 ·have:=fH hown;rw[e1]at this;exact this
 ·by_cases e2:t=s
  ·subst e2;simp only[if_true,Option.isSome_none];exact⟨has_del_same,fun c' hc'=>by cases hc'⟩
  ·have hne:V.lit t≠V.lit s:=fun h=>e2 (V.inj t s ht' hs h)
   simp only[e2,if_false];rw[has_del_other hne];exact⟨(h4 t ht').1,fun c' hc'=>by rw[atKey_del_other hne];exact(h4 t ht').2 c' hc'⟩
theorem sA.getOk (ht:P.underlying t=some (.map k e)) (he:P.underlying e=some (.int .i64)) (hz:∀w:World,(zeroValue e).run P w= .ok (.int .i64 0) w) {w:World} {mb sz:Nat} {f:α->Option Int} (h:sA V e w mb sz f)
  {s:α} (hs:V.ok s):(Instr.lookup t (.map (some mb)) (V.val s) true).run P w= .ok (.tuple #[.int .i64 ((f s).getD 0), .bool (f s).isSome]) w:=by
 obtain⟨D,h1,h2,h3,h4⟩:=h;obtain⟨v,ps,hrun,hv⟩:=h1.look_ok V.keyed ht (hz w) (plainElem_int he (by decide)) (V.key s hs);obtain⟨c,rfl,hc,_⟩:=plainElem_int_inv he hv;have hat:=congrArg Prod.fst hc;have hh:=h4 s hs;rw[hh.1]at hrun;have hcc:c=(f s).getD 0:=by
  cases hf:f s with
  | none=>
   rw[hf]at hh;rw[atKey_of_not_has (by simpa using hh.1)]at hat;simpa using hat.symm
  | some c'=>
   have:=hh.2 c' hf;rw[this]at hat;simpa using hat.symm
 rw[<-hcc];exact hrun
end
open Go.RowKit
theorem infoStr9:(Tryz.prog.info? 9).map (fun i=>(i.zero,i.size,i.bytes))=some (some (.string ByteArray.empty),1,16):=by kernel_rfl
theorem vC:(Tryz.prog.info? 3).map (fun i=>(i.zero,i.size,i.bytes))=some (some (.int .i64 0),1,8):=by kernel_rfl
abbrev jD (w:World) (base:Nat) (v:Value) (T:List ByteArray):Prop:=w.ownsRow base 9 1 v T.length (T.map .string)
theorem aBt {P:Program} (t e:TypeId) (i:TypeInfo) (z:Value) (ht:P.underlying t=some (.slice e)) (hi:P.info? e=some i) (hz:i.zero=some z) (hs:i.size=1)
  (n:Nat) (hbytes:i.bytes*n<=281474976710656) (h63:n<=9223372036854775807) (w:World):
  (Instr.makeSlice t (.int .i64 (n:Int)) (.int .i64 (n:Int))).run P w= .ok (.slice (some ⟨w.heap.size,0,none⟩) n n) (w.alloc (.cells (madeCells z.cells n) e)):=by
 have hb:(i.bytes:Int)*(n:Int)<=281474976710656:=by
  have h:((i.bytes*n:Nat):Int)<=281474976710656:=by omega
  rwa [Int.natCast_mul]at h
 have hr:=run_make (P:=P) w t e i z ht hi hz .i64 .i64 n n (by omega) (by omega) hb (by omega);simp only[Int.toNat_natCast,hs,Nat.mul_one]at hr;exact hr
theorem aBy (w:World) (n:Nat) (hm:n<=maxLen):jD (w.alloc (.cells (madeCells (Value.string ByteArray.empty).cells n) 9)) w.heap.size (.slice (some ⟨w.heap.size,0,none⟩) n n) (List.replicate n ByteArray.empty):=by
 have e:(madeCells (Value.string ByteArray.empty).cells n)=(List.replicate n (Value.string ByteArray.empty)).toArray:=by
  apply Array.ext';exact toList_madeCells_one _ n
 rw[e];refine⟨by simp, .inr ⟨w.heap.size,n,_,by simp,Nat.le_refl _,heap_alloc_new w _,by simp,hm,by simp,?_⟩⟩;simp
theorem jD.mono {w:World} {base base':Nat} {v:Value} {L:List ByteArray} (h:jD w base v L) (hb:base'<=base):jD w base' v L:=by
 obtain⟨h1,h2⟩:=h;refine⟨h1,?_⟩;rcases h2 with h2 | ⟨g,cap,cur,hv,hg,r⟩
 ·exact .inl h2
 ·exact .inr ⟨g,cap,cur,hv,by omega,r⟩
theorem jD.below {w w':World} {base:Nat} {v:Value} {L:List ByteArray} (h:jD w base v L) (hb:Below w.heap.size w w'):jD w' base v L:=
 oA h fun g hg=>hb.block g (World.ownsRow.lt h g hg).2
theorem Mg.enc_one (x:Mg):∀v∈x.enc,v.oneCell'=true:=by
 intro v hv;simp[Mg.enc]at hv;rcases hv with rfl | rfl | rfl | rfl<;>rfl
theorem Sp.enc_one (x:Sp):∀v∈x.enc,v.oneCell'=true:=by
 intro v hv;simp[Sp.enc]at hv;rcases hv with rfl | rfl<;>rfl
theorem infoSp:(Tryz.prog.info? 126).map (fun i=>(i.zero.map (·.cells.size),i.size,i.bytes))=some (some 2,2,24):=by kernel_rfl
theorem infoMg:(Tryz.prog.info? 185).map (fun i=>(i.zero.map (·.cells.size),i.size,i.bytes))=some (some 4,4,32):=by kernel_rfl
theorem uB {t:TypeId} {k m b:Nat} (h:(Tryz.prog.info? t).map (fun i=>(i.zero.map (·.cells.size),i.size,i.bytes))=some (some k,m,b)):∃i z,Tryz.prog.info? t=some i/\i.zero=some z/\i.size=m/\i.bytes=b/\z.cells.size=k:=by
 cases hi:Tryz.prog.info? t with
 | none=>rw[hi]at h;cases h
 | some i=>
  rw[hi]at h;simp only[Option.map_some,Option.some.injEq,Prod.mk.injEq]at h;obtain⟨h1,h2,h3⟩:=h
  cases hz:i.zero with
  | none=>rw[hz]at h1;cases h1
  | some z=>rw[hz]at h1;exact⟨i,z,rfl,hz,h2,h3,by simpa using h1⟩
theorem lL {α:Type} {enc:α->List Value} {s:Nat} {t:TypeId} {w:World} {base n cap:Nat} {ao:Option Addr} {L:List α} (h:dA enc s t w base (.slice ao n cap) L):SlF s w ao n cap (flat enc L):=by
 obtain⟨a,c,e,hs⟩:=h.sl;simp only[Value.slice.injEq]at e;obtain⟨rfl,h1,rfl⟩:=e;rw[h1];exact hs
theorem R8 {w:World} {g:Nat} {x y z:Value} {t:TypeId} (h:w.heap[g]?=some (.cells #[x,y,z] t)):(∀o,w.frozen? ⟨g,o,none⟩=false):=by
 intro o;simp[World.frozen?,h]
theorem dK (w:World) (g:Nat) (x y z:Value) {q:Nat} (h:q≠g):(((w.setCell ⟨g,0,none⟩ x).setCell ⟨g,1,none⟩ y).setCell ⟨g,2,none⟩ z).heap[q]?=w.heap[q]? :=by
 simp[World.setCell,Array.getElem?_modify,Ne.symm h]
def lG:Vd:=⟨none,0,0,none,0,0,none,0,0⟩
theorem F8 {w:World} {base:Nat} {v:Value} {T:List ByteArray} (h:jD w base v T):∃ao cap,v= .slice ao T.length cap/\SlS w ao T.length cap T:=Sl.of_own h
def oI (R:List Rw) (S:List Sp):Prop:=qF R S/\May (jS R S)
open Go.RowKit Go.Sort
theorem pN {α:Type} {enc:α->List Value} {s:Nat} (hs:∀x,(enc x).length=s):∀(L:List α) (k:Nat),flat enc (L.take k)=(flat enc L).take (k*s)
 | [],k=>by simp[flat]
 | y::L,0=>by simp[flat]
 | y::L,k+1=>by
  rw[fD,List.take_succ_cons,fD,pN hs L k];have e:(k+1)*s=(enc y).length+k*s:=by rw[hs,Nat.add_mul];omega
  rw[e,List.take_length_add_append]
theorem SlF.take {s:Nat} {w:World} {ao:Option Addr} {n cap:Nat} {xs:List Value} (h:SlF s w ao n cap xs) {k:Nat} (hk:k<=n):SlF s w ao k cap (xs.take (k*s)):=by
 have hl:=h.len;refine⟨by rw[List.length_take,hl];exact Nat.min_eq_left (Nat.mul_le_mul_right s hk),by have:=h.le;omega,h.max,h.nil,fun i u hu=> ?_⟩;rw[List.getElem?_take]at hu;split at hu
 ·exact h.at_ i u hu
 ·cases hu
theorem zB {α:Type} {enc:α->List Value} {s:Nat} {e:TypeId} {P:Program} {w:World} {ops:Array Oper} {rest:List Oper} {o:Oper} {a:Act} {Q:Exit->Act->World->Prop} (hgd:o.guard= .none) (t:TypeId) (x l:Operand)
  (ho:o.op= .slice t x .none (some l) .none) (i:TypeInfo) (ht:P.underlying t=some (.slice e)) (hi:P.info? e=some i) (hs:∀x,(enc x).length=s)
  {ao:Option Addr} {n cap:Nat} {L:List α} (hx:a.eval x= .slice ao n cap) (hS:SlF s w ao n cap (flat enc L)) {kl:IntKind} {K:Int} {k:Nat} (hl:a.eval l= .int kl K) (hL:K=(k:Int)) (hk:k<=n)
  (h:SlF s w ao k cap (flat enc (L.take k))->wpList P ops Q rest (a.put o.dst (.slice ao k cap)) w):wpList P ops Q (o::rest) a w:=by
 subst hL;have hle:=hS.le;refine F0 hgd (v:= .slice ao k cap) (w':=w) ?_ (h (by rw[pN hs];exact hS.take hk))
 have hr:=gC ht hi w ao n cap .none (some (.int kl k)) 0 k (fun w=>by simp[Instr.sliceBounds,run_sliceBound,Nat.le_trans hk hle]);simp only[execOp,ho,hx,hl,Option.map_some,Option.map_none,Sem.run_bind,hr,Result.andThen_ok,Sem.run_pure,Nat.zero_mul];congr 3
 cases ao<;>simp[Addr.add]
theorem aBc (a b:Mg) (w:World):
  Calls Tryz.prog 175 #[.agg #[.int .i64 a.left, .int .i64 a.right, .int .i64 a.out, .int .i64 a.order], .agg #[.int .i64 b.left, .int .i64 b.right, .int .i64 b.out, .int .i64 b.order]] w
   fun e w'=>e= .returned (.bool (ahead a b))/\∃q os,w'=grow (w.drewN q) os:=by
 obtain⟨w1,hw1⟩:∃w1,w.alloc (.cells #[.int .i64 a.left, .int .i64 a.right, .int .i64 a.out, .int .i64 a.order] 185)=w1:=⟨_,rfl⟩;obtain⟨w2,hw2⟩:∃w2,w1.alloc (.cells #[.int .i64 b.left, .int .i64 b.right, .int .i64 b.out, .int .i64 b.order] 185)=w2:=⟨_,rfl⟩;have hb1:Below w.heap.size w w1:=hw1▸aA w _;have hb2:Below w1.heap.size w1 w2:=hw2▸aA w1 _;have hs1:w1.heap.size=w.heap.size+1:=by rw[<-hw1];simp
 have ha1:w1.heap[w.heap.size]?=some (.cells #[.int .i64 a.left, .int .i64 a.right, .int .i64 a.out, .int .i64 a.order] 185):=by rw[<-hw1];exact heap_alloc_new w _
 have ha2:=(hb2.block w.heap.size (by omega)).trans ha1;have hbb:w2.heap[w1.heap.size]?=some (.cells #[.int .i64 b.left, .int .i64 b.right, .int .i64 b.out, .int .i64 b.order] 185):=by rw[<-hw2];exact heap_alloc_new w1 _
 obtain⟨a0,a1,_,a3⟩:=iG ha2;obtain⟨b0,b1,_,b3⟩:=iG hbb;have HG:Hid (∃q os,w2=grow (w.drewN q) os):=hW_ ⟨0,#[.cells #[.int .i64 a.left, .int .i64 a.right, .int .i64 a.out, .int .i64 a.order] 185, .cells #[.int .i64 b.left, .int .i64 b.right, .int .i64 b.out, .int .i64 b.order] 185],by
  rw[<-hw2,<-hw1,alloc_eq_grow,alloc_eq_grow,grow_grow];rfl⟩
 have H1:=hW_ hw1;have H2:=hW_ hw2;have hq:ahead a b=decide (a.order<b.order\/(a.order=b.order/\(a.left<b.left\/(a.left=b.left/\a.right<b.right)))):=rfl;have HQ:=hW_ hq;rw[hs1]at b0 b1 b3;clear hb1 hb2 hs1 ha1 ha2 hbb hw1 hw2 hq
 by_cases ho:a.order=b.order
 ·have n1:(a.order != b.order)=false:=by simpa using ho
  by_cases hl:a.left=b.left
  ·have n2:(a.left != b.left)=false:=by simpa using hl
   have HF:Hid (ahead a b=decide (a.right<b.right)):=hW_ (by rw[HQ.out];simp[ho,hl]);clear ho hl;go_enter Tryz.func175,Tryz.ntmps175;go_wp2_with (fail);rw[H1.out,H2.out];go_ret;exact⟨lA HF.out.symm,HG.out⟩
  ·have n2:(a.left != b.left)=true:=by simpa using hl
   have HF:Hid (ahead a b=decide (a.left<b.left)):=hW_ (by rw[HQ.out];simp[ho,hl]);clear ho hl;go_enter Tryz.func175,Tryz.ntmps175;go_wp2_with (fail);rw[H1.out,H2.out];go_ret;exact⟨lA HF.out.symm,HG.out⟩
 ·have n1:(a.order != b.order)=true:=by simpa using ho
  have HF:Hid (ahead a b=decide (a.order<b.order)):=hW_ (by rw[HQ.out];simp[ho]);clear ho;go_enter Tryz.func175,Tryz.ntmps175;go_wp2_with (fail);rw[H1.out,H2.out];go_ret;exact⟨lA HF.out.symm,HG.out⟩
def iK (M:List Mg):Prop:=M.Pairwise (fun a b=>ahead b a=false)
def PutPost (M:List Mg) (m:Mg) (w:World) (e:Ending) (w':World):Prop:=
 (∃v M',e= .returned v/\dA Mg.enc 4 185 w' w.heap.size v M'/\M'.Perm (M++ [m])/\(iK M->iK M'))/\Below w.heap.size w w'
theorem gO {M:List Mg} {m:Mg} {k:Nat} (h1:∀j,j<k->ahead (mg M j) m=true) (hk:k<=M.length) (h2:k=M.length\/ahead (mg M k) m=false) (hs:iK M):iK (M.take k++m::M.drop k):=by
 refine lQ (lt:=ahead) (fun a b c=>M0) hs (fun j x hj hx=> ?_) (fun x hx=> ?_)
 ·rw[gF (by omega)]at hx;simp only[Option.some.injEq]at hx;subst hx;exact Q0 _ _ (h1 j hj)
 ·rcases h2 with rfl | h2
  ·rw[List.getElem?_eq_none (Nat.le_refl _)]at hx;cases hx
  ·have hlt:=(List.getElem?_eq_some_iff.1 hx).1;rw[gF hlt]at hx;simp only[Option.some.injEq]at hx;subst hx;exact h2
theorem Y5 {M:List Mg} {mo:Option Addr} {mn mc:Nat} (l r o d:Int) (w:World) (hM:SlF 4 w mo mn mc (flat Mg.enc M)) (hn:mn<=300000):
  Calls Tryz.prog 126 #[.slice mo mn mc, .agg #[.int .i64 l, .int .i64 r, .int .i64 o, .int .i64 d]] w (PutPost M ⟨l,r,o,d⟩ w):=by
 obtain⟨i0,z0,hi,hz0,hz1,hz2,hz3⟩:=uB infoMg;obtain⟨w0,hw0⟩:∃w0,w.alloc (.cells #[.int .i64 l, .int .i64 r, .int .i64 o, .int .i64 d] 185)=w0:=⟨_,rfl⟩;have hb0:Below w.heap.size w w0:=hw0▸aA w _;have hx0:w0.heap[w.heap.size]?=some (.cells #[.int .i64 l, .int .i64 r, .int .i64 o, .int .i64 d] 185):=by rw[<-hw0];exact heap_alloc_new w _
 have hs0:w.heap.size<w0.heap.size:=by rw[<-hw0];simp
 have HM:=hW_ (hM.below hb0);have HLM:=hW_ (hM.count Mg.enc_len (by omega));have HB0:=hW_ hb0;have HX0:=hW_ hx0;have HW0:=hW_ hw0;clear hM hb0 hx0 hw0;go_enter Tryz.func126,Tryz.ntmps126;go_wp2_with (fail);rw[HW0.out];go_loopw [5] (fun i wr=>∃k:Nat,k<=mn/\i= .int .i64 k/\Hid (∀j,j<k->ahead (mg M j) ⟨l,r,o,d⟩=true)/\Below w0.heap.size w0 wr) (fun i _=>mn-(intOf i).toNat)
 case atStart=>exact⟨0,Nat.zero_le _,rfl,hW_ (fun j h=>by omega),Below.refl _ _⟩
 case round=>
  obtain⟨k,hk,rfl,HK,hb⟩:=hrel;have HB:=hW_ hb;have hbx:=(hb.block w.heap.size hs0).trans HX0.out;have hlt2:w.heap.size<wr.heap.size:=(Array.getElem?_eq_some_iff.1 hbx).1;obtain⟨b0,b1,b2,b3⟩:=iG hbx;clear hb hbx;obtain⟨w1,rfl⟩:∃w1:World,w1=wr:=⟨_,rfl⟩
  by_cases hlt:k<mn
  ·have hkM:k<M.length:=by have:=HLM.out;omega
   obtain⟨⟨pl,pr,po,pd⟩,hpeq⟩:∃m,mg M k=m:=⟨_,rfl⟩;obtain⟨b,of,rfl,hcp⟩:=(HM.out.below HB.out).elem Mg.enc_len (by omega) (gF hkM);rw[hpeq]at hcp;have p0:=hcp 0 _ rfl;have p1:=hcp 1 _ rfl;have p2:=hcp 2 _ rfl;have p3:=hcp 3 _ rfl;rw[Nat.add_zero]at p0;simp only at p0 p1 p2 p3;have hmix:=yB;have hlt1:b<w1.heap.size:=World.block_lt_of_cell? w1 _ p0;have r0:=cell_grown (w:=w1) hlt1 p0;have r1:=cell_grown (w:=w1) hlt1 p1;have r2:=cell_grown (w:=w1) hlt1 p2;have r3:=cell_grown (w:=w1) hlt1 p3;have t0:=cell_grown (w:=w1) hlt2 b0;have t1:=cell_grown (w:=w1) hlt2 b1;have t2:=cell_grown (w:=w1) hlt2 b2;have t3:=cell_grown (w:=w1) hlt2 b3;have l1:=fun n os=>ld4 (P:=Tryz.prog) (r0 n os) (r1 n os) (r2 n os) (r3 n os)
   have l2:=fun n os=>ld4 (P:=Tryz.prog) (t0 n os) (t1 n os) (t2 n os) (t3 n os)
   have hg0:decide ((k:Int)<(mn:Int))=true:=by simp;omega
   have hg2:decide (k<mn)=true:=by simpa using hlt
   have hah:=fun w=>aBc ⟨pl,pr,po,pd⟩ ⟨l,r,o,d⟩ w
   have HPE:=hW_ hpeq;clear hcp hpeq hkM
   cases hal:ahead ⟨pl,pr,po,pd⟩ ⟨l,r,o,d⟩with
   | true=>
    rw[hal]at hah;have HK2:Hid (∀j,j<k+1->ahead (mg M j) ⟨l,r,o,d⟩=true):=hW_ (fun j hj=>by
     by_cases e:j=k
     ·subst e;rw[HPE.out];exact hal
     ·exact HK.out j (by omega))
    clear hal;go_wp2_with (fail);refine wp_region_quiet_grown (by assumption) (by kernel_rfl) ?_
    repeat (any_goals (first | go_big_quiet_step ((go_at_call 175;exact Calls.grown_of (hah _))) | quiet_step ((go_at_call 175;exact Calls.grown_of (hah _)))))
    refine wpQuiet_nil ?_
    intro _ hw';obtain⟨⟨nq2,osq2⟩,hw''⟩:=hw';subst hw'';go_wp2_with (fail);go_roundw
    case rel=>exact⟨k+1,by omega,by go_num,HK2,HB.out.trans ((D4 _ _ _).mono HB.out.size)⟩
    case measure=>simp[intOf];omega
   | false=>
    rw[hal]at hah;have HST:Hid (k=M.length\/ahead (mg M k) ⟨l,r,o,d⟩=false):=hW_ (.inr (by rw[HPE.out];exact hal));clear hal;go_wp2_with (fail);refine wp_region_quiet_grown (by assumption) (by kernel_rfl) ?_
    repeat (any_goals (first | go_big_quiet_step ((go_at_call 175;exact Calls.grown_of (hah _))) | quiet_step ((go_at_call 175;exact Calls.grown_of (hah _)))))
    refine wpQuiet_nil ?_
    intro _ hw';obtain⟨⟨nq2,osq2⟩,hw''⟩:=hw';subst hw'';have HBQ:Hid (Below w0.heap.size w0 (grow (w1.drewN nq2) osq2)):=hW_ (HB.out.trans ((D4 _ _ _).mono HB.out.size));have HSO:=hW_ (gO HK.out (by have:=HLM.out;omega) HST.out);have HLT:Hid ((M.take k).length=k):=hW_ (by rw[List.length_take,HLM.out];omega);have hbz:=HBQ.out.block w.heap.size hs0;obtain⟨wq,hwq⟩:∃wq,(grow (w1.drewN nq2) osq2)=wq:=⟨_,rfl⟩;rw[hwq]at HBQ hbz |-;clear hwq;have HBX:=hW_ (hbz.trans HX0.out);clear hbz;have HMa:Hid (SlF 4 (wq.alloc (.cells #[] 185)) (some ⟨b,of,none⟩) mn mc (flat Mg.enc M)):=hW_ ((HM.out.below HBQ.out).alloc _);have HOa:Hid (dA Mg.enc 4 185 (wq.alloc (.cells #[] 185)) wq.heap.size (.slice (some ⟨wq.heap.size,0,none⟩) 0 0) []):=hW_ (dA.made0 wq);go_wp2_with (first
     | (refine zB (enc:=Mg.enc) rfl _ _ _ rfl i0 Tryz.underlying23 hi Mg.enc_len rfl HMa.out rfl (k:=k) rfl (by omega) ?_;intro hs1)
     | (at_builtin;go_loud (refine gA rfl _ _ 23 rfl i0 z0 32 Tryz.underlying23 hi hz0 hz1 hz2 hz3 Mg.enc_len (by omega) Mg.enc_one rfl HOa.out rfl hs1 (by unfold maxLen;simp only[List.length_nil];omega) (by simp only[List.length_nil];omega) (by simp) ?_)))
    intro v1 wb ho1 hg1 hb1;have hb1':=(aA wq (.cells #[] 185)).trans hb1;have HB1:=hW_ hb1';have hlq:w.heap.size<wq.heap.size:=(Array.getElem?_eq_some_iff.1 HBX.out).1;obtain⟨b0,b1,b2,b3⟩:=iG ((hb1'.block w.heap.size hlq).trans HBX.out);have HOb:Hid (dA Mg.enc 4 185 (wb.alloc (.cells #[.int .i64 l, .int .i64 r, .int .i64 o, .int .i64 d] 185)) wq.heap.size v1 (M.take k)):=hW_ (ho1.alloc _);have HSb:Hid (SlF 4 (wb.alloc (.cells #[.int .i64 l, .int .i64 r, .int .i64 o, .int .i64 d] 185)) (some ⟨wb.heap.size,0,none⟩) 1 1 (flat Mg.enc [⟨l,r,o,d⟩])):=hW_ (SlF.one Mg.enc_len wb ⟨l,r,o,d⟩ 185 (cs:=#[.int .i64 l, .int .i64 r, .int .i64 o, .int .i64 d]) rfl);have HSZ:Hid (wq.heap.size<=wb.heap.size):=hW_ hb1'.size;clear ho1 hg1 hb1 hb1' hlq;go_wp2_with (at_builtin;go_loud (refine gA rfl _ _ 23 rfl i0 z0 32 Tryz.underlying23 hi hz0 hz1 hz2 hz3 Mg.enc_len (by omega) Mg.enc_one rfl HOb.out rfl HSb.out (by have:=HLT.out;unfold maxLen;omega) (by have:=HLT.out;omega) (by have:=HSZ.out;simp;omega) ?_));intro v2 wc ho2 hg2 hb2;have hb2':=(HB1.out.alloc HB1.out.size _).trans hb2;have HB2:=hW_ hb2';have HMc:Hid (SlF 4 wc (some ⟨b,of,none⟩) mn mc (flat Mg.enc M)):=hW_ ((HM.out.below HBQ.out).below hb2');have HOc:=hW_ ho2;have HSZ2:Hid (wq.heap.size<=wc.heap.size):=hW_ hb2'.size;clear ho2 hg2 hb2 hb2' b0 b1 b2 b3;go_wp2_with (first
     | (refine B6 (enc:=Mg.enc) rfl _ _ _ rfl i0 Tryz.underlying23 hi hz1 Mg.enc_len rfl HMc.out rfl (k:=k) rfl (by omega) ?_;intro ao' hs3 hao3)
     | (at_builtin;go_loud (refine gA rfl _ _ 23 rfl i0 z0 32 Tryz.underlying23 hi hz0 hz1 hz2 hz3 Mg.enc_len (by omega) Mg.enc_one rfl HOc.out rfl hs3 (by have:=HLT.out;unfold maxLen;rw[List.length_append];simp only[List.length_singleton];omega) (by have:=HLT.out;rw[List.length_append];simp only[List.length_singleton];omega) HSZ2.out ?_)))
    intro v3 wd ho3 hg3 hb3;have HO3:=hW_ (ho3.mono (Nat.le_trans HB0.out.size HBQ.out.size));have HB3:=hW_ (HB0.out.trans ((HBQ.out.trans ((HB2.out.trans hb3).mono HBQ.out.size)).mono HB0.out.size));clear ho3 hg3 hb3;go_wp2_with (fail);go_ret;exact⟨⟨v3,_,rfl,HO3.out,rM M _ k,HSO.out⟩,HB3.out⟩
  ·obtain rfl:k=mn:=by omega
   have HST:Hid (k=M.length\/ahead (mg M k) ⟨l,r,o,d⟩=false):=hW_ (.inl HLM.out.symm);have hmix:=yB;have hg0:decide ((k:Int)<(k:Int))=false:=by simp
   have hg2:decide (k<k)=false:=by simp
   have hah:=fun w=>aBc ⟨0,0,0,0⟩ ⟨l,r,o,d⟩ w
   go_wp2_with (fail);refine wp_region_quiet_grown (by assumption) (by kernel_rfl) ?_
   repeat (any_goals (first | go_big_quiet_step ((go_at_call 175;exact Calls.grown_of (hah _))) | quiet_step ((go_at_call 175;exact Calls.grown_of (hah _)))))
   refine wpQuiet_nil ?_
   intro _ hw';obtain⟨⟨nq2,osq2⟩,hw''⟩:=hw';subst hw'';have HBQ:Hid (Below w0.heap.size w0 (grow (w1.drewN nq2) osq2)):=hW_ (HB.out.trans ((D4 _ _ _).mono HB.out.size));have HSO:=hW_ (gO HK.out (by have:=HLM.out;omega) HST.out);have HLT:Hid ((M.take k).length=k):=hW_ (by rw[List.length_take,HLM.out];omega);have hbz:=HBQ.out.block w.heap.size hs0;obtain⟨wq,hwq⟩:∃wq,(grow (w1.drewN nq2) osq2)=wq:=⟨_,rfl⟩;rw[hwq]at HBQ hbz |-;clear hwq;have HBX:=hW_ (hbz.trans HX0.out);clear hbz;have HMa:Hid (SlF 4 (wq.alloc (.cells #[] 185)) mo k mc (flat Mg.enc M)):=hW_ ((HM.out.below HBQ.out).alloc _);have HOa:Hid (dA Mg.enc 4 185 (wq.alloc (.cells #[] 185)) wq.heap.size (.slice (some ⟨wq.heap.size,0,none⟩) 0 0) []):=hW_ (dA.made0 wq);go_wp2_with (first
    | (refine zB (enc:=Mg.enc) rfl _ _ _ rfl i0 Tryz.underlying23 hi Mg.enc_len rfl HMa.out rfl (k:=k) rfl (by omega) ?_;intro hs1)
    | (at_builtin;go_loud (refine gA rfl _ _ 23 rfl i0 z0 32 Tryz.underlying23 hi hz0 hz1 hz2 hz3 Mg.enc_len (by omega) Mg.enc_one rfl HOa.out rfl hs1 (by unfold maxLen;simp only[List.length_nil];omega) (by simp only[List.length_nil];omega) (by simp) ?_)))
   intro v1 wb ho1 hg1 hb1;have hb1':=(aA wq (.cells #[] 185)).trans hb1;have HB1:=hW_ hb1';have hlq:w.heap.size<wq.heap.size:=(Array.getElem?_eq_some_iff.1 HBX.out).1;obtain⟨b0,b1,b2,b3⟩:=iG ((hb1'.block w.heap.size hlq).trans HBX.out);have HOb:Hid (dA Mg.enc 4 185 (wb.alloc (.cells #[.int .i64 l, .int .i64 r, .int .i64 o, .int .i64 d] 185)) wq.heap.size v1 (M.take k)):=hW_ (ho1.alloc _);have HSb:Hid (SlF 4 (wb.alloc (.cells #[.int .i64 l, .int .i64 r, .int .i64 o, .int .i64 d] 185)) (some ⟨wb.heap.size,0,none⟩) 1 1 (flat Mg.enc [⟨l,r,o,d⟩])):=hW_ (SlF.one Mg.enc_len wb ⟨l,r,o,d⟩ 185 (cs:=#[.int .i64 l, .int .i64 r, .int .i64 o, .int .i64 d]) rfl);have HSZ:Hid (wq.heap.size<=wb.heap.size):=hW_ hb1'.size;clear ho1 hg1 hb1 hb1' hlq;go_wp2_with (at_builtin;go_loud (refine gA rfl _ _ 23 rfl i0 z0 32 Tryz.underlying23 hi hz0 hz1 hz2 hz3 Mg.enc_len (by omega) Mg.enc_one rfl HOb.out rfl HSb.out (by have:=HLT.out;unfold maxLen;omega) (by have:=HLT.out;omega) (by have:=HSZ.out;simp;omega) ?_));intro v2 wc ho2 hg2 hb2;have hb2':=(HB1.out.alloc HB1.out.size _).trans hb2;have HB2:=hW_ hb2';have HMc:Hid (SlF 4 wc mo k mc (flat Mg.enc M)):=hW_ ((HM.out.below HBQ.out).below hb2');have HOc:=hW_ ho2;have HSZ2:Hid (wq.heap.size<=wc.heap.size):=hW_ hb2'.size;clear ho2 hg2 hb2 hb2' b0 b1 b2 b3;go_wp2_with (first
    | (refine B6 (enc:=Mg.enc) rfl _ _ _ rfl i0 Tryz.underlying23 hi hz1 Mg.enc_len rfl HMc.out rfl (k:=k) rfl (by omega) ?_;intro ao' hs3 hao3)
    | (at_builtin;go_loud (refine gA rfl _ _ 23 rfl i0 z0 32 Tryz.underlying23 hi hz0 hz1 hz2 hz3 Mg.enc_len (by omega) Mg.enc_one rfl HOc.out rfl hs3 (by have:=HLT.out;unfold maxLen;rw[List.length_append];simp only[List.length_singleton];omega) (by have:=HLT.out;rw[List.length_append];simp only[List.length_singleton];omega) HSZ2.out ?_)))
   intro v3 wd ho3 hg3 hb3;have HO3:=hW_ (ho3.mono (Nat.le_trans HB0.out.size HBQ.out.size));have HB3:=hW_ (HB0.out.trans ((HBQ.out.trans ((HB2.out.trans hb3).mono HBQ.out.size)).mono HB0.out.size));clear ho3 hg3 hb3;go_wp2_with (fail);go_ret;exact⟨⟨v3,_,rfl,HO3.out,rM M _ k,HSO.out⟩,HB3.out⟩
end Go.Proofs.YtjlokfejnijokaaGreatDoor
