/- Walks: split.mark, split.Bytes, split.runs and what it hands out. -/
import Derived.Test.YtimkkkdabmhedaaGreatDoorD28
import Derived.Test.YtimkkkdabmhedaaGreatDoorD34
import Derived.Maps.AppendAt
import Derived.RangeFuncBox
import Derived.Test.YtimkkkdabmhedaaGreatDoorD17
import Derived.Test.YtimkkkdabmhedaaGreatDoorD19
set_option linter.unusedVariables false
set_option maxHeartbeats 4000000
set_option maxRecDepth 100000
namespace Go.Proofs.YtimkkkdabmhedaaGreatDoor
open Go.RowKit
theorem mark_calls (s:Int) (w:World):Calls Tryz.prog 117 #[.int .i64 s] w fun e w'=>e= .returned (.bool (!isB s))∧w=w':=by
 go_enter Tryz.func117,Tryz.ntmps117
 by_cases h0:s<0
 ·have HB:Hid (isB s=false):=Lib.hid (by unfold isB;rw[decide_eq_false (show¬0≤s by omega)];rfl)
  go_wp2_with (fail)
  go_ret
  exact⟨by rw[HB.out];rfl,rfl⟩
 ·by_cases h1:256≤s
  ·have HB:Hid (isB s=false):=Lib.hid (by unfold isB;rw[decide_eq_false (show¬s<256 by omega),Bool.and_false])
   go_wp2_with (fail)
   go_ret
   exact⟨by rw[HB.out];rfl,rfl⟩
  ·have HB:Hid (isB s=true):=Lib.hid (isB_iff.2 ⟨by omega,by omega⟩)
   go_wp2_with (fail)
   go_ret
   exact⟨by rw[HB.out];rfl,rfl⟩
structure Rn where
 ao:Option Addr
 n:Nat
 c:Nat
 bytes:List Int
 behind:Bool
def Rn.pr (x:Rn):List Int×Bool:=(x.bytes,x.behind)
def Rn.enc (x:Rn):Array Value:=#[.slice x.ao x.n x.c, .bool x.behind]
def RnIn (Wj:World) (x:Rn) (W:World):Prop:=SlB W x.ao x.n x.c x.bytes∧∀ad,x.ao=some ad→Wj.heap.size≤ad.block∧ad.block<W.heap.size
def costR (pre:List Rn):Nat:=(pre.map fun x=>x.bytes.length+1).sum
theorem costR_snoc (pre:List Rn) (x:Rn):costR (pre++ [x])=costR pre+(x.bytes.length+1):=by simp[costR]
def RnOk (N:Nat) (pre:List Rn) (x:Rn):Prop:=costR (pre++ [x])≤N+1∧∀y∈x.bytes,0≤y∧y<256
theorem runsGo_b {run:List Int} {s:Int} {l:List Int} (h:isB s=true):runsGo run (s::l)=runsGo (run++ [s]) l:=by simp[runsGo,h]
theorem runsGo_m {run:List Int} {s:Int} {l:List Int} (h:isB s=false):runsGo run (s::l)=(run,true)::runsGo [] l:=by simp[runsGo,h]
attribute [local go_sem] Oper.semAt_some
theorem runs1_in {text:List Int} {ao:Option Addr} {tn tc:Nat} (m:Nat) (l Bn n₀:Nat) (w0:World) (hS:SlI w0 ao tn tc text) (hn₀:w0.heap.size=n₀) (hsz:tn≤1048576) (J:List Rn→World→Prop)
  (hJ:∀pre A B,J pre A→Below A.heap.size A B→J pre B)
  (W:World) (hW:Below n₀ w0 W) (hBn:W.cell? ⟨Bn,0,none⟩=some (.slice ao tn tc))
  (hY:∀pre x Wj W1,J pre Wj→Below Wj.heap.size Wj W1→RnIn Wj x W1→RnOk tn pre x→YieldAt Fence.wide m Tryz.prog l x.enc W1 fun e W'=>e= .returned (.bool true)∧J (pre++ [x]) W'∧Below n₀ W1 W')
  (h0:J [] W):
  CallsIn Fence.wide (m+1) Tryz.prog 125 #[.func (.yield l) #[] #[], .pointer (some ⟨Bn,0,none⟩)] W fun e W'=>(∃v,e= .returned v)∧∃xs,xs.map Rn.pr=runsGo [] text∧J xs W':=by
 obtain⟨i0,hi,hz0,hz1,hz2⟩:=info_parts infoB
 have hlt:=hS.len
 refine callsIn_of_wp Tryz.func125 rfl trivial ?_ rfl
 simp only[Tryz.ntmps125,List.size_toArray,List.length_cons,List.length_nil,Nat.reduceAdd,Nat.reduceSub,Array.replicate_succ,Array.replicate_zero,List.push_toArray,List.append_toArray,List.nil_append,List.cons_append]
 have HS:=Lib.hid hS
 have HLT:=Lib.hid hlt
 have HJ:=Lib.hid hJ
 have HW:=Lib.hid hW
 have HN:=Lib.hid hn₀
 have HY:=Lib.hid hY
 have H0:=Lib.hid h0
 clear hS hlt hJ hW hY h0 hn₀
 gi_wp2
 gi_loopw [3,8] (fun v i wr=>∃(j:Nat) (pre:List Rn) (run:List Int) (Wj:World),i= .int .i64 j∧j≤tn∧n₀≤Wj.heap.size∧Hid (J pre Wj)∧Hid (Below Wj.heap.size Wj wr)∧Hid (Below n₀ w0 wr)∧Hid (wr.ownsRow Wj.heap.size 5 1 v run.length (run.map (.int .u8)))∧
   Hid (runsGo [] text=pre.map Rn.pr++runsGo run (text.drop j))∧Hid (costR pre+run.length=j)∧Hid (∀y∈run,0≤y∧y<256)) (fun _ i _=>tn-(intOf i).toNat)
 case atStart=>
  exact⟨0,[],[],W,rfl,by omega,by have:=HW.out.size;have:=HN.out;omega,H0,Lib.hid (Below.refl _ _),HW,Lib.hid (World.ownsRow_nil _ _ _ _),Lib.hid (by simp),Lib.hid (by simp[costR]),Lib.hid (by simp)⟩
 case round=>
  obtain⟨j,pre,run,Wj,rfl,hj,hnW,HJP,HBJ,HB0,HOW,HRG,HCO,HBY⟩:=hrel
  by_cases hjt:j<tn
  ·have gj:(j:Int)<(tn:Int):=by omega
   have HSW:Hid (SlI wr ao tn tc text):=Lib.hid (by
    have h:=HB0.out
    rw[←HN.out]at h
    exact HS.out.below h)
   obtain⟨b1,o1,hao,hc1⟩:=HSW.out.at_ hjt
   subst hao
   have hdr:text.drop j=ix text j::text.drop (j+1):=by
    have:=List.drop_eq_getElem_cons (l:=text) (i:=j) (by have:=HLT.out;omega)
    rw[this]
    congr 1
    have h2:=ix_eq (A:=text) (i:=j) (by have:=HLT.out;omega)
    rw[List.getElem?_eq_getElem (by have:=HLT.out;omega)]at h2
    exact Option.some.inj h2
   obtain⟨s,hs⟩:∃s,ix text j=s:=⟨_,rfl⟩
   rw[hs]at hdr hc1
   have HDR:=Lib.hid hdr
   have hmk:=(callsIn_wide (n:=m)).2 (mark_calls s wr)
   cases hb:isB s with
   | true=>
    have HRG2:Hid (runsGo [] text=pre.map Rn.pr++runsGo (run++ [s]) (text.drop (j+1))):=Lib.hid (by rw[HRG.out,HDR.out,runsGo_b hb])
    have hs8:=isB_iff.1 hb
    have hw8:IntKind.u8.wrap s=s:=by rw[IntKind.wrap_u8];omega
    rw[hb]at hmk
    clear hdr hs
    have HLO:=Lib.hid (World.ownsRow.lt HOW.out)
    have hsW:Wj.heap.size≤wr.heap.size:=HBJ.out.size
    have hrl:run.length≤1048576:=by have:=HCO.out;omega
    gi_wp2_with (first
     | (refine⟨trivial,?_⟩;gi_at_call 117;refine hmk.mono ?_;rintro e w2 ⟨rfl,rfl⟩)
     | (gi_at_builtin;refine wpListIn_append_own _ rfl _ _ 121 rfl Wj.heap.size 5 i0 (.int .u8 0) 1 1 Tryz.underlying121 hi hz0 hz1 hz2 rfl (by decide) _ _ _ rfl (HOW.out.alloc _) ⟨wr.heap.size,0,none⟩ 1 1 [.int .u8 s] rfl rfl (cell_one_new _ _ _) (by simp[Value.oneCell']) (by unfold maxLen;omega) (by omega) (by simp;omega) ?_;intro v' w2 hown' hgrow _))
    have HOW2:Hid (w2.ownsRow Wj.heap.size 5 1 v' (run++ [s]).length ((run++ [s]).map (.int .u8))):=Lib.hid (by rw[List.length_append,List.map_append];exact hown')
    have HBJ2:Hid (Below Wj.heap.size Wj w2):=Lib.hid ((HBJ.out.alloc hsW _).trans ((Below.refl _ _).grown hgrow (by simp;omega) (fun k hk=>(HLO.out k hk).1)))
    have HB02:Hid (Below n₀ w0 w2):=Lib.hid (HB0.out.trans (((Below.refl n₀ wr).alloc (Nat.le_trans hnW hsW) _).trans ((Below.refl n₀ _).grown hgrow (by simp;omega) (fun k hk=>Nat.le_trans hnW (HLO.out k hk).1))))
    clear hown' hgrow
    go_roundw
    case rel=>exact⟨j+1,pre,run++ [s],Wj,by go_num,by omega,hnW,HJP,HBJ2,HB02,HOW2,HRG2,Lib.hid (by have:=HCO.out;simp;omega),Lib.hid (fun y hy=>by
     rcases List.mem_append.1 hy with h | h
     ·exact HBY.out y h
     ·obtain rfl:=List.mem_singleton.1 h
      exact isB_iff.1 hb)⟩
    case measure=>simp[intOf];omega
   | false=>
    have HRG2:Hid (runsGo [] text=pre.map Rn.pr++(run,true)::runsGo [] (text.drop (j+1))):=Lib.hid (by rw[HRG.out,HDR.out,runsGo_m hb])
    rw[hb]at hmk
    obtain⟨vo,vc,rfl,hsl⟩:=Sl.of_own HOW.out
    have hco:costR (pre++ [⟨vo,run.length,vc,run,true⟩])=j+1:=by rw[costR_snoc];have:=HCO.out;simp only;omega
    have hblk:∀ad,vo=some ad→Wj.heap.size≤ad.block∧ad.block<wr.heap.size:=fun ad e=>World.ownsRow.lt HOW.out ad.block (by rw[e];rfl)
    obtain⟨fn,tmps,assign,body,hy,hR⟩:=HY.out pre ⟨vo,run.length,vc,run,true⟩ Wj wr HJP.out HBJ.out ⟨hsl,hblk⟩ ⟨by rw[hco];omega,HBY.out⟩
    dsimp only[Rn.enc]at hy
    have HR:=Lib.hid hR
    have HCO2:=Lib.hid hco
    clear hdr hs hR hsl hco hblk
    gi_wp2_with (refine⟨trivial,?_⟩;gi_at_call 117;refine hmk.mono ?_;rintro e w2 ⟨rfl,rfl⟩)
    refine HR.out.mono ?_
    rintro e W3 ⟨rfl,hJ3,hb3⟩
    have HJ3:=Lib.hid hJ3
    have HB3:=Lib.hid (HB0.out.trans hb3)
    clear hJ3 hb3 hy
    gi_wp2
    go_roundw
    case rel=>exact⟨j+1,pre++ [⟨vo,run.length,vc,run,true⟩],[],W3,by go_num,by omega,by have:=HB3.out.size;have:=HN.out;omega,HJ3,Lib.hid (Below.refl _ _),HB3,Lib.hid (World.ownsRow_nil _ _ _ _),Lib.hid (by rw[HRG2.out];simp[Rn.pr]),Lib.hid (by rw[HCO2.out];rfl),Lib.hid (by simp)⟩
    case measure=>simp[intOf];omega
  ·obtain rfl:j=tn:=by omega
   have HRG2:Hid (runsGo [] text=pre.map Rn.pr++ [(run,false)]):=Lib.hid (by rw[HRG.out,List.drop_eq_nil_iff.2 (by have:=HLT.out;omega)];rfl)
   obtain⟨vo,vc,rfl,hsl⟩:=Sl.of_own HOW.out
   have hco:costR (pre++ [⟨vo,run.length,vc,run,false⟩])=j+1:=by rw[costR_snoc];have:=HCO.out;simp only;omega
   have hblk:∀ad,vo=some ad→Wj.heap.size≤ad.block∧ad.block<wr.heap.size:=fun ad e=>World.ownsRow.lt HOW.out ad.block (by rw[e];rfl)
   obtain⟨fn,tmps,assign,body,hy,hR⟩:=HY.out pre ⟨vo,run.length,vc,run,false⟩ Wj wr HJP.out HBJ.out ⟨hsl,hblk⟩ ⟨by rw[hco];omega,HBY.out⟩
   dsimp only[Rn.enc]at hy
   have HR:=Lib.hid hR
   clear hR hsl hco hblk
   gi_wp2
   refine HR.out.mono ?_
   rintro e W3 ⟨rfl,hJ3,hb3⟩
   have HJ3:=Lib.hid hJ3
   clear hJ3 hb3 hy
   gi_wp2
   go_end0
   exact⟨⟨_,rfl⟩,pre++ [⟨vo,run.length,vc,run,false⟩],by rw[HRG2.out];simp[Rn.pr],HJ3.out⟩
theorem runs_calls {ao:Option Addr} {tn tc:Nat} (w:World):
  Calls Tryz.prog 92 #[.slice ao tn tc] w fun e w'=>e= .returned (.func (.func 125) #[] #[.pointer (some ⟨w.heap.size,0,none⟩)])∧w'=w.alloc (.cells #[.slice ao tn tc] 43):=by
 go_enter Tryz.func92,Tryz.ntmps92
 go_wp2_with (fail)
 go_ret
 exact⟨rfl,rfl⟩
theorem bytes13_calls {text:List Int} {ao:Option Addr} {tn tc:Nat} (w:World) (hS:SlI w ao tn tc text) (hb:∀y∈text,isB y=true) (hsz:tn≤1048576):
  Calls Tryz.prog 88 #[.slice ao tn tc] w fun e w'=>(∃v,e= .returned (.tuple #[v, .bool true])∧w'.ownsRow w.heap.size 5 1 v text.length (text.map (.int .u8)))∧Below w.heap.size w w':=by
 obtain⟨i0,hi,hz0,hz1,hz2⟩:=info_parts infoB
 have HS:=Lib.hid hS
 have HLT:=Lib.hid hS.len
 have HBY:=Lib.hid hb
 clear hS hb
 go_enter Tryz.func88,Tryz.ntmps88
 go_wp2_with (fail)
 go_loopw [4,9] (fun v i wr=>∃j:Nat,i= .int .i64 j∧j≤tn∧Hid (wr.ownsRow w.heap.size 5 1 v j ((text.take j).map (.int .u8)))∧Hid (Below w.heap.size w wr)) (fun _ i _=>tn-(intOf i).toNat)
 case atStart=>exact⟨0,rfl,by omega,Lib.hid (World.ownsRow_nil _ _ _ _),Lib.hid (Below.refl _ _)⟩
 case round=>
  obtain⟨j,rfl,hj,HOW,HB⟩:=hrel
  by_cases hjt:j<tn
  ·have gj:(j:Int)<(tn:Int):=by omega
   obtain⟨b1,o1,hao,hc1⟩:=(HS.out.below HB.out).at_ hjt
   subst hao
   have hix:=ix_eq (A:=text) (i:=j) (by have:=HLT.out;omega)
   have hisb:=HBY.out _ (List.mem_of_getElem? hix)
   have HTK:=Lib.hid (take_snoc (A:=text) (k:=j) (by have:=HLT.out;omega))
   obtain⟨s,hs⟩:∃s,ix text j=s:=⟨_,rfl⟩
   rw[hs]at hc1 hisb HTK
   have hmk:=mark_calls s wr
   rw[hisb]at hmk
   have hs8:=isB_iff.1 hisb
   have hw8:IntKind.u8.wrap s=s:=by rw[IntKind.wrap_u8];omega
   have HLO:=Lib.hid (World.ownsRow.lt HOW.out)
   have hsW:w.heap.size≤wr.heap.size:=HB.out.size
   clear hix hisb hs
   go_wp2_with (first
    | (go_at_call 117;refine hmk.mono ?_;rintro e w2 ⟨rfl,rfl⟩)
    | (at_builtin;refine wpList_append_own _ rfl _ _ 121 rfl w.heap.size 5 i0 (.int .u8 0) 1 1 Tryz.underlying121 hi hz0 hz1 hz2 rfl (by decide) _ _ _ rfl (HOW.out.alloc _) ⟨wr.heap.size,0,none⟩ 1 1 [.int .u8 s] rfl rfl (cell_one_new _ _ _) (by simp[Value.oneCell']) (by unfold maxLen;omega) (by omega) (by simp;omega) ?_;intro v' w2 hown' hgrow _))
   have HOW2:Hid (w2.ownsRow w.heap.size 5 1 v' (j+1) ((text.take (j+1)).map (.int .u8))):=Lib.hid (by rw[←HTK.out,List.map_append];exact hown')
   have HB2:Hid (Below w.heap.size w w2):=Lib.hid ((HB.out.alloc hsW _).trans ((Below.refl _ _).grown hgrow (by simp;omega) (fun k hk=>(HLO.out k hk).1)))
   clear hown' hgrow
   go_roundw
   case rel=>exact⟨j+1,by go_num,by omega,HOW2,HB2⟩
   case measure=>simp[intOf];omega
  ·obtain rfl:j=tn:=by omega
   have HOW2:=Lib.hid (by have h:=HOW.out;rw[List.take_of_length_le (by have:=HLT.out;omega),←HLT.out]at h;exact h)
   go_wp2_with (fail)
   refine bodyPost_ret (v:= .tuple #[_, .bool true]) ?_ rfl ⟨⟨_,rfl,HOW2.out⟩,HB.out⟩
   simp[results,Tryz.results88,go_sem]
def pcEnc (p:Int×Bool):List Value:=[.int .i64 p.1, .bool p.2]
theorem pcEnc_len (p:Int×Bool):(pcEnc p).length=2:=rfl
theorem infoPc:(Tryz.prog.info? 51).map (fun i=>(i.zero.map (·.cells.size),i.size,i.bytes))=some (some 2,2,16):=by kernel_rfl
theorem pieces_len {kind:Int} {T:List Rg} {final:Bool}:∀(k:Nat) (run:List Int) (s:Bool),(piecesGo kind T final k run s).1.length≤k
 | 0,run,s=>by simp[piecesGo]
 | k+1,run,s=>by
  simp only[piecesGo]
  split
  ·simp
  ·simp only[List.length_cons]
   have:=pieces_len (kind:=kind) (T:=T) (final:=final) k (run.drop (nextF kind T run final).1.toNat) (s && (nextF kind T run final).2)
   omega
def stOf (kind:Int) (T:List Rg) (final:Bool) (pre:List Rn):List (Int×Bool)×Bool:=(pre.map Rn.pr).foldl (stepRun kind T final) ([],true)
theorem stOf_snoc {kind:Int} {T:List Rg} {final:Bool} (pre:List Rn) (x:Rn):stOf kind T final (pre++ [x])=stepRun kind T final (stOf kind T final pre) x.pr:=by simp[stOf]
theorem stOf_len {kind:Int} {T:List Rg} {final:Bool} (pre:List Rn):(stOf kind T final pre).1.length≤costR pre:=by
 suffices h:∀(l:List Rn) (st:List (Int×Bool)×Bool),((l.map Rn.pr).foldl (stepRun kind T final) st).1.length≤st.1.length+costR l by
  have:=h pre ([],true)
  simpa[stOf]using this
 intro l
 induction l with
 | nil=>intro st;simp[costR]
 | cons x l ih=>
  intro st
  simp only[List.map_cons,List.foldl_cons]
  have h1:=ih (stepRun kind T final st x.pr)
  have h2:=pieces_len (kind:=kind) (T:=T) (final:=x.behind || final) x.bytes.length x.bytes st.2
  have h3:(stepRun kind T final st x.pr).1.length≤st.1.length+x.bytes.length+1:=by
   obtain⟨xo,xn,xc,xb,xh⟩:=x
   cases xh with
   | true=>simp only[stepRun,Rn.pr,List.length_append,if_true,List.length_singleton]at h2 ⊢;omega
   | false=>simp only[stepRun,Rn.pr,List.length_append,Bool.false_eq_true,if_false,List.length_nil]at h2 ⊢;omega
  have h4:costR (x::l)=x.bytes.length+1+costR l:=by simp[costR]
  omega
theorem setOne {w:World} {g:Nat} {a v:Value} {t:TypeId} (h:w.heap[g]?=some (.cells #[a] t)):(w.setCell ⟨g,0,none⟩ v).heap[g]?=some (.cells #[v] t):=by
 simp[World.setCell,Array.getElem?_modify,h]
theorem boxOne {w:World} {g:Nat} {a:Value} {t:TypeId} (h:w.heap[g]?=some (.cells #[a] t)):w.cell? ⟨g,0,none⟩=some a∧w.frozen? ⟨g,0,none⟩=false:=by
 simp[World.cell?,World.frozen?,h]
theorem wpListIn_append_at {F:Fence} {n:Nat} {P:Program} (w:World) {ops:Array Oper} {rest:List Oper} {o:Oper} {a:Act} {Q:Exit→Act→World→Prop}
  (hg:o.guard=none) (s x:Operand) (t:TypeId) (hop:o.op=Op.call {callee:=Callee.builtin Builtin.append,args:=#[s,x],argTypes:=#[t,t]})
  (base:Nat) (e:TypeId) (i:TypeInfo) (z:Value) (size bytes:Nat) (h1:P.underlying t=some (.slice e)) (h2:P.info? e=some i) (h3:i.zero=some z) (h4:i.size=size) (h5:i.bytes=bytes) (h6:z.cells.size=size) (h7:0<size)
  (v:Value) (k:Nat) (xs:List Value) (hs:a.eval s=v) (hown:w.ownsRow base e size v k xs) (ad:Addr) (m c:Nat) (news:List Value) (hx:a.eval x= .slice (some ad) m c) (hn:news.length=m*size)
  (hc:∀j u,news[j]?=some u→w.cell? (ad.add j)=some u) (h1c:∀u∈news,u.oneCell'=true) (b1:k+m≤maxLen) (b2:(k+m)*bytes≤140737488355328) (b3:base≤w.heap.size)
  (hK:∀v' w',w'.ownsRow base e size v' (k+m) (xs++news)→w.grownBy w' v.ownBlock→(v'.ownBlock=v.ownBlock∨v'.ownBlock=some w.heap.size)→wpListIn F n P ops Q rest (a.put o.dst v') w'):
  wpListIn F n P ops Q (o::rest) a w:=by
 refine wpListIn_plain hg fun K hK'=> ?_
 obtain⟨v',w',hrun,r1,r2,_,r3⟩:=run_append_own_at (P:=P) (w:=w) base t o.type e i z size bytes h1 h2 h3 h4 h5 h6 h7 v k xs hown ad m c news hn hc h1c b1 b2 b3
 unfold Oper.wpIn
 refine⟨?_,?_⟩
 ·simp[Oper.about,hop,resolve,Target.leads,Sem.run_pure]
 ·rw[Oper.semAt_plain F _ _ (by rw[hop];intro c hc';cases hc')]
  simp[execOp,hop,resolve,invoke,builtin,hs,hx,hrun,Result.andThen]
  exact hK' _ _ (hK v' w' r1 r2 r3)
theorem slB_other {w w':World} {ao:Option Addr} {n c:Nat} {A:List Int} (h:SlB w ao n c A) (hk:∀ad,ao=some ad→w'.heap[ad.block]?=w.heap[ad.block]?):SlB w' ao n c A:=
 ⟨Sl.len h,Sl.le h,Sl.max h,Sl.nil h,fun i u hu=>by
  obtain⟨b,o,e,hc⟩:=Sl.at_ h i u hu
  exact⟨b,o,e,by rw[World.cell?_of_block (w:=w) (a:=⟨b,o+i,none⟩) (hk ⟨b,o,none⟩ e)];exact hc⟩⟩
theorem run_sliceB {ao:Option Addr} {n cap k:Nat} {L:Int} (hL:L=(k:Int)) (hk:k≤n) (j0:TypeInfo) (hj:Tryz.prog.info? 5=some j0) (hj1:j0.size=1):
  ∃ao',(∀W,(Instr.sliceAt 121 (.slice ao n cap) (some (.int .i64 L)) none none).run Tryz.prog W= .ok (.slice ao' (n-k) (cap-k)) W)∧
   (∀W A,SlB W ao n cap A→SlB W ao' (n-k) (cap-k) (A.drop k))∧∀ad',ao'=some ad'→∃ad,ao=some ad∧ad.block=ad'.block:=by
 subst hL
 refine⟨if cap=k then ao else ao.map (·.add k),fun W=> ?_,fun W A h=>h.drop hk,fun ad' e=> ?_⟩
 ·have:=run_sliceAt_lh Tryz.underlying121 hj W ao n cap (some (.int .i64 k)) none k n (fun w=>by simp[Instr.sliceBounds,run_sliceBound,hk])
  rw[hj1,Nat.mul_one]at this
  exact this
 ·split at e
  ·exact⟨ad',e,rfl⟩
  ·cases ao with
   | none=>simp at e
   | some ad=>
    simp only[Option.map_some,Option.some.injEq]at e
    exact⟨ad,rfl,by rw[←e];unfold Addr.add;split<;>rfl⟩
theorem own_cells {w:World} {base:Nat} {e:TypeId} {s n:Nat} {v:Value} {xs:List Value} (h:w.ownsRow base e s v n xs):∀q,v.ownBlock=some q→∃o,w.heap[q]?=some o∧o.isCells=true:=by
 obtain⟨_,h2⟩:=h
 rcases h2 with⟨rfl,_⟩ | ⟨g,cap,cur,rfl,hg,hh,_⟩
 ·intro q e;cases e
 ·intro q e;cases e;exact⟨_,hh,rfl⟩
theorem keepOn {B:Nat} {W A C:World} (h:KeepsFrom B W A) (hb:Below A.heap.size A C):KeepsFrom B W C:=
 h.trans ⟨hb.size,fun k o _ ho _=>(hb.block k (Array.getElem?_eq_some_iff.1 ho).1).trans ho⟩
theorem keepSet {B:Nat} {W A:World} (h:KeepsFrom B W A) (ad:Addr) (v:Value):KeepsFrom B W (A.setCell ad v):=h.trans ((KeepsOthers.setCell A ad v).from B)
theorem keepGrow {B:Nat} {W A C:World} {base:Nat} {e:TypeId} {s n:Nat} {v:Value} {xs:List Value} (h:KeepsFrom B W A) (hg:A.grownBy C v.ownBlock) (ho:A.ownsRow base e s v n xs):KeepsFrom B W C:=
 h.trans ((KeepsOthers.of_grownBy hg (fun j o e ho2=>by obtain⟨o',h1,h2⟩:=own_cells ho j e;rw[ho2]at h1;cases h1;exact h2)).from B)
theorem below_twoS {n₀:Nat} {w W A:World} (h1:Below n₀ w W) (h2:Below n₀ w A) (hs:W.heap.size≤A.heap.size):Below n₀ W A:=
 ⟨h2.os.trans h1.os.symm,h2.tape.trans h1.tape.symm,h2.output.trans h1.output.symm,hs,fun k hk=>(h2.block k hk).trans (h1.block k hk).symm⟩
structure SpI (w0 W:World) (kind:Int) (to_:Option Addr) (rn rc:Nat) (final:Bool) (bo:Nat) (ps:List (Int×Bool)) (su:Bool) (v:Value):Prop where
 c0:W.heap[w0.heap.size]?=some (.cells #[.int .i64 kind] 3)
 c1:W.heap[w0.heap.size+1]?=some (.cells #[.slice to_ rn rc] 27)
 c2:W.heap[w0.heap.size+1+1]?=some (.cells #[.bool final] 4)
 o:W.heap[bo]?=some (.cells #[v] 48)
 row:OwnF pcEnc 2 51 W w0.heap.size v ps
 far:∀q,v.ownBlock=some q→w0.heap.size+1+1<q∧q≠bo∧q≠bo+1
 s:W.heap[bo+1]?=some (.cells #[.bool su] 4)
 below:Below w0.heap.size w0 W
 lo:w0.heap.size+1+1<bo
theorem SpI.stay {w0 W W':World} {kind:Int} {to_:Option Addr} {rn rc:Nat} {final:Bool} {bo:Nat} {ps:List (Int×Bool)} {su:Bool} {v:Value} (h:SpI w0 W kind to_ rn rc final bo ps su v)
  (hk:∀(q:Nat) (o:Obj),W.heap[q]?=some o→o.isCells=true→W'.heap[q]?=some o) (hb:Below w0.heap.size w0 W'):SpI w0 W' kind to_ rn rc final bo ps su v:=
 ⟨hk _ _ h.c0 rfl,hk _ _ h.c1 rfl,hk _ _ h.c2 rfl,hk _ _ h.o rfl,own_stay h.row (fun q hq=>by obtain⟨o,ho,hc⟩:=own_cells h.row q hq;rw[ho];exact hk q o ho hc),h.far,hk _ _ h.s rfl,hb,h.lo⟩
theorem SpI.on {w0 W W':World} {kind:Int} {to_:Option Addr} {rn rc:Nat} {final:Bool} {bo:Nat} {ps:List (Int×Bool)} {su:Bool} {v:Value} (h:SpI w0 W kind to_ rn rc final bo ps su v)
  (hb:Below W.heap.size W W'):SpI w0 W' kind to_ rn rc final bo ps su v:=
 h.stay (fun q o ho _=>(hb.block q (Array.getElem?_eq_some_iff.1 ho).1).trans ho) (h.below.trans (hb.mono h.below.size))
theorem SpI.setS {w0 W:World} {kind:Int} {to_:Option Addr} {rn rc:Nat} {final:Bool} {bo:Nat} {ps:List (Int×Bool)} {su:Bool} {v:Value} (h:SpI w0 W kind to_ rn rc final bo ps su v) (b:Bool):
  SpI w0 (W.setCell ⟨bo+1,0,none⟩ (.bool b)) kind to_ rn rc final bo ps b v:=by
 have hne:∀q,q≠bo+1→(W.setCell ⟨bo+1,0,none⟩ (.bool b)).heap[q]?=W.heap[q]? :=fun q hq=>Below.heap_setCell _ _ _ _ hq
 have hlo:=h.lo
 exact⟨(hne _ (by omega)).trans h.c0,(hne _ (by omega)).trans h.c1,(hne _ (by omega)).trans h.c2,(hne _ (by omega)).trans h.o,own_stay h.row (fun q hq=>hne q (h.far q hq).2.2),h.far,setOne h.s,h.below.setCell (p:=⟨bo+1,0,none⟩) (show w0.heap.size≤bo+1 by omega) _,h.lo⟩
theorem SpI.push {w0 W w1:World} {kind:Int} {to_:Option Addr} {rn rc:Nat} {final:Bool} {bo:Nat} {ps:List (Int×Bool)} {su:Bool} {v v':Value} (h:SpI w0 W kind to_ rn rc final bo ps su v) (p:Int×Bool) {o:Obj}
  (hgrow:(W.alloc o).grownBy w1 v.ownBlock) (hown:OwnF pcEnc 2 51 w1 w0.heap.size v' (ps++ [p])) (hat:∀q,v'.ownBlock=some q→v.ownBlock=some q∨W.heap.size≤q):
  SpI w0 (w1.setCell ⟨bo,0,none⟩ v') kind to_ rn rc final bo (ps++ [p]) su v':=by
 have hlo:=h.lo
 have hbo:bo<W.heap.size:=(Array.getElem?_eq_some_iff.1 h.o).1
 have hbs:bo+1<W.heap.size:=(Array.getElem?_eq_some_iff.1 h.s).1
 have h1:∀q,q<W.heap.size→v.ownBlock≠some q→w1.heap[q]?=W.heap[q]? :=fun q hq hn=>(hgrow.block q (by simp;omega) (fun e=>hn e.symm)).trans (Below.heap_alloc _ _ _ hq)
 have h2:∀q,q<W.heap.size→v.ownBlock≠some q→q≠bo→(w1.setCell ⟨bo,0,none⟩ v').heap[q]?=W.heap[q]? :=fun q hq hn hb=>(Below.heap_setCell _ _ _ _ hb).trans (h1 q hq hn)
 have hfar:∀q,v'.ownBlock=some q→w0.heap.size+1+1<q∧q≠bo∧q≠bo+1:=fun q hq=>by
  rcases hat q hq with h3 | h3
  ·exact h.far q h3
  ·exact⟨by omega,by omega,by omega⟩
 refine⟨(h2 _ (by omega) (fun e=>by have:=(h.far _ e).1;omega) (by omega)).trans h.c0,(h2 _ (by omega) (fun e=>by have:=(h.far _ e).1;omega) (by omega)).trans h.c1,(h2 _ (by omega) (fun e=>by have:=(h.far _ e).1;omega) (by omega)).trans h.c2,
  setOne ((h1 bo hbo (fun e=>(h.far _ e).2.1 rfl)).trans h.o),own_stay hown (fun q hq=>Below.heap_setCell _ _ _ _ (hfar q hq).2.1),hfar,(h2 _ hbs (fun e=>(h.far _ e).2.2 rfl) (by omega)).trans h.s,?_,h.lo⟩
 have hb:=h.below
 have hsz:=hb.size
 exact((hb.alloc hsz _).trans ((Below.refl _ _).grown hgrow (by simp;omega) (fun q hq=>by have:=(h.far q hq).1;omega))).setCell (p:=⟨bo,0,none⟩) (show w0.heap.size≤bo by omega) _
attribute [local go_sem] Oper.semAt_some
theorem split_calls {text:List Int} {T:List Rg} {ao to_:Option Addr} {tn tc rn rc:Nat} (kind:Int) (final:Bool) (w:World) (hS:SlI w ao tn tc text) (hsz:tn≤1048570)
  (hR:SlF 3 w to_ rn rc (flat Rg.enc T)) (hT:MayTab T) (hk0:0≤kind) (hk3:kind≤3):
  Calls Tryz.prog 60 #[.int .i64 kind, .slice to_ rn rc, .slice ao tn tc, .bool final] w fun e w'=>(∃v,e= .returned v∧OwnF pcEnc 2 51 w' w.heap.size v (splitF kind T text final))∧Below w.heap.size w w':=by
 refine(callsIn_wide (n:=5)).1 ?_
 obtain⟨wa,hwa⟩:∃wa,((w.alloc (.cells #[.int .i64 kind] 3)).alloc (.cells #[.slice to_ rn rc] 27)).alloc (.cells #[.bool final] 4)=wa:=⟨_,rfl⟩
 have hba:Below w.heap.size w wa:=by rw[←hwa];exact((below_alloc w _).alloc (by simp) _).alloc (by simp;omega) _
 have k2:wa.heap[w.heap.size+1+1]?=some (.cells #[.bool final] 4):=by
  rw[←hwa]
  have:=heap_alloc_new ((w.alloc (.cells #[.int .i64 kind] 3)).alloc (.cells #[.slice to_ rn rc] 27)) (.cells #[.bool final] 4)
  simpa using this
 have k1:wa.heap[w.heap.size+1]?=some (.cells #[.slice to_ rn rc] 27):=by
  rw[←hwa]
  refine(Below.heap_alloc _ _ _ (by simp)).trans ?_
  have:=heap_alloc_new (w.alloc (.cells #[.int .i64 kind] 3)) (.cells #[.slice to_ rn rc] 27)
  simpa using this
 have k0:wa.heap[w.heap.size]?=some (.cells #[.int .i64 kind] 3):=by
  rw[←hwa]
  exact(Below.heap_alloc _ _ _ (by simp;omega)).trans ((Below.heap_alloc _ _ _ (by simp)).trans (heap_alloc_new w _))
 have hsa:wa.heap.size=w.heap.size+1+1+1:=by rw[←hwa];simp
 have hmay:=(callsIn_wide (n:=4)).2 (classMay_calls wa (hR.below hba))
 have hlt:decide (kind<0)=false:=by simp;omega
 have hgt:decide (3<kind)=false:=by simp;omega
 have HWA:=Lib.hid hwa
 have HK0:=Lib.hid k0
 have HK1:=Lib.hid k1
 have HK2:=Lib.hid k2
 have HBA:=Lib.hid hba
 have HSA:=Lib.hid hsa
 have HT:=Lib.hid hT
 have HR:=Lib.hid hR
 have HS:=Lib.hid hS
 have HM:=Lib.hid hmay
 refine callsIn_of_wp_marks Tryz.func60 rfl trivial ?_ rfl
 simp only[Tryz.ntmps60,List.size_toArray,List.length_cons,List.length_nil,Nat.reduceAdd,Nat.reduceSub,Array.replicate_succ,Array.replicate_zero,List.push_toArray,List.append_toArray,List.nil_append,List.cons_append]
 clear hwa k0 k1 k2 hba hsa hT hR hS hmay
 gi_wp2_with (refine⟨trivial,?_⟩;gi_at_call 51;rw[HWA.out];refine HM.out.mono ?_;rintro e w2 ⟨⟨bb,rfl,hbb⟩,hb2⟩;obtain rfl:bb=true:=hbb.2 HT.out;clear hbb)
 obtain⟨wb,hwb⟩:∃wb,(w2.alloc (.cells #[.slice none 0 0] 48)).alloc (.cells #[.bool true] 4)=wb:=⟨_,rfl⟩
 have HB2:=Lib.hid hb2
 have HWB:=Lib.hid hwb
 clear hb2 hwb
 have hruns:=(callsIn_wide (n:=4)).2 (runs_calls (ao:=ao) (tn:=tn) (tc:=tc) wb)
 gi_wp2_with (refine⟨trivial,?_⟩;gi_at_call 92;rw[HWB.out];refine hruns.mono ?_;rintro e w3 ⟨rfl,rfl⟩)
 have hsw2:=HB2.out.size
 have hsb:wb.heap.size=w2.heap.size+1+1:=by rw[←HWB.out];simp
 obtain⟨wc,hwc⟩:∃wc,wb.alloc (.cells #[.slice ao tn tc] 43)=wc:=⟨_,rfl⟩
 have hsc:wc.heap.size=w2.heap.size+1+1+1:=by rw[←hwc];simp[hsb]
 have hb2b:Below w2.heap.size w2 wb:=by rw[←HWB.out];exact(below_alloc w2 _).alloc (by simp) _
 have hbbc:Below wb.heap.size wb wc:=hwc▸below_alloc wb _
 have hbw:Below w.heap.size w wc:=(HBA.out.trans (HB2.out.mono HBA.out.size)).trans ((hb2b.trans (hbbc.mono (by omega))).mono (by have:=HSA.out;omega))
 have hin:SpI w wc kind to_ rn rc final w2.heap.size [] true (.slice none 0 0):=by
  have hs:=HSA.out
  have e2:∀q,q<w2.heap.size→wc.heap[q]?=w2.heap[q]? :=fun q hq=>(hbbc.block q (by omega)).trans (hb2b.block q hq)
  have e3:∀q,q<wa.heap.size→wc.heap[q]?=wa.heap[q]? :=fun q hq=>(e2 q (by omega)).trans (HB2.out.block q hq)
  have o1:wb.heap[w2.heap.size]?=some (.cells #[.slice none 0 0] 48):=by
   rw[←HWB.out]
   exact(Below.heap_alloc _ _ _ (by simp)).trans (heap_alloc_new w2 _)
  have o2:wb.heap[w2.heap.size+1]?=some (.cells #[.bool true] 4):=by
   rw[←HWB.out]
   have:=heap_alloc_new (w2.alloc (.cells #[.slice none 0 0] 48)) (.cells #[.bool true] 4)
   simpa using this
  exact⟨(e3 _ (by omega)).trans HK0.out,(e3 _ (by omega)).trans HK1.out,(e3 _ (by omega)).trans HK2.out,(hbbc.block _ (by omega)).trans o1,OwnF.nil _ _,(fun q e=>by cases e),(hbbc.block _ (by omega)).trans o2,hbw,by omega⟩
 have hbox:wc.cell? ⟨wb.heap.size,0,none⟩=some (.slice ao tn tc):=by
  have:=heap_alloc_new wb (.cells #[.slice ao tn tc] 43)
  rw[hwc]at this
  simp[World.cell?,this]
 have HIN:=Lib.hid hin
 have HBW:=Lib.hid hbw
 have HBOX:=Lib.hid hbox
 have HSC:=Lib.hid hsc
 have HSB:=Lib.hid hsb
 rw[hwc]
 clear hwc hb2b hbbc hin hbw hbox hsw2 hruns
 refine wpIn_rangeR (gf:=125) (lb:=#[.pointer (some ⟨wb.heap.size,0,none⟩)]) rfl (by omega) rfl trivial (enters_of Tryz.func125 (by kernel_rfl) rfl) (encs:=Rn.enc) w.heap.size (by have:=HSC.out;have:=HSA.out;have:=HB2.out.size;omega)
  (fun xs=>xs.map Rn.pr=runsGo [] text) (RnOk tn) RnIn ?hrx ?hseq (fun _=>rfl)
  (fun pre W=>∃v,SpI w W kind to_ rn rc final w2.heap.size (stOf kind T final pre).1 (stOf kind T final pre).2 v) ?hI ?hIB ⟨_,HIN.out⟩ ?a1 ?assign ?body ?done
 case hrx=>exact fun Wj x A B row h hg hr=>⟨Sl.stay h.1 (fun p u hc=>cell_kept hc hg (fun r e=>(hr r e).2)),fun ad e=>⟨(h.2 ad e).1,Nat.lt_of_lt_of_le (h.2 ad e).2 hg.size⟩⟩
 case hI=>
  rintro pre A B row ⟨v,h⟩ hg hr
  refine⟨v,h.stay (fun q o ho hc=>(grownBy_keeps_cells hg (fun r e=>(hr r e).2) ho hc).trans ho) (h.below.trans ((Below.refl _ _).grown hg h.below.size (fun r e=>by have:=(hr r e).1;have:=HSC.out;have:=HSA.out;have:=HB2.out.size;omega)))⟩
 case hIB=>rintro pre A B ⟨v,h⟩ hb;exact⟨v,h.on hb⟩
 case hseq=>
  intro l J W hW hJ hY h0
  exact runs1_in 3 l wb.heap.size w.heap.size w HS.out rfl (by omega) J hJ W (HBW.out.trans (hW.mono HBW.out.size)) (cell_below hW _ _ HBOX.out) hY h0
 case assign=>
  intro l x W K hK
  unfold Rn.enc
  gi_wp2
  exact hK
 case done=>
  rintro D xs W hD hxs ⟨v,h⟩ hK
  obtain⟨b0,bf⟩:=boxOne h.o
  have hfin:(stOf kind T final xs).1=splitF kind T text final:=by
   unfold stOf
   rw[hxs]
   have:=runs_split (kind:=kind) (final:=final) HT.out (text:=text) (run:=[]) (acc:=[]) (by simp)
   simpa using this
  have HROW:=Lib.hid h.row
  rw[hfin]at HROW
  have HBL:=Lib.hid h.below
  have hD2:w.heap.size≤D:=by have:=HBW.out.size;omega
  clear h hfin hxs
  gi_wp2
  refine⟨by simp, .inl ⟨_,_,rfl,run_takeDeferred hK,?_⟩⟩
  exact⟨_,results_tmp rfl _ _ _,⟨v,rfl,ownsRow_putObj HROW.out _ hK rfl⟩,HBL.out.trans (belowK_b (w:=w) (Nat.le_refl _) W D _ _ hD2 hK rfl rfl)⟩
 case body=>
  rintro l pre x Wj W ⟨vj,hij⟩ hkj hsj ⟨v,hi⟩ ⟨hxb,hxlo⟩ ⟨hcost,hby⟩
  obtain rfl:v=vj:=by
   have h1:=hkj _ _ hij.o rfl
   rw[hi.o]at h1
   simpa using h1
  have hvx:∀ad,x.ao=some ad→v.ownBlock≠some ad.block:=fun ad e h=>by
   have h1:=(World.ownsRow.lt hij.row ad.block h).2
   have h2:=(hxlo ad e).1
   omega
  obtain⟨fb,hfb⟩:∃fb,(x.behind || final)=fb:=⟨_,rfl⟩
  obtain⟨⟨acc,s0⟩,hst⟩:∃st,stOf kind T final pre=st:=⟨_,rfl⟩
  have hacc:acc.length≤costR pre:=by have:=stOf_len (kind:=kind) (T:=T) (final:=final) pre;rw[hst]at this;exact this
  have hsn:=stOf_snoc (kind:=kind) (T:=T) (final:=final) pre x
  rw[hst]at hsn hi
  unfold stepRun Rn.pr at hsn
  simp only[hfb]at hsn hi
  obtain⟨⟨P,sf⟩,hP⟩:∃q,piecesGo kind T fb x.bytes.length x.bytes s0=q:=⟨_,rfl⟩
  rw[hP]at hsn
  simp only at hsn
  rw[costR_snoc]at hcost
  have HSN:=Lib.hid hsn
  have HP:=Lib.hid hP
  have HFB:=Lib.hid hfb
  have HXB:=Lib.hid hxb
  have HBY:=Lib.hid hby
  have HIW:=Lib.hid hi
  have HVX:=Lib.hid hvx
  have HXL:Hid (∀ad,x.ao=some ad→ad.block<W.heap.size):=Lib.hid (fun ad e=>(hxlo ad e).2)
  have HXO:Hid (∀ad,x.ao=some ad→w2.heap.size+1<ad.block):=Lib.hid (fun ad e=>by
   have h1:=(hxlo ad e).1
   have h2:=(Array.getElem?_eq_some_iff.1 hij.s).1
   omega)
  have hxn:x.bytes.length=x.n:=hxb.len
  obtain⟨i0,z0,hci,hz0,hz1,hz2,hz3⟩:=info_row infoPc
  obtain⟨j0,hj,hj0,hj1,hj2⟩:=info_parts infoB
  clear hij hkj hsj hxlo hsn hP hfb hst hxb hby hi hvx
  have hrd:(Fence.wide.inRound l).round=some l:=rfl
  have hfnF:∀f,(Fence.wide.inRound l).fn f=True:=fun _=>rfl
  gi_wp2
  gi_loopw [11] (fun rv wr=>∃(ro:Option Addr) (rn' rc':Nat) (rest:List Int) (D:List (Int×Bool)) (s:Bool) (v':Value),rv= .slice ro rn' rc'∧rn'=rest.length∧D.length+rest.length≤x.bytes.length∧Hid (SlB W ro rn' rc' rest)∧Hid (∀ad,ro=some ad→∃a0,x.ao=some a0∧a0.block=ad.block)∧Hid (∀y∈rest,0≤y∧y<256)∧
    Hid (SpI w wr kind to_ rn rc final w2.heap.size (acc++D) s v')∧Hid (∀ad,x.ao=some ad→v'.ownBlock≠some ad.block)∧Hid (∀ad,x.ao=some ad→wr.heap[ad.block]?=W.heap[ad.block]?)∧Hid (KeepsFrom wc.heap.size W wr)∧
    Hid (D++(piecesGo kind T fb rest.length rest s).1=P)∧Hid ((piecesGo kind T fb rest.length rest s).2=sf)) (fun rv _=>match rv with | .slice _ n _=>n | _=>0)
  case atStart=>
   exact⟨x.ao,x.n,x.c,x.bytes,[],s0,v,rfl,hxn.symm,by simp,HXB,Lib.hid (fun ad e=>⟨ad,e,rfl⟩),HBY,Lib.hid (by simpa using HIW.out),HVX,Lib.hid (fun _ _=>rfl),Lib.hid (KeepsFrom.refl _ _),Lib.hid (by rw[HP.out];rfl),Lib.hid (by rw[HP.out])⟩
  case round=>
   obtain⟨ro,rn',rc',rest,D,s,v',rfl,hrn,hDl,HRB,HRA,HRY,HSI,HVO,HXS,HKF,HPP,HPS⟩:=hrel
   have HRW:Hid (SlB wr ro rn' rc' rest):=Lib.hid (slB_other HRB.out (fun ad e=>by
    obtain⟨a0,h1,h2⟩:=HRA.out ad e
    rw[←h2];exact HXS.out a0 h1))
   cases rest with
   | nil=>
    have hr0:rn'=0:=by simpa using hrn
    subst hr0
    have HD:Hid (D=P):=Lib.hid (by have:=HPP.out;simpa[piecesGo]using this)
    have HSF:Hid (s=sf):=Lib.hid (by have:=HPS.out;simpa[piecesGo]using this)
    have HDL:=Lib.hid hDl
    clear hrn hDl
    have HLN:Hid ((acc++D).length≤1048575):=Lib.hid (by rw[List.length_append];have hDl:=HDL.out;simp only[List.length_nil]at hDl;omega)
    obtain⟨q0,q1⟩:=boxOne HSI.out.o
    obtain⟨r0,r1⟩:=boxOne HSI.out.s
    cases hbh:x.behind with
    | false=>
     have HSN2:Hid (stOf kind T final (pre++ [x])=(acc++D,s)):=Lib.hid (by rw[HSN.out,hbh,HD.out,HSF.out];simp)
     gi_wp2
     exact⟨HKF.out,below_twoS HIW.out.below HSI.out.below HKF.out.size,v',by rw[HSN2.out];exact HSI.out⟩
    | true=>
     have HSN2:Hid (stOf kind T final (pre++ [x])=(acc++D++ [(1,s)],s)):=Lib.hid (by rw[HSN.out,hbh,HD.out,HSF.out];simp)
     have HNW:Hid (∀j u,[Value.int .i64 1,Value.bool s][j]?=some u→(wr.alloc (.cells #[.int .i64 1, .bool s] 51)).cell? ((⟨wr.heap.size,0,none⟩:Addr).add j)=some u):=Lib.hid (by
      have:=World.news_of_block (cs:=#[.int .i64 1, .bool s]) (heap_alloc_new wr (.cells #[.int .i64 1, .bool s] 51))
      exact this)
     gi_wp2_with (gi_at_builtin;go_loud (refine wpListIn_append_at _ rfl _ _ 48 rfl w.heap.size 51 i0 z0 2 16 Tryz.underlying48 hci hz0 hz1 hz2 hz3 (by omega) _ _ _ rfl (World.ownsRow.alloc HSI.out.row _) ⟨wr.heap.size,0,none⟩ 1 1 [.int .i64 1, .bool s] rfl rfl HNW.out (by simp[Value.oneCell']) (by have:=HLN.out;unfold maxLen;omega) (by have:=HLN.out;omega) (by have:=HSI.out.below.size;simp;omega) ?_))
     intro v2 w5 hown' hgrow hat
     obtain⟨g2,cap2,hv2⟩:=ownsRow_succ hown'
     obtain⟨kk,hkk⟩:∃kk,acc.length+D.length+1=kk:=⟨_,rfl⟩
     have hv3:v2= .slice (some ⟨g2,0,none⟩) kk cap2:=by rw[hv2,←hkk];try rfl
     subst hv3
     clear hv2 hkk
     have hx5:w5.heap[w2.heap.size]?=some (.cells #[v'] 48):=(hgrow.block _ (by have:=(Array.getElem?_eq_some_iff.1 HSI.out.o).1;simp;omega) (fun e=>(HSI.out.far _ e.symm).2.1 rfl)).trans ((Below.heap_alloc _ _ _ (Array.getElem?_eq_some_iff.1 HSI.out.o).1).trans HSI.out.o)
     obtain⟨y0,y1⟩:=boxOne hx5
     have hat2:∀q,(Value.slice (some ⟨g2,0,none⟩) kk cap2).ownBlock=some q→v'.ownBlock=some q∨wr.heap.size≤q:=fun q hq=>by
      rcases hat with h | h
      ·left;rw[←h];exact hq
      ·right
       rw[hq]at h
       have:=Option.some.inj h
       first | (simp at this;omega) | omega
     have hown2:OwnF pcEnc 2 51 w5 w.heap.size (.slice (some ⟨g2,0,none⟩) kk cap2) ((acc++D)++ [(1,s)]):=by
      unfold OwnF
      rw[List.length_append,List.length_append,List.length_singleton,flat_append,flat_one]
      exact hown'
     have HPU:=Lib.hid (HSI.out.push (1,s) hgrow hown2 hat2)
     have HVO2:Hid (∀ad,x.ao=some ad→(Value.slice (some ⟨g2,0,none⟩) kk cap2).ownBlock≠some ad.block):=Lib.hid (fun ad e h=>by
      rcases hat2 _ h with h1 | h1
      ·exact HVO.out ad e h1
      ·have:=HXL.out ad e;have:=HKF.out.size;omega)
     have HKF2:=Lib.hid (keepSet (keepGrow (keepOn HKF.out (below_alloc wr (.cells #[.int .i64 1, .bool s] 51))) hgrow (World.ownsRow.alloc HSI.out.row _)) ⟨w2.heap.size,0,none⟩ (.slice (some ⟨g2,0,none⟩) kk cap2))
     have HXS2:Hid (∀ad,x.ao=some ad→(w5.setCell ⟨w2.heap.size,0,none⟩ (.slice (some ⟨g2,0,none⟩) kk cap2)).heap[ad.block]?=W.heap[ad.block]?):=Lib.hid (fun ad e=>by
      have h1:=HXL.out ad e
      have h2:=HXO.out ad e
      refine(Below.heap_setCell _ _ _ _ (by show ad.block≠w2.heap.size;omega)).trans ((hgrow.block _ (by have:=HKF.out.size;simp;omega) (fun h=>HVO.out ad e h.symm)).trans ((Below.heap_alloc _ _ _ (by have:=HKF.out.size;omega)).trans (HXS.out ad e))))
     clear hown' hgrow hat hx5 hat2 hown2
     gi_wp2
     exact⟨HKF2.out,below_twoS HIW.out.below HPU.out.below HKF2.out.size,(.slice (some ⟨g2,0,none⟩) kk cap2),by rw[HSN2.out];exact HPU.out⟩
   | cons c rest'=>
    have hrn2:rn'=rest'.length+1:=by simpa using hrn
    have hrp:(0:Int)<(rn':Int):=by omega
    obtain⟨⟨n,d⟩,hnx⟩:∃q,nextF kind T (c::rest') fb=q:=⟨_,rfl⟩
    have hnl:=nextF_le (kind:=kind) HT.out HRY.out (by simp) fb
    rw[hnx]at hnl
    obtain⟨hn1,hn2⟩:=hnl
    simp only at hn1 hn2
    obtain⟨m,hm⟩:=Int.eq_ofNat_of_zero_le (show 0≤n by omega)
    subst hm
    simp only[List.length_cons]at hn2 hDl
    have hmr:m≤rn':=by omega
    have hnext:=next_calls kind fb wr HRW.out HRY.out (by simp) (by omega) (SlF.below HR.out HSI.out.below) HT.out hk0 hk3
    unfold nextV at hnext
    rw[hnx]at hnext
    simp only at hnext
    have HPC:Hid (piecesGo kind T fb (c::rest').length (c::rest') s=(((m:Int),s && d)::(piecesGo kind T fb ((c::rest').drop m).length ((c::rest').drop m) (s && d)).1,(piecesGo kind T fb ((c::rest').drop m).length ((c::rest').drop m) (s && d)).2)):=Lib.hid (by
     have hmo:=pieces_more (kind:=kind) (final:=fb) HT.out (k:=rest'.length) (j:=((c::rest').drop m).length) (run:=(c::rest').drop m) (sure:=s && d) (by simp;omega) (Nat.le_refl _) (fun y hy=>HRY.out y (List.mem_of_mem_drop hy))
     rw[←hmo]
     simp only[List.length_cons,piecesGo]
     rw[if_neg (by simp),hnx]
     rfl)
    have HRN:=Lib.hid hrn2
    have HDL:=Lib.hid hDl
    obtain⟨ro2,hsl,hslB,hslA⟩:=run_sliceB (ao:=ro) (n:=rn') (cap:=rc') (k:=m) (L:=(m:Int)) rfl hmr j0 hj hj1
    have HSB2:=Lib.hid (hslB W _ HRB.out)
    have HSA2:=Lib.hid hslA
    have HSL:=Lib.hid hsl
    have HLN:Hid ((acc++D).length≤1048575):=Lib.hid (by rw[List.length_append];omega)
    have HNX:=Lib.hid hnext
    obtain⟨k0,_⟩:=boxOne HSI.out.c0
    obtain⟨k1,_⟩:=boxOne HSI.out.c1
    obtain⟨k2,_⟩:=boxOne HSI.out.c2
    clear hnext hnx hslB hslA hsl hrn hrn2 hDl
    cases hbh:x.behind with
    | true=>
     obtain rfl:fb=true:=by rw[←HFB.out,hbh];rfl
     gi_wp2_with (fail)
     refine(CallsIn.inRound l (callsIn_wide.2 HNX.out)).mono ?_
     rintro e W3 ⟨rfl,hb3⟩
     have hs3:=HSI.out.on hb3
     have HKF3:=Lib.hid (keepOn HKF.out hb3)
     have HXS3:Hid (∀ad,x.ao=some ad→W3.heap[ad.block]?=W.heap[ad.block]?):=Lib.hid (fun ad e=>(hb3.block _ (by have:=HXL.out ad e;have:=HKF.out.size;omega)).trans (HXS.out ad e))
     obtain⟨W4,hW4⟩:∃W4,W3.setCell ⟨w2.heap.size+1,0,none⟩ (.bool (s && d))=W4:=⟨_,rfl⟩
     have hs4:=hs3.setS (s && d)
     have hz4:W4.heap.size=W3.heap.size:=by rw[←hW4];simp
     have hk4:=keepSet HKF3.out ⟨w2.heap.size+1,0,none⟩ (.bool (s && d))
     have hx4:∀ad,x.ao=some ad→W4.heap[ad.block]?=W.heap[ad.block]? :=fun ad e=>by
      rw[←hW4]
      exact(Below.heap_setCell _ _ _ _ (by have:=HXO.out ad e;show ad.block≠w2.heap.size+1;omega)).trans (HXS3.out ad e)
     obtain⟨p0,p1⟩:=boxOne hs3.s
     obtain⟨u0,u1⟩:=boxOne hs3.o
     obtain⟨r0,r1⟩:=boxOne hs4.s
     obtain⟨t0,t1⟩:=boxOne hs4.o
     rw[hW4]at hs4 hk4
     have HS4:=Lib.hid hs4
     have HK4:=Lib.hid hk4
     have HX4:=Lib.hid hx4
     have HW4:=Lib.hid hW4
     have HZ4:=Lib.hid hz4
     clear hb3 hs3 hs4 hk4 hx4 hW4 hz4 k0 k1 k2
     cases s with
     | true=>
      simp only[Bool.true_and]at *
      have HNW:Hid (∀j u,[Value.int .i64 (m:Int),Value.bool d][j]?=some u→(W4.alloc (.cells #[.int .i64 (m:Int), .bool d] 51)).cell? ((⟨W3.heap.size,0,none⟩:Addr).add j)=some u):=Lib.hid (by
       have:=World.news_of_block (cs:=#[.int .i64 (m:Int), .bool d]) (heap_alloc_new W4 (.cells #[.int .i64 (m:Int), .bool d] 51))
       rw[HZ4.out]at this
       exact this)
      gi_wp2_with (gi_at_builtin;rw[HW4.out];go_loud (refine wpListIn_append_at _ rfl _ _ 48 rfl w.heap.size 51 i0 z0 2 16 Tryz.underlying48 hci hz0 hz1 hz2 hz3 (by omega) _ _ _ rfl (World.ownsRow.alloc HS4.out.row _) ⟨W3.heap.size,0,none⟩ 1 1 [.int .i64 (m:Int), .bool d] rfl rfl HNW.out (by simp[Value.oneCell']) (by have:=HLN.out;unfold maxLen;omega) (by have:=HLN.out;omega) (by have:=HS4.out.below.size;simp;omega) ?_))
      intro v2 w5 hown' hgrow hat
      obtain⟨g2,cap2,hv2⟩:=ownsRow_succ hown'
      obtain⟨kk,hkk⟩:∃kk,acc.length+D.length+1=kk:=⟨_,rfl⟩
      have hv3:v2= .slice (some ⟨g2,0,none⟩) kk cap2:=by rw[hv2,←hkk];try rfl
      subst hv3
      clear hv2 hkk
      have hx5:w5.heap[w2.heap.size]?=some (.cells #[v'] 48):=(hgrow.block _ (by have:=(Array.getElem?_eq_some_iff.1 HS4.out.o).1;simp;omega) (fun e=>(HS4.out.far _ e.symm).2.1 rfl)).trans ((Below.heap_alloc _ _ _ (Array.getElem?_eq_some_iff.1 HS4.out.o).1).trans HS4.out.o)
      obtain⟨y0,y1⟩:=boxOne hx5
      have hat2:∀q,(Value.slice (some ⟨g2,0,none⟩) kk cap2).ownBlock=some q→v'.ownBlock=some q∨W4.heap.size≤q:=fun q hq=>by
       rcases hat with h | h
       ·left;rw[←h];exact hq
       ·right
        rw[hq]at h
        have:=Option.some.inj h
        first | (simp at this;omega) | omega
      have hown2:OwnF pcEnc 2 51 w5 w.heap.size (.slice (some ⟨g2,0,none⟩) kk cap2) ((acc++D)++ [((m:Int),d)]):=by
       unfold OwnF
       rw[List.length_append,List.length_append,List.length_singleton,flat_append,flat_one]
       exact hown'
      have HPU:=Lib.hid (HS4.out.push ((m:Int),d) hgrow hown2 hat2)
      have HVO2:Hid (∀ad,x.ao=some ad→(Value.slice (some ⟨g2,0,none⟩) kk cap2).ownBlock≠some ad.block):=Lib.hid (fun ad e h=>by
       rcases hat2 _ h with h1 | h1
       ·exact HVO.out ad e h1
       ·have:=HXL.out ad e;have:=HKF3.out.size;have:=HZ4.out;omega)
      have HKF2:=Lib.hid (keepSet (keepGrow (keepOn HK4.out (below_alloc W4 (.cells #[.int .i64 (m:Int), .bool d] 51))) hgrow (World.ownsRow.alloc HS4.out.row _)) ⟨w2.heap.size,0,none⟩ (.slice (some ⟨g2,0,none⟩) kk cap2))
      have HXS2:Hid (∀ad,x.ao=some ad→(w5.setCell ⟨w2.heap.size,0,none⟩ (.slice (some ⟨g2,0,none⟩) kk cap2)).heap[ad.block]?=W.heap[ad.block]?):=Lib.hid (fun ad e=>by
       have h1:=HXL.out ad e
       have h2:=HXO.out ad e
       refine(Below.heap_setCell _ _ _ _ (by show ad.block≠w2.heap.size;omega)).trans ((hgrow.block _ (by have:=HKF3.out.size;have:=HZ4.out;simp;omega) (fun h=>HVO.out ad e h.symm)).trans ((Below.heap_alloc _ _ _ (by have:=HKF3.out.size;have:=HZ4.out;omega)).trans (HX4.out ad e))))
      clear hown' hgrow hat hx5 hat2 hown2 p0 p1 u0 u1 r0 r1 t0 t1
      have hsl:=HSL.out
      gi_wp2
      go_roundw
      case rel=>
       refine⟨ro2,rn'-m,rc'-m,(c::rest').drop m,D++ [((m:Int),d)],d,(.slice (some ⟨g2,0,none⟩) kk cap2),rfl,by rw[List.length_drop,List.length_cons];have:=HRN.out;omega,by have:=HDL.out;rw[List.length_append,List.length_drop,List.length_cons];simp;omega,HSB2,Lib.hid (fun ad e=> ?_),Lib.hid (fun y hy=>HRY.out y (List.mem_of_mem_drop hy)),Lib.hid (by rw[←List.append_assoc];exact HPU.out),HVO2,HXS2,HKF2,Lib.hid (by rw[←HPP.out,HPC.out];simp),Lib.hid (by rw[←HPS.out,HPC.out])⟩
       obtain⟨a1,h1,h2⟩:=HSA2.out ad e
       obtain⟨a0,h3,h4⟩:=HRA.out a1 h1
       exact⟨a0,h3,h4.trans h2⟩
      case measure=>simp;omega
     | false=>
      simp only[Bool.false_and]at *
      have HNW:Hid (∀j u,[Value.int .i64 (m:Int),Value.bool false][j]?=some u→(W4.alloc (.cells #[.int .i64 (m:Int), .bool false] 51)).cell? ((⟨W3.heap.size,0,none⟩:Addr).add j)=some u):=Lib.hid (by
       have:=World.news_of_block (cs:=#[.int .i64 (m:Int), .bool false]) (heap_alloc_new W4 (.cells #[.int .i64 (m:Int), .bool false] 51))
       rw[HZ4.out]at this
       exact this)
      gi_wp2_with (gi_at_builtin;rw[HW4.out];go_loud (refine wpListIn_append_at _ rfl _ _ 48 rfl w.heap.size 51 i0 z0 2 16 Tryz.underlying48 hci hz0 hz1 hz2 hz3 (by omega) _ _ _ rfl (World.ownsRow.alloc HS4.out.row _) ⟨W3.heap.size,0,none⟩ 1 1 [.int .i64 (m:Int), .bool false] rfl rfl HNW.out (by simp[Value.oneCell']) (by have:=HLN.out;unfold maxLen;omega) (by have:=HLN.out;omega) (by have:=HS4.out.below.size;simp;omega) ?_))
      intro v2 w5 hown' hgrow hat
      obtain⟨g2,cap2,hv2⟩:=ownsRow_succ hown'
      obtain⟨kk,hkk⟩:∃kk,acc.length+D.length+1=kk:=⟨_,rfl⟩
      have hv3:v2= .slice (some ⟨g2,0,none⟩) kk cap2:=by rw[hv2,←hkk];try rfl
      subst hv3
      clear hv2 hkk
      have hx5:w5.heap[w2.heap.size]?=some (.cells #[v'] 48):=(hgrow.block _ (by have:=(Array.getElem?_eq_some_iff.1 HS4.out.o).1;simp;omega) (fun e=>(HS4.out.far _ e.symm).2.1 rfl)).trans ((Below.heap_alloc _ _ _ (Array.getElem?_eq_some_iff.1 HS4.out.o).1).trans HS4.out.o)
      obtain⟨y0,y1⟩:=boxOne hx5
      have hat2:∀q,(Value.slice (some ⟨g2,0,none⟩) kk cap2).ownBlock=some q→v'.ownBlock=some q∨W4.heap.size≤q:=fun q hq=>by
       rcases hat with h | h
       ·left;rw[←h];exact hq
       ·right
        rw[hq]at h
        have:=Option.some.inj h
        first | (simp at this;omega) | omega
      have hown2:OwnF pcEnc 2 51 w5 w.heap.size (.slice (some ⟨g2,0,none⟩) kk cap2) ((acc++D)++ [((m:Int),false)]):=by
       unfold OwnF
       rw[List.length_append,List.length_append,List.length_singleton,flat_append,flat_one]
       exact hown'
      have HPU:=Lib.hid (HS4.out.push ((m:Int),false) hgrow hown2 hat2)
      have HVO2:Hid (∀ad,x.ao=some ad→(Value.slice (some ⟨g2,0,none⟩) kk cap2).ownBlock≠some ad.block):=Lib.hid (fun ad e h=>by
       rcases hat2 _ h with h1 | h1
       ·exact HVO.out ad e h1
       ·have:=HXL.out ad e;have:=HKF3.out.size;have:=HZ4.out;omega)
      have HKF2:=Lib.hid (keepSet (keepGrow (keepOn HK4.out (below_alloc W4 (.cells #[.int .i64 (m:Int), .bool false] 51))) hgrow (World.ownsRow.alloc HS4.out.row _)) ⟨w2.heap.size,0,none⟩ (.slice (some ⟨g2,0,none⟩) kk cap2))
      have HXS2:Hid (∀ad,x.ao=some ad→(w5.setCell ⟨w2.heap.size,0,none⟩ (.slice (some ⟨g2,0,none⟩) kk cap2)).heap[ad.block]?=W.heap[ad.block]?):=Lib.hid (fun ad e=>by
       have h1:=HXL.out ad e
       have h2:=HXO.out ad e
       refine(Below.heap_setCell _ _ _ _ (by show ad.block≠w2.heap.size;omega)).trans ((hgrow.block _ (by have:=HKF3.out.size;have:=HZ4.out;simp;omega) (fun h=>HVO.out ad e h.symm)).trans ((Below.heap_alloc _ _ _ (by have:=HKF3.out.size;have:=HZ4.out;omega)).trans (HX4.out ad e))))
      clear hown' hgrow hat hx5 hat2 hown2 p0 p1 u0 u1 r0 r1 t0 t1
      have hsl:=HSL.out
      gi_wp2
      go_roundw
      case rel=>
       refine⟨ro2,rn'-m,rc'-m,(c::rest').drop m,D++ [((m:Int),false)],false,(.slice (some ⟨g2,0,none⟩) kk cap2),rfl,by rw[List.length_drop,List.length_cons];have:=HRN.out;omega,by have:=HDL.out;rw[List.length_append,List.length_drop,List.length_cons];simp;omega,HSB2,Lib.hid (fun ad e=> ?_),Lib.hid (fun y hy=>HRY.out y (List.mem_of_mem_drop hy)),Lib.hid (by rw[←List.append_assoc];exact HPU.out),HVO2,HXS2,HKF2,Lib.hid (by rw[←HPP.out,HPC.out];simp),Lib.hid (by rw[←HPS.out,HPC.out])⟩
       obtain⟨a1,h1,h2⟩:=HSA2.out ad e
       obtain⟨a0,h3,h4⟩:=HRA.out a1 h1
       exact⟨a0,h3,h4.trans h2⟩
      case measure=>simp;omega
    | false=>
     obtain rfl:fb=final:=by rw[←HFB.out,hbh];rfl
     gi_wp2_with (fail)
     refine(CallsIn.inRound l (callsIn_wide.2 HNX.out)).mono ?_
     rintro e W3 ⟨rfl,hb3⟩
     have hs3:=HSI.out.on hb3
     have HKF3:=Lib.hid (keepOn HKF.out hb3)
     have HXS3:Hid (∀ad,x.ao=some ad→W3.heap[ad.block]?=W.heap[ad.block]?):=Lib.hid (fun ad e=>(hb3.block _ (by have:=HXL.out ad e;have:=HKF.out.size;omega)).trans (HXS.out ad e))
     obtain⟨W4,hW4⟩:∃W4,W3.setCell ⟨w2.heap.size+1,0,none⟩ (.bool (s && d))=W4:=⟨_,rfl⟩
     have hs4:=hs3.setS (s && d)
     have hz4:W4.heap.size=W3.heap.size:=by rw[←hW4];simp
     have hk4:=keepSet HKF3.out ⟨w2.heap.size+1,0,none⟩ (.bool (s && d))
     have hx4:∀ad,x.ao=some ad→W4.heap[ad.block]?=W.heap[ad.block]? :=fun ad e=>by
      rw[←hW4]
      exact(Below.heap_setCell _ _ _ _ (by have:=HXO.out ad e;show ad.block≠w2.heap.size+1;omega)).trans (HXS3.out ad e)
     obtain⟨p0,p1⟩:=boxOne hs3.s
     obtain⟨u0,u1⟩:=boxOne hs3.o
     obtain⟨r0,r1⟩:=boxOne hs4.s
     obtain⟨t0,t1⟩:=boxOne hs4.o
     rw[hW4]at hs4 hk4
     have HS4:=Lib.hid hs4
     have HK4:=Lib.hid hk4
     have HX4:=Lib.hid hx4
     have HW4:=Lib.hid hW4
     have HZ4:=Lib.hid hz4
     clear hb3 hs3 hs4 hk4 hx4 hW4 hz4 k0 k1 k2
     cases s with
     | true=>
      simp only[Bool.true_and]at *
      have HNW:Hid (∀j u,[Value.int .i64 (m:Int),Value.bool d][j]?=some u→(W4.alloc (.cells #[.int .i64 (m:Int), .bool d] 51)).cell? ((⟨W3.heap.size,0,none⟩:Addr).add j)=some u):=Lib.hid (by
       have:=World.news_of_block (cs:=#[.int .i64 (m:Int), .bool d]) (heap_alloc_new W4 (.cells #[.int .i64 (m:Int), .bool d] 51))
       rw[HZ4.out]at this
       exact this)
      gi_wp2_with (gi_at_builtin;rw[HW4.out];go_loud (refine wpListIn_append_at _ rfl _ _ 48 rfl w.heap.size 51 i0 z0 2 16 Tryz.underlying48 hci hz0 hz1 hz2 hz3 (by omega) _ _ _ rfl (World.ownsRow.alloc HS4.out.row _) ⟨W3.heap.size,0,none⟩ 1 1 [.int .i64 (m:Int), .bool d] rfl rfl HNW.out (by simp[Value.oneCell']) (by have:=HLN.out;unfold maxLen;omega) (by have:=HLN.out;omega) (by have:=HS4.out.below.size;simp;omega) ?_))
      intro v2 w5 hown' hgrow hat
      obtain⟨g2,cap2,hv2⟩:=ownsRow_succ hown'
      obtain⟨kk,hkk⟩:∃kk,acc.length+D.length+1=kk:=⟨_,rfl⟩
      have hv3:v2= .slice (some ⟨g2,0,none⟩) kk cap2:=by rw[hv2,←hkk];try rfl
      subst hv3
      clear hv2 hkk
      have hx5:w5.heap[w2.heap.size]?=some (.cells #[v'] 48):=(hgrow.block _ (by have:=(Array.getElem?_eq_some_iff.1 HS4.out.o).1;simp;omega) (fun e=>(HS4.out.far _ e.symm).2.1 rfl)).trans ((Below.heap_alloc _ _ _ (Array.getElem?_eq_some_iff.1 HS4.out.o).1).trans HS4.out.o)
      obtain⟨y0,y1⟩:=boxOne hx5
      have hat2:∀q,(Value.slice (some ⟨g2,0,none⟩) kk cap2).ownBlock=some q→v'.ownBlock=some q∨W4.heap.size≤q:=fun q hq=>by
       rcases hat with h | h
       ·left;rw[←h];exact hq
       ·right
        rw[hq]at h
        have:=Option.some.inj h
        first | (simp at this;omega) | omega
      have hown2:OwnF pcEnc 2 51 w5 w.heap.size (.slice (some ⟨g2,0,none⟩) kk cap2) ((acc++D)++ [((m:Int),d)]):=by
       unfold OwnF
       rw[List.length_append,List.length_append,List.length_singleton,flat_append,flat_one]
       exact hown'
      have HPU:=Lib.hid (HS4.out.push ((m:Int),d) hgrow hown2 hat2)
      have HVO2:Hid (∀ad,x.ao=some ad→(Value.slice (some ⟨g2,0,none⟩) kk cap2).ownBlock≠some ad.block):=Lib.hid (fun ad e h=>by
       rcases hat2 _ h with h1 | h1
       ·exact HVO.out ad e h1
       ·have:=HXL.out ad e;have:=HKF3.out.size;have:=HZ4.out;omega)
      have HKF2:=Lib.hid (keepSet (keepGrow (keepOn HK4.out (below_alloc W4 (.cells #[.int .i64 (m:Int), .bool d] 51))) hgrow (World.ownsRow.alloc HS4.out.row _)) ⟨w2.heap.size,0,none⟩ (.slice (some ⟨g2,0,none⟩) kk cap2))
      have HXS2:Hid (∀ad,x.ao=some ad→(w5.setCell ⟨w2.heap.size,0,none⟩ (.slice (some ⟨g2,0,none⟩) kk cap2)).heap[ad.block]?=W.heap[ad.block]?):=Lib.hid (fun ad e=>by
       have h1:=HXL.out ad e
       have h2:=HXO.out ad e
       refine(Below.heap_setCell _ _ _ _ (by show ad.block≠w2.heap.size;omega)).trans ((hgrow.block _ (by have:=HKF3.out.size;have:=HZ4.out;simp;omega) (fun h=>HVO.out ad e h.symm)).trans ((Below.heap_alloc _ _ _ (by have:=HKF3.out.size;have:=HZ4.out;omega)).trans (HX4.out ad e))))
      clear hown' hgrow hat hx5 hat2 hown2 p0 p1 u0 u1 r0 r1 t0 t1
      have hsl:=HSL.out
      gi_wp2
      go_roundw
      case rel=>
       refine⟨ro2,rn'-m,rc'-m,(c::rest').drop m,D++ [((m:Int),d)],d,(.slice (some ⟨g2,0,none⟩) kk cap2),rfl,by rw[List.length_drop,List.length_cons];have:=HRN.out;omega,by have:=HDL.out;rw[List.length_append,List.length_drop,List.length_cons];simp;omega,HSB2,Lib.hid (fun ad e=> ?_),Lib.hid (fun y hy=>HRY.out y (List.mem_of_mem_drop hy)),Lib.hid (by rw[←List.append_assoc];exact HPU.out),HVO2,HXS2,HKF2,Lib.hid (by rw[←HPP.out,HPC.out];simp),Lib.hid (by rw[←HPS.out,HPC.out])⟩
       obtain⟨a1,h1,h2⟩:=HSA2.out ad e
       obtain⟨a0,h3,h4⟩:=HRA.out a1 h1
       exact⟨a0,h3,h4.trans h2⟩
      case measure=>simp;omega
     | false=>
      simp only[Bool.false_and]at *
      have HNW:Hid (∀j u,[Value.int .i64 (m:Int),Value.bool false][j]?=some u→(W4.alloc (.cells #[.int .i64 (m:Int), .bool false] 51)).cell? ((⟨W3.heap.size,0,none⟩:Addr).add j)=some u):=Lib.hid (by
       have:=World.news_of_block (cs:=#[.int .i64 (m:Int), .bool false]) (heap_alloc_new W4 (.cells #[.int .i64 (m:Int), .bool false] 51))
       rw[HZ4.out]at this
       exact this)
      gi_wp2_with (gi_at_builtin;rw[HW4.out];go_loud (refine wpListIn_append_at _ rfl _ _ 48 rfl w.heap.size 51 i0 z0 2 16 Tryz.underlying48 hci hz0 hz1 hz2 hz3 (by omega) _ _ _ rfl (World.ownsRow.alloc HS4.out.row _) ⟨W3.heap.size,0,none⟩ 1 1 [.int .i64 (m:Int), .bool false] rfl rfl HNW.out (by simp[Value.oneCell']) (by have:=HLN.out;unfold maxLen;omega) (by have:=HLN.out;omega) (by have:=HS4.out.below.size;simp;omega) ?_))
      intro v2 w5 hown' hgrow hat
      obtain⟨g2,cap2,hv2⟩:=ownsRow_succ hown'
      obtain⟨kk,hkk⟩:∃kk,acc.length+D.length+1=kk:=⟨_,rfl⟩
      have hv3:v2= .slice (some ⟨g2,0,none⟩) kk cap2:=by rw[hv2,←hkk];try rfl
      subst hv3
      clear hv2 hkk
      have hx5:w5.heap[w2.heap.size]?=some (.cells #[v'] 48):=(hgrow.block _ (by have:=(Array.getElem?_eq_some_iff.1 HS4.out.o).1;simp;omega) (fun e=>(HS4.out.far _ e.symm).2.1 rfl)).trans ((Below.heap_alloc _ _ _ (Array.getElem?_eq_some_iff.1 HS4.out.o).1).trans HS4.out.o)
      obtain⟨y0,y1⟩:=boxOne hx5
      have hat2:∀q,(Value.slice (some ⟨g2,0,none⟩) kk cap2).ownBlock=some q→v'.ownBlock=some q∨W4.heap.size≤q:=fun q hq=>by
       rcases hat with h | h
       ·left;rw[←h];exact hq
       ·right
        rw[hq]at h
        have:=Option.some.inj h
        first | (simp at this;omega) | omega
      have hown2:OwnF pcEnc 2 51 w5 w.heap.size (.slice (some ⟨g2,0,none⟩) kk cap2) ((acc++D)++ [((m:Int),false)]):=by
       unfold OwnF
       rw[List.length_append,List.length_append,List.length_singleton,flat_append,flat_one]
       exact hown'
      have HPU:=Lib.hid (HS4.out.push ((m:Int),false) hgrow hown2 hat2)
      have HVO2:Hid (∀ad,x.ao=some ad→(Value.slice (some ⟨g2,0,none⟩) kk cap2).ownBlock≠some ad.block):=Lib.hid (fun ad e h=>by
       rcases hat2 _ h with h1 | h1
       ·exact HVO.out ad e h1
       ·have:=HXL.out ad e;have:=HKF3.out.size;have:=HZ4.out;omega)
      have HKF2:=Lib.hid (keepSet (keepGrow (keepOn HK4.out (below_alloc W4 (.cells #[.int .i64 (m:Int), .bool false] 51))) hgrow (World.ownsRow.alloc HS4.out.row _)) ⟨w2.heap.size,0,none⟩ (.slice (some ⟨g2,0,none⟩) kk cap2))
      have HXS2:Hid (∀ad,x.ao=some ad→(w5.setCell ⟨w2.heap.size,0,none⟩ (.slice (some ⟨g2,0,none⟩) kk cap2)).heap[ad.block]?=W.heap[ad.block]?):=Lib.hid (fun ad e=>by
       have h1:=HXL.out ad e
       have h2:=HXO.out ad e
       refine(Below.heap_setCell _ _ _ _ (by show ad.block≠w2.heap.size;omega)).trans ((hgrow.block _ (by have:=HKF3.out.size;have:=HZ4.out;simp;omega) (fun h=>HVO.out ad e h.symm)).trans ((Below.heap_alloc _ _ _ (by have:=HKF3.out.size;have:=HZ4.out;omega)).trans (HX4.out ad e))))
      clear hown' hgrow hat hx5 hat2 hown2 p0 p1 u0 u1 r0 r1 t0 t1
      have hsl:=HSL.out
      gi_wp2
      go_roundw
      case rel=>
       refine⟨ro2,rn'-m,rc'-m,(c::rest').drop m,D++ [((m:Int),false)],false,(.slice (some ⟨g2,0,none⟩) kk cap2),rfl,by rw[List.length_drop,List.length_cons];have:=HRN.out;omega,by have:=HDL.out;rw[List.length_append,List.length_drop,List.length_cons];simp;omega,HSB2,Lib.hid (fun ad e=> ?_),Lib.hid (fun y hy=>HRY.out y (List.mem_of_mem_drop hy)),Lib.hid (by rw[←List.append_assoc];exact HPU.out),HVO2,HXS2,HKF2,Lib.hid (by rw[←HPP.out,HPC.out];simp),Lib.hid (by rw[←HPS.out,HPC.out])⟩
       obtain⟨a1,h1,h2⟩:=HSA2.out ad e
       obtain⟨a0,h3,h4⟩:=HRA.out a1 h1
       exact⟨a0,h3,h4.trans h2⟩
      case measure=>simp;omega
theorem TCod.below {w w':World} {base g:Nat} {V:Vc} {N:List ByteArray} {kind:Int} {T:List Rg} {cb:Nat} (h:TCod w base g V N kind T cb) (hb:Below w.heap.size w w'):TCod w' base g V N kind T cb:=by
 obtain⟨lo,ta,tc,sa,sc,na,nc,ma,mc,oa,oc,eg,hx,a1,a2,a3,a4,a5,a6⟩:=h
 exact⟨lo,ta,tc,sa,sc,na,nc,ma,mc,oa,oc,eg,(hb.block _ (Array.getElem?_eq_some_iff.1 hx).1).trans hx,a1.below hb,a2.below hb,a3.below hb,a4.below hb,a5.below hb,a6.keep (fun q _ hq=>hb.block q hq) hb.size⟩
theorem fault_calls {V:Vc} {N:List ByteArray} {kind:Int} {T:List Rg} {base g cb:Nat} (s:Int) (w:World) (hC:TCod w base g V N kind T cb) (hN:N.length≤16):
  Calls Tryz.prog 71 #[.pointer (some ⟨g,0,none⟩), .int .i64 s] w fun e w'=>e= .returned (.int .i64 (faultF V N s))∧w=w':=by
 obtain⟨lo,ta,tc,sa,sc,na,nc,ma,mc,oa,oc,eg,hx,_,_,_,hom,_⟩:=hC
 obtain⟨c0,c1,c2,c3,c4,c5,c6,c7,c8,cf⟩:=box9 hx
 obtain⟨mo,mcap,e0,hsm⟩:=hom.sl
 have hml:=marksOf_len V.specials N
 rw[hml]at e0 hsm
 obtain⟨rfl,_,rfl⟩:=Value.slice.inj e0
 have q1:IntKind.i64.wrap (256+(N.length:Int))=256+(N.length:Int):=by rw[IntKind.wrap_i64];omega
 clear hx hom e0
 by_cases h0:s<0
 ·have HF:Hid (faultF V N s=1):=Lib.hid (by unfold faultF;rw[if_pos (.inl h0)])
  have hd:decide (s<0)=true:=by simpa using h0
  go_enter Tryz.func71,Tryz.ntmps71
  go_wp2_with (fail)
  refine bodyPost_ret (results_tmp rfl _ _ _) rfl ⟨by rw[HF.out];rfl,rfl⟩
 ·have hd:decide (s<0)=false:=by simpa using h0
  by_cases h1:256+(N.length:Int)≤s
  ·have HF:Hid (faultF V N s=1):=Lib.hid (by unfold faultF;rw[if_pos (.inr h1)])
   go_enter Tryz.func71,Tryz.ntmps71
   go_wp2_with (fail)
   refine bodyPost_ret (results_tmp rfl _ _ _) rfl ⟨by rw[HF.out];rfl,rfl⟩
  ·have hnn:¬(s<0∨256+(N.length:Int)≤s):=by omega
   by_cases h2:256≤s
   ·have hg2:decide ((256:Int)≤s)=true:=by simpa using h2
    obtain⟨k,hk⟩:∃k:Nat,s-256=k:=⟨(s-256).toNat,by omega⟩
    have q2:IntKind.i64.wrap (s-256)=(k:Int):=by rw[IntKind.wrap_i64];omega
    have gk:(k:Int)<(N.length:Int):=by omega
    have gk0:(0:Int)≤(k:Int):=by omega
    obtain⟨b,o,hao,hc⟩:=hsm.at_ (i:=k) (by omega)
    subst hao
    obtain⟨v,hv⟩:∃v,ix (marksOf V.specials N) k=v:=⟨_,rfl⟩
    rw[hv]at hc
    have hmk:markAt V N s=v:=by unfold markAt;rw[hk,Int.toNat_natCast,hv]
    by_cases h3:v<0
    ·have HF:Hid (faultF V N s=4):=Lib.hid (by unfold faultF;rw[if_neg hnn,if_pos ⟨h2,by rw[hmk];exact h3⟩])
     clear hsm hml hv hmk hnn
     go_enter Tryz.func71,Tryz.ntmps71
     go_wp2_with (fail)
     refine bodyPost_ret (results_tmp rfl _ _ _) rfl ⟨by rw[HF.out];rfl,rfl⟩
    ·have HF:Hid (faultF V N s=0):=Lib.hid (by unfold faultF;rw[if_neg hnn,if_neg (fun h=>h3 (by rw[←hmk];exact h.2))])
     clear hsm hml hv hmk hnn
     go_enter Tryz.func71,Tryz.ntmps71
     go_wp2_with (fail)
     refine bodyPost_ret (results_tmp rfl _ _ _) rfl ⟨by rw[HF.out];rfl,rfl⟩
   ·have hg2:decide ((256:Int)≤s)=false:=by simpa using h2
    have HF:Hid (faultF V N s=0):=Lib.hid (by unfold faultF;rw[if_neg hnn,if_neg (fun h=>h2 h.1)])
    clear hsm hml hnn
    go_enter Tryz.func71,Tryz.ntmps71
    go_wp2_with (fail)
    refine bodyPost_ret (results_tmp rfl _ _ _) rfl ⟨by rw[HF.out];rfl,rfl⟩
theorem check_calls {V:Vc} {N:List ByteArray} {kind:Int} {T:List Rg} {base g cb:Nat} {A:List Int} {ao:Option Addr} {n c:Nat} (w:World) (hC:TCod w base g V N kind T cb) (hN:N.length≤16) (hA:SlI w ao n c A) (hn:n≤1048576):
  Calls Tryz.prog 33 #[.pointer (some ⟨g,0,none⟩), .slice ao n c] w fun e w'=>e= .returned (.int .i64 (checkF V N A))∧w=w':=by
 have HC:=Lib.hid hC
 have HA:=Lib.hid hA
 have HN:=Lib.hid hN
 have HAL:=Lib.hid hA.len
 clear hC hA hN
 go_enter Tryz.func33,Tryz.ntmps33
 go_wp2_with (fail)
 go_loopw [12] (fun i wr=>∃k:Nat,k≤n∧i= .int .i64 k∧Hid (checkF V N A=checkF V N (A.drop k))∧wr=w) (fun i _=>n-(intOf i).toNat)
 case atStart=>exact⟨0,Nat.zero_le _,rfl,Lib.hid rfl,rfl⟩
 case round=>
  obtain⟨k,hk,rfl,HK,hw⟩:=hrel
  subst hw
  by_cases hlt:k<n
  ·obtain⟨b,o,hao,hc⟩:=HA.out.at_ hlt
   subst hao
   have hkA:k<A.length:=by have:=HAL.out;omega
   have hdr:=checkF_drop (V:=V) (N:=N) hkA
   obtain⟨s,hs⟩:∃s,ix A k=s:=⟨_,rfl⟩
   rw[hs]at hc hdr
   have HF:=Lib.hid (fault_calls s wr HC.out HN.out)
   by_cases hf:faultF V N s=0
   ·rw[if_pos hf]at hdr
    have HK2:Hid (checkF V N A=checkF V N (A.drop (k+1))):=Lib.hid (HK.out.trans hdr)
    rw[hf]at HF
    clear hdr hs hf
    go_wp2_with (go_at_call 71;refine HF.out.mono ?_;rintro e w1 ⟨rfl,rfl⟩)
    go_roundw
    case rel=>exact⟨k+1,by omega,by go_num,HK2,by first | rfl | trivial⟩
    case measure=>simp[intOf];omega
   ·rw[if_neg hf]at hdr
    have HK2:Hid (checkF V N A=faultF V N s):=Lib.hid (HK.out.trans hdr)
    obtain⟨f,hff⟩:∃f,faultF V N s=f:=⟨_,rfl⟩
    rw[hff]at hf HF HK2
    have hb:(f==0)=false:=by simpa using hf
    clear hdr hs hff
    go_wp2_with (go_at_call 71;refine HF.out.mono ?_;rintro e w1 ⟨rfl,rfl⟩)
    refine bodyPost_ret (results_tmp rfl _ _ _) rfl ⟨by rw[HK2.out];rfl,rfl⟩
  ·obtain rfl:k=n:=by omega
   have HK2:Hid (checkF V N A=0):=Lib.hid (by rw[HK.out,List.drop_eq_nil_of_le (by have:=HAL.out;omega)];rfl)
   go_wp2_with (fail)
   go_ret
   exact⟨by rw[HK2.out];rfl,rfl⟩
theorem tsplit_calls {V:Vc} {N:List ByteArray} {kind:Int} {T:List Rg} {base g cb:Nat} {A:List Int} {ao:Option Addr} {n c:Nat} (final:Bool) (w:World) (hC:TCod w base g V N kind T cb) (hA:SlI w ao n c A) (hn:n≤1048570) (hT:MayTab T) (hk0:0≤kind) (hk3:kind≤3):
  Calls Tryz.prog 18 #[.pointer (some ⟨g,0,none⟩), .slice ao n c, .bool final] w fun e w'=>(∃v,e= .returned v∧OwnF pcEnc 2 51 w' w.heap.size v (splitF kind T A final))∧Below w.heap.size w w':=by
 obtain⟨lo,ta,tc,sa,sc,na,nc,ma,mc,oa,oc,eg,hx,_,_,_,_,hot,_⟩:=hC
 obtain⟨c0,c1,c2,c3,c4,c5,c6,c7,c8,cf⟩:=box9 hx
 obtain⟨to_,tcap,e0,hst⟩:=hot.sl
 obtain⟨rfl,_,rfl⟩:=Value.slice.inj e0
 have HS:Hid (∀W,Ge w W→Calls Tryz.prog 60 #[.int .i64 kind, .slice oa T.length oc, .slice ao n c, .bool final] W fun e w'=>(∃v,e= .returned v∧OwnF pcEnc 2 51 w' w.heap.size v (splitF kind T A final))∧Below w.heap.size w w'):=Lib.hid (fun W hW=>(split_calls kind final W (hA.below hW) hn (hst.below hW) hT hk0 hk3).mono (by
  rintro e w' ⟨⟨v,rfl,h1⟩,h2⟩
  exact⟨⟨v,rfl,OwnF.mono h1 hW.size⟩,hW.below h2⟩))
 clear hx hot e0 hst hA
 go_enter Tryz.func18,Tryz.ntmps18
 go_wp2_with (fail)
 go_region_with (go_at_call 60;refine(HS.out _ (by exact below_drewN (Below.refl _ _) _)).mono ?_;rintro e w2 ⟨⟨v,rfl,ho⟩,hb2⟩;have HO:=Lib.hid ho;have HB2:=Lib.hid hb2;clear ho hb2)
 all_goals(
  go_wp2_with (fail)
  go_ret
  exact⟨⟨v,rfl,HO.out⟩,HB2.out⟩)
end Go.Proofs.YtimkkkdabmhedaaGreatDoor
