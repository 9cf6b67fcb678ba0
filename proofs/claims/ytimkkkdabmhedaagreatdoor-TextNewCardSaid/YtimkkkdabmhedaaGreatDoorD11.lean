/- Walk: may a table of classes be, by the document? (Printed by gClass3.py.) -/
import Derived.Test.YtimkkkdabmhedaaGreatDoorD10
import Derived.Test.YtimkkkdabmhedaaGreatDoorD9
import Derived.RegionTactic
import Derived.Deep.DeepCutAuto
import Derived.Laws.ResultCell
import Derived.Test.YtimkkkdabmhedaaGreatDoorD1
import Derived.Lib.SmallJoins
import Derived.Deep.Matrix
import Derived.Test.YtimkkkdabmhedaaGreatDoorD2
import Derived.Deep.Slices
import Derived.Deep.Fields
import Derived.ChangeSame
set_option linter.unusedVariables false
set_option maxHeartbeats 2000000
set_option maxRecDepth 100000
namespace Go.Proofs.YtimkkkdabmhedaaGreatDoor
open Go.RowKit
theorem rclassMay_calls {t:List Rg} {to_:Option Addr} {tn tc:Nat} (w:World) (hR:SlF 3 w to_ tn tc (flat Rg.enc t)):
  Calls Tryz.prog 57 #[.slice to_ tn tc] w (TabPost1 t w):=by
 have hm:=Nat.le_trans hR.le hR.max
 unfold maxLen at hm
 have HL:=Lib.hid (hR.count Rg.enc_len (by omega))
 have HR:=Lib.hid hR
 clear hR
 by_cases h200:(200:Int)<tn
 ·have HF:Hid (false=true↔MayTab t):=Lib.hid (notTab_len (by have:=HL.out;omega))
  go_enter Tryz.func57,Tryz.ntmps57
  go_wp2_with (fail)
  go_ret
  exact⟨⟨_,rfl,HF.out⟩,Below.refl _ _⟩
 go_enter Tryz.func57,Tryz.ntmps57
 go_wp2_with (fail)
 go_loopw [3,10] (fun v i wr=>∃(k:Nat) (la:Int),k≤tn∧i= .int .i64 k∧v= .int .i64 la∧Hid ((k=0∧la= -1)∨(0<k∧la=(rg t (k-1)).hi))∧Hid (TabTo t k)∧Below w.heap.size w wr) (fun _ i _=>tn-(intOf i).toNat)
 case atStart=>exact⟨0,-1,Nat.zero_le _,rfl,rfl,Lib.hid (.inl ⟨rfl,rfl⟩),Lib.hid (TabTo.zero t),Below.refl _ _⟩
 case round=>
  obtain⟨k,la,hk,rfl,rfl,HLA,HT,hb⟩:=hrel
  have HB:=Lib.hid hb
  clear hb
  by_cases hlt:k<tn
  ·have hkT:k<t.length:=by have:=HL.out;omega
   obtain⟨b,of,rfl,hce⟩:=(HR.out.below HB.out).elem Rg.enc_len (by omega) (rg_eq hkT)
   obtain⟨⟨lo,hi,cl⟩,hseq⟩:∃m,rg t k=m:=⟨_,rfl⟩
   rw[hseq]at hce
   have d0:=hce 0 _ rfl
   have d1:=hce 1 _ rfl
   have d2:=hce 2 _ rfl
   rw[Nat.add_zero]at d0
   simp only at d0 d1 d2
   have HRK:=Lib.hid hseq
   have gk:(k:Int)<(tn:Int):=by omega
   clear hce hseq
   by_cases r0:lo≤la
   ·have g0:decide (lo≤la)=true:=by simpa using r0
    have HF:Hid (false=true↔MayTab t):=Lib.hid (by
     rcases HLA.out with⟨e1,e2⟩ | ⟨e1,e2⟩
     ·exact notTab_ok hkT (by rw[HRK.out];unfold OkRg;simp only;omega)
     ·exact notTab_rise e1 hkT (by rw[HRK.out];simp only;omega))
    clear r0
    go_wp2_with (fail)
    go_quiet (fail)
    go_wp2_with (fail)
    go_ret
    exact⟨⟨_,rfl,HF.out⟩,below_drewN HB.out _⟩
   have g0:decide (lo≤la)=false:=by simpa using r0
   by_cases r1:hi<lo
   ·have g1:decide (hi<lo)=true:=by simpa using r1
    have HF:=Lib.hid (notTab_ok hkT (by rw[HRK.out];unfold OkRg;simp only;omega))
    clear r0 r1
    go_wp2_with (fail)
    go_quiet (fail)
    go_wp2_with (fail)
    go_ret
    exact⟨⟨_,rfl,HF.out⟩,below_drewN HB.out _⟩
   have g1:decide (hi<lo)=false:=by simpa using r1
   by_cases r2:1114111<hi
   ·have g2:decide (1114111<hi)=true:=by simpa using r2
    have HF:=Lib.hid (notTab_ok hkT (by rw[HRK.out];unfold OkRg;simp only;omega))
    clear r0 r1 r2
    go_wp2_with (fail)
    go_quiet (fail)
    go_wp2_with (fail)
    go_ret
    exact⟨⟨_,rfl,HF.out⟩,below_drewN HB.out _⟩
   have g2:decide (1114111<hi)=false:=by simpa using r2
   by_cases r3:cl<1
   ·have g3:decide (cl<1)=true:=by simpa using r3
    have HF:=Lib.hid (notTab_ok hkT (by rw[HRK.out];unfold OkRg;simp only;omega))
    clear r0 r1 r2 r3
    go_wp2_with (fail)
    go_quiet (fail)
    go_wp2_with (fail)
    go_ret
    exact⟨⟨_,rfl,HF.out⟩,below_drewN HB.out _⟩
   have g3:decide (cl<1)=false:=by simpa using r3
   by_cases r4:4<cl
   ·have g4:decide (4<cl)=true:=by simpa using r4
    have HF:=Lib.hid (notTab_ok hkT (by rw[HRK.out];unfold OkRg;simp only;omega))
    clear r0 r1 r2 r3 r4
    go_wp2_with (fail)
    go_quiet (fail)
    go_wp2_with (fail)
    go_ret
    exact⟨⟨_,rfl,HF.out⟩,below_drewN HB.out _⟩
   have g4:decide (4<cl)=false:=by simpa using r4
   have HT2:Hid (TabTo t (k+1)):=Lib.hid (HT.out.next (by
    rw[HRK.out];unfold OkRg;simp only
    rcases HLA.out with⟨e1,e2⟩ | ⟨e1,e2⟩
    ·omega
    ·have h3:=(HT.out.ok (k-1) (by omega)).1
     have h4:=(HT.out.ok (k-1) (by omega)).2.1
     omega) (fun h=>by
    rcases HLA.out with⟨e1,e2⟩ | ⟨e1,e2⟩
    ·omega
    ·rw[←e2,HRK.out];simp only;omega))
   have HLA2:Hid ((k+1=0∧hi= -1)∨(0<k+1∧hi=(rg t (k+1-1)).hi)):=Lib.hid (.inr ⟨by omega,by rw[show k+1-1=k by omega,HRK.out]⟩)
   clear r0 r1 r2 r3 r4
   go_wp2_with (fail)
   go_quiet (fail)
   go_wp2_with (fail)
   go_roundw
   case rel=>exact⟨k+1,hi,by omega,by go_num,rfl,HLA2,HT2,below_drewN HB.out _⟩
   case measure=>simp[intOf];omega
  ·have HF:Hid (MayTab t):=Lib.hid (HT.out.all (by have:=HL.out;omega) (by have:=HL.out;omega))
   go_wp2_with (fail)
   go_ret
   exact⟨⟨true,rfl,(fun _=>HF.out),(fun _=>rfl)⟩,HB.out⟩
theorem infoStr9:(Tryz.prog.info? 9).map (fun i=>(i.zero,i.size,i.bytes))=some (some (.string ByteArray.empty),1,16):=by kernel_rfl
theorem infoInt3:(Tryz.prog.info? 3).map (fun i=>(i.zero,i.size,i.bytes))=some (some (.int .i64 0),1,8):=by kernel_rfl
abbrev OwnT (w:World) (base:Nat) (v:Value) (T:List ByteArray):Prop:=w.ownsRow base 9 1 v T.length (T.map .string)
theorem run_makeN {P:Program} (t e:TypeId) (i:TypeInfo) (z:Value) (ht:P.underlying t=some (.slice e)) (hi:P.info? e=some i) (hz:i.zero=some z) (hs:i.size=1)
  (n:Nat) (hbytes:i.bytes*n≤281474976710656) (h63:n≤9223372036854775807) (w:World):
  (Instr.makeSlice t (.int .i64 (n:Int)) (.int .i64 (n:Int))).run P w= .ok (.slice (some ⟨w.heap.size,0,none⟩) n n) (w.alloc (.cells (madeCells z.cells n) e)):=by
 have hb:(i.bytes:Int)*(n:Int)≤281474976710656:=by
  have h:((i.bytes*n:Nat):Int)≤281474976710656:=by omega
  rwa [Int.natCast_mul]at h
 have hr:=run_make (P:=P) w t e i z ht hi hz .i64 .i64 n n (by omega) (by omega) hb (by omega)
 simp only[Int.toNat_natCast,hs,Nat.mul_one]at hr
 exact hr
theorem ownT_made (w:World) (n:Nat) (hm:n≤maxLen):OwnT (w.alloc (.cells (madeCells (Value.string ByteArray.empty).cells n) 9)) w.heap.size (.slice (some ⟨w.heap.size,0,none⟩) n n) (List.replicate n ByteArray.empty):=by
 have e:(madeCells (Value.string ByteArray.empty).cells n)=(List.replicate n (Value.string ByteArray.empty)).toArray:=by
  apply Array.ext'
  exact toList_madeCells_one _ n
 rw[e]
 refine⟨by simp, .inr ⟨w.heap.size,n,_,by simp,Nat.le_refl _,heap_alloc_new w _,by simp,hm,by simp,?_⟩⟩
 simp
theorem OwnT.mono {w:World} {base base':Nat} {v:Value} {L:List ByteArray} (h:OwnT w base v L) (hb:base'≤base):OwnT w base' v L:=by
 obtain⟨h1,h2⟩:=h
 refine⟨h1,?_⟩
 rcases h2 with h2 | ⟨g,cap,cur,hv,hg,r⟩
 ·exact .inl h2
 ·exact .inr ⟨g,cap,cur,hv,by omega,r⟩
theorem OwnT.below {w w':World} {base:Nat} {v:Value} {L:List ByteArray} (h:OwnT w base v L) (hb:Below w.heap.size w w'):OwnT w' base v L:=
 own_stay h fun g hg=>hb.block g (World.ownsRow.lt h g hg).2
theorem Mg.enc_one (x:Mg):∀v∈x.enc,v.oneCell'=true:=by
 intro v hv
 simp[Mg.enc]at hv
 rcases hv with rfl | rfl | rfl | rfl<;>rfl
theorem Sp.enc_one (x:Sp):∀v∈x.enc,v.oneCell'=true:=by
 intro v hv
 simp[Sp.enc]at hv
 rcases hv with rfl | rfl<;>rfl
theorem infoSp:(Tryz.prog.info? 58).map (fun i=>(i.zero.map (·.cells.size),i.size,i.bytes))=some (some 2,2,24):=by kernel_rfl
theorem infoMg:(Tryz.prog.info? 165).map (fun i=>(i.zero.map (·.cells.size),i.size,i.bytes))=some (some 4,4,32):=by kernel_rfl
theorem info_row {t:TypeId} {k m b:Nat} (h:(Tryz.prog.info? t).map (fun i=>(i.zero.map (·.cells.size),i.size,i.bytes))=some (some k,m,b)):∃i z,Tryz.prog.info? t=some i∧i.zero=some z∧i.size=m∧i.bytes=b∧z.cells.size=k:=by
 cases hi:Tryz.prog.info? t with
 | none=>rw[hi]at h;cases h
 | some i=>
  rw[hi]at h
  simp only[Option.map_some,Option.some.injEq,Prod.mk.injEq]at h
  obtain⟨h1,h2,h3⟩:=h
  cases hz:i.zero with
  | none=>rw[hz]at h1;cases h1
  | some z=>rw[hz]at h1;exact⟨i,z,rfl,hz,h2,h3,by simpa using h1⟩
theorem ownF_slice {α:Type} {enc:α→List Value} {s:Nat} {t:TypeId} {w:World} {base n cap:Nat} {ao:Option Addr} {L:List α} (h:OwnF enc s t w base (.slice ao n cap) L):SlF s w ao n cap (flat enc L):=by
 obtain⟨a,c,e,hs⟩:=h.sl
 simp only[Value.slice.injEq]at e
 obtain⟨rfl,h1,rfl⟩:=e
 rw[h1];exact hs
theorem boxf {w:World} {g:Nat} {x y z:Value} {t:TypeId} (h:w.heap[g]?=some (.cells #[x,y,z] t)):(∀o,w.frozen? ⟨g,o,none⟩=false):=by
 intro o
 simp[World.frozen?,h]
theorem heap_set3 (w:World) (g:Nat) (x y z:Value) {q:Nat} (h:q≠g):(((w.setCell ⟨g,0,none⟩ x).setCell ⟨g,1,none⟩ y).setCell ⟨g,2,none⟩ z).heap[q]?=w.heap[q]? :=by
 simp[World.setCell,Array.getElem?_modify,Ne.symm h]
def noVd:Vd:=⟨none,0,0,none,0,0,none,0,0⟩
theorem ownT_slice {w:World} {base:Nat} {v:Value} {T:List ByteArray} (h:OwnT w base v T):∃ao cap,v= .slice ao T.length cap∧SlS w ao T.length cap T:=Sl.of_own h
def GoodVoc (R:List Rw) (S:List Sp):Prop:=OkRows R S∧May (vocOf R S)
open Go.ChangeShapes Go.WideShapes Go.ChangeAt Go.RowKit Go.Joins Go.Deep
def I64 (x:Int):Prop:= -9223372036854775808≤x∧x≤9223372036854775807
theorem I64.of_wf {x:Int} (h:(Lit.int .i64 x).wf=true):I64 x:=by
 simp[Lit.wf,IntKind.min,IntKind.max,IntKind.signed,IntKind.bits]at h
 exact h
section
variable {H:Type} {enc:TypeId×Value→H} {P:Program} {W:World} {held:Bool}
theorem sli_of_trod {t e:TypeId} {fuel:Nat} {v:Value} {y:DataW H×List MemPlace} (ht:P.underlying t=some (.slice e)) (he:P.underlying e=some (.int .i64)) (hc:P.cellsOf e=1)
  (h:DataW.trod enc P W 0 (fun _=>true) held fuel t [v]=some y):∃ao n c A,v= .slice ao n c∧SlI W ao n c A∧∀x∈A,I64 x:=by
 rcases open_ints ht he hc h with⟨hcs,_⟩ | ⟨a,len,cap,zs,hcs,_,hl,hm,hz,_,hcell,hwz⟩
 ·simp at hcs
  subst hcs
  exact⟨none,0,0,[],rfl,Sl.none,by simp⟩
 ·simp at hcs
  subst hcs
  have hz':zs.length=cap:=by simpa using hz
  refine⟨some a,len,cap,zs.take len,rfl,⟨by simp;omega,hl,hm,by simp,fun i u hu=> ?_⟩,fun x hx=>I64.of_wf (hwz x (List.mem_of_mem_take hx))⟩
  obtain⟨b,o,sp⟩:=a
  have hi:i<len:=by have:=(List.getElem?_eq_some_iff.1 hu).1;simp at this;omega
  have h0:=hcell i (by omega)
  have hsp:sp=none∨i≠0:=by
   rcases Nat.eq_zero_or_pos i with rfl | hp
   ·left
    simpa[Addr.add]using World.cell?_spot h0
   ·right;omega
  have hsp0:sp=none:=by
   have h00:=hcell 0 (by omega)
   simpa[Addr.add]using World.cell?_spot h00
  subst hsp0
  refine⟨b,o,rfl,?_⟩
  rw[Addr.add_lit]at h0
  rw[h0]
  rw[List.getElem?_map,List.getElem?_take,if_pos hi]at hu
  simp only[List.getD,Option.some.injEq]
  rw[List.getElem?_eq_getElem (by omega)]at hu ⊢
  simpa using hu
theorem sli_open {t e:TypeId} {v:Value} {d:DataW H} {p:List MemPlace} (ht:P.underlying t=some (.slice e)) (he:P.underlying e=some (.int .i64)) (hc:P.cellsOf e=1)
  {r:Reach} {b0:Nat} (hv:Value.okWide P W r b0 t v) (h:DataW.Trod enc P W 0 (fun _=>true) held t v d p):∃ao n c A,v= .slice ao n c∧SlI W ao n c A∧∀x∈A,I64 x:=by
 obtain⟨a,n,c,rfl⟩:=okWide_slice ht hv
 obtain⟨fuel,hf⟩:=h
 exact sli_of_trod ht he hc (by simpa[Value.cells]using hf)
theorem rows_open {t e q:TypeId} {v:Value} {d:DataW H} {p:List MemPlace} (ht:P.underlying t=some (.slice e)) (he:P.underlying e=some (.slice q)) (hq:P.underlying q=some (.int .i64))
  (ce:P.cellsOf e=1) (cq:P.cellsOf q=1) {r:Reach} {b0:Nat} (hv:Value.okWide P W r b0 t v) (h:DataW.Trod enc P W 0 (fun _=>true) held t v d p):∃ao n c R,v= .slice ao n c∧SlRows W ao n c R:=by
 obtain⟨a,n,c,rfl⟩:=okWide_slice ht hv
 obtain⟨fuel,hf⟩:=h
 rcases open_int_rows ht he hq ce cq (by simpa[Value.cells]using hf)with⟨hcs,_⟩ | ⟨a',len,cap,A,L,C,Z,hcs,_,hl,hm,_,hrow⟩
 ·simp at hcs
  obtain⟨rfl,rfl,rfl⟩:=hcs
  exact⟨_,_,_,[],rfl,rfl,Nat.le_refl _,by unfold maxLen;omega,fun _=>rfl,fun i hi=>by omega⟩
 ·simp at hcs
  obtain⟨rfl,rfl,rfl⟩:=hcs
  refine⟨_,_,_,(List.range n).map fun r=>(Z r).take (L r),rfl,by simp,hl,hm,by simp,fun i hi=> ?_⟩
  obtain⟨b,o,sp⟩:=a'
  have hsp0:sp=none:=by
   have h00:=(hrow 0 (by omega)).1
   simpa[Addr.add]using World.cell?_spot h00
  subst hsp0
  obtain⟨h1,h2,h3,h4,h5,h6,h7⟩:=hrow i (by omega)
  have hrx:rx ((List.range n).map fun r=>(Z r).take (L r)) i=(Z i).take (L i):=by simp[rx,List.getD,hi]
  have hlen:((Z i).take (L i)).length=L i:=by simp;omega
  rw[hrx,hlen]
  refine⟨b,o,A i,C i,rfl,by rw[←h1,Addr.add_lit],?_⟩
  refine⟨by simp;omega,h2,h3,h6,fun j u hu=> ?_⟩
  have hj:j<L i:=by have:=(List.getElem?_eq_some_iff.1 hu).1;simp at this;omega
  cases hA:A i with
  | none=>have:=h6 hA;omega
  | some a2=>
   obtain⟨b2,o2,sp2⟩:=a2
   have hc:=(h7 _ hA).2
   have hsp2:sp2=none:=by
    have h00:=hc 0 (by omega)
    simpa[Addr.add]using World.cell?_spot h00
   subst hsp2
   refine⟨b2,o2,rfl,?_⟩
   have:=hc j (by omega)
   rw[Addr.add_lit]at this
   rw[this]
   rw[List.getElem?_map,List.getElem?_take,if_pos hj]at hu
   simp only[List.getD,Option.some.injEq]
   rw[List.getElem?_eq_getElem (by omega)]at hu ⊢
   simpa using hu
end
theorem cellsInt:Tryz.prog.cellsOf 3=1:=by kernel_rfl
open Go.ChangeShapes Go.WideShapes Go.Deep Go.RowKit
section
variable {H:Type} {enc:TypeId×Value→H} {P:Program} {w:World} {base:Nat} {spare:Nat→Bool} {held:Bool}
theorem open_slice_fields {t e:TypeId} {fs:Array Field} {fuel:Nat} {cs:List Value} {x:DataW H×List MemPlace} (ht:P.underlying t=some (.slice e)) (he:P.underlying e=some (.struct fs))
  (hone:oneCellFields P fs=true) (hC:P.cellsOf e=fs.size) (h:DataW.trod enc P w base spare held fuel t cs=some x):
  (cs= [.slice none 0 0]∧x=(.nil,[]))∨
  ∃(a:Addr) (len cap m:Nat) (D:Nat→DataW H) (Pl:Nat→List MemPlace),cs= [.slice (some a) len cap]∧base≤a.block∧len≤cap∧cap≤maxLen∧m=(if spare a.block then cap else len)∧
   x=(.slice ((List.range len).map D) ((List.range (m-len)).map fun j=>D (len+j)),MemPlace.row a (m*fs.size)++(List.range m).flatMap Pl)∧
   ∀i,i<m→∃(ys:List (DataW H×List MemPlace)) (n:Nat),D i= .agg (ys.map (·.1))∧Pl i=ys.flatMap (·.2)∧ys.length=fs.size∧
    ∀(j:Nat) (f:Field),fs[j]?=some f→∃(v:Value) (y:DataW H×List MemPlace),w.cell? (a.add (i*fs.size+j))=some v∧ys[j]?=some y∧DataW.trod enc P w base spare held n f.type [v]=some y:=by
 rcases open_slice ht h with h0 | ⟨a,len,cap,m,n,D,Pl,hcs,hb,hl,hm,hmm,hx,hi⟩
 ·exact .inl h0
 ·refine .inr ⟨a,len,cap,m,D,Pl,hcs,hb,hl,hm,hmm,by rw[hC]at hx;exact hx,fun i him=> ?_⟩
  obtain⟨cs',hc,ht'⟩:=hi i him
  rw[hC]at hc
  obtain⟨ys,n',hn',hy,hlen,hyl,hf⟩:=DataW.trod_struct he ht'
  obtain⟨_,hcl,hat⟩:=World.cells?_some hc
  simp only[Prod.mk.injEq]at hy
  refine⟨ys,n',hy.1,hy.2,hyl,fun j f hj=> ?_⟩
  obtain⟨ho,hk⟩:=hone_of hone j f hj
  have hjl:j<fs.size:=(Array.getElem?_eq_some_iff.1 hj).1
  have hcell:=hat j hjl
  have hv:cs'[j]?=some (cs'[j]'(by omega)):=List.getElem?_eq_getElem (by omega)
  have h1:=hf j f hj
  rw[ho,hk]at h1
  have hone':(cs'.drop j).take 1= [cs'[j]'(by omega)]:=by
   rw[List.drop_eq_getElem_cons (by omega)]
   rfl
  rw[hone']at h1
  have hys:ys[j]?=some (ys[j]'(by omega)):=List.getElem?_eq_getElem (by omega)
  refine⟨_,_,?_,hys,h1.trans hys⟩
  rw[←Go.Deep.add_add,hcell,hv]
end
theorem slF_mk {α:Type} {enc:α→List Value} {s n cap:Nat} {w:World} {a:Addr} {R:α→Prop} (hs:∀x,(enc x).length=s) (h0:0<s) (hle:n≤cap) (hmax:cap≤maxLen)
  (h:∀i,i<n→∃x:α,(∀j u,(enc x)[j]?=some u→w.cell? (a.add (i*s+j))=some u)∧R x):
  ∃L:List α,SlF s w (some a) n cap (flat enc L)∧∀x∈L,R x:=by
 classical
 have key:∀m,m≤n→∃L:List α,L.length=m∧(∀i x,L[i]?=some x→∀j u,(enc x)[j]?=some u→w.cell? (a.add (i*s+j))=some u)∧∀x∈L,R x:=by
  intro m
  induction m with
  | zero=>exact fun _=>⟨[],rfl,fun i x hx=>by simp at hx,fun x hx=>by simp at hx⟩
  | succ m ih=>
   intro hm
   obtain⟨L,hl,h1,h2⟩:=ih (by omega)
   obtain⟨x,hx1,hx2⟩:=h m (by omega)
   refine⟨L++ [x],by simp[hl],fun i y hy=> ?_,fun y hy=> ?_⟩
   ·rcases Nat.lt_or_ge i L.length with h' | h'
    ·rw[List.getElem?_append_left h']at hy
     exact h1 i y hy
    ·rw[List.getElem?_append_right h']at hy
     have:i-L.length=0:=by
      have:=(List.getElem?_eq_some_iff.1 hy).1
      simp at this
      omega
     rw[this]at hy
     simp at hy
     subst hy
     obtain rfl:i=m:=by omega
     exact hx1
   ·rcases List.mem_append.1 hy with h' | h'
    ·exact h2 y h'
    ·simp at h'
     subst h'
     exact hx2
 obtain⟨L,hl,h1,h2⟩:=key n (Nat.le_refl _)
 refine⟨L,⟨by rw[flat_len hs,hl],hle,hmax,by simp,fun i u hu=> ?_⟩,h2⟩
 have hi:i<n*s:=by have:=(List.getElem?_eq_some_iff.1 hu).1;rw[flat_len hs,hl]at this;exact this
 have hd:i=i / s*s+i % s:=by rw[Nat.mul_comm];exact(Nat.div_add_mod i s).symm
 have hlt:i / s<n:=Nat.div_lt_of_lt_mul (by rw[Nat.mul_comm];exact hi)
 obtain⟨x,hx⟩:∃x,L[i / s]?=some x:=⟨L[i / s]'(by rw[hl];exact hlt),List.getElem?_eq_getElem _⟩
 have hm:=Nat.mod_lt i h0
 rw[hd,flat_at hs hx hm]at hu
 have hc:=h1 _ x hx _ u hu
 rw[←hd]at hc
 have hsp:a.spot=none:=by
  obtain⟨x0,hx0⟩:∃x,L[0]?=some x:=⟨L[0]'(by have h9:=Nat.lt_of_le_of_lt (Nat.zero_le _) hlt;rw[hl];exact h9),List.getElem?_eq_getElem _⟩
  obtain⟨u0,hu0⟩:∃u,(enc x0)[0]?=some u:=⟨(enc x0)[0]'(by rw[hs];exact h0),List.getElem?_eq_getElem _⟩
  have h00:=h1 0 x0 hx0 0 u0 hu0
  have:=World.cell?_spot h00
  simpa[Addr.add]using this
 obtain⟨b,o,sp⟩:=a
 simp at hsp
 subst hsp
 refine⟨b,o,rfl,?_⟩
 rw[Addr.add_lit]at hc
 exact hc
theorem cellsStr:Tryz.prog.cellsOf 9=1:=by kernel_rfl
section
variable {H:Type} {enc:TypeId×Value→H} {W:World} {held:Bool}
theorem flat_str (T:List ByteArray):flat (fun s:ByteArray=>[Value.string s]) T=T.map .string:=by
 induction T with
 | nil=>rfl
 | cons x T ih=>rw[flat_cons,ih];rfl
theorem sls_of_trod {fuel:Nat} {v:Value} {y:DataW H×List MemPlace} (h:DataW.trod enc Tryz.prog W 0 (fun _=>true) held fuel 22 [v]=some y):
  ∃ao n c T,v= .slice ao n c∧SlS W ao n c T∧∀s∈T,s.size≤maxLen:=by
 rcases open_slice1 Tryz.underlying22 cellsStr h with⟨hcs,_⟩ | ⟨a,len,cap,m,n,V,D,Pl,hcs,_,hl,hm,hmm,_,hi⟩
 ·simp at hcs
  subst hcs
  exact⟨none,0,0,[],rfl,Sl.none,by simp⟩
 ·simp at hcs
  subst hcs
  simp at hmm
  subst hmm
  obtain⟨T,hT,hR⟩:=slF_mk (enc:=fun s:ByteArray=>[Value.string s]) (s:=1) (n:=len) (cap:=m) (w:=W) (a:=a) (R:=fun s=>s.size≤maxLen) (fun _=>rfl) (by omega) hl hm (by
   intro i hi2
   obtain⟨hc,ht⟩:=hi i (by omega)
   obtain⟨s,es,_,hs⟩:=DataW.trod_string Tryz.underlying9 ht
   simp at es
   refine⟨s,fun j u hu=> ?_,hs⟩
   match j,hu with
   | 0,hu=>simp at hu;subst hu;rw[Nat.mul_one,Nat.add_zero,hc,es]
   | j+1,hu=>simp at hu)
  rw[flat_str]at hT
  exact⟨some a,len,m,T,rfl,⟨by have:=hT.len;omega,hT.le,hT.max,hT.nil,hT.at_⟩,hR⟩
theorem spStruct:∃f0 f1:Field,Tryz.prog.underlying 58=some (.struct #[f0,f1])∧f0.type=9∧f1.type=3∧oneCellFields Tryz.prog #[f0,f1]=true:=
 ⟨_,_,Tryz.underlying58,rfl,rfl,by kernel_rfl⟩
theorem cellsSp:Tryz.prog.cellsOf 58=2:=by kernel_rfl
theorem mgStruct:∃f0 f1 f2 f3:Field,Tryz.prog.underlying 165=some (.struct #[f0,f1,f2,f3])∧f0.type=3∧f1.type=3∧f2.type=3∧f3.type=3∧oneCellFields Tryz.prog #[f0,f1,f2,f3]=true:=
 ⟨_,_,_,_,Tryz.underlying165,rfl,rfl,rfl,rfl,by kernel_rfl⟩
theorem cellsMg:Tryz.prog.cellsOf 165=4:=by kernel_rfl
theorem sps_of_trod {fuel:Nat} {v:Value} {y:DataW H×List MemPlace} (h:DataW.trod enc Tryz.prog W 0 (fun _=>true) held fuel 24 [v]=some y):
  ∃ao n c S,v= .slice ao n c∧SlF 2 W ao n c (flat Sp.enc S)∧∀s∈S,s.name.size≤maxLen:=by
 obtain⟨f0,f1,hu,e0,e1,hone⟩:=spStruct
 rcases open_slice_fields Tryz.underlying24 hu hone (by rw[cellsSp];rfl) h with⟨hcs,_⟩ | ⟨a,len,cap,m,D,Pl,hcs,_,hl,hm,hmm,_,hrow⟩
 ·simp at hcs
  subst hcs
  exact⟨_,_,_,[],rfl,SlF.nothing _,by simp⟩
 ·simp at hcs
  subst hcs
  simp at hmm
  subst hmm
  obtain⟨S,hS,hR⟩:=slF_mk (enc:=Sp.enc) (s:=2) (n:=len) (cap:=m) (w:=W) (a:=a) (R:=fun x=>x.name.size≤maxLen) Sp.enc_len (by omega) hl hm (by
   intro i hi
   obtain⟨ys,n',_,_,_,hf⟩:=hrow i (by omega)
   obtain⟨u0,y0,c0,_,t0⟩:=hf 0 f0 rfl
   obtain⟨u1,y1,c1,_,t1⟩:=hf 1 f1 rfl
   rw[e0]at t0
   rw[e1]at t1
   obtain⟨s,es,_,hs⟩:=DataW.trod_string Tryz.underlying9 t0
   obtain⟨z,ez,_,_⟩:=DataW.trod_int Tryz.underlying3 t1
   simp at es ez
   subst es ez
   refine⟨⟨s,z⟩,fun j u hu=> ?_,hs⟩
   match j,hu with
   | 0,hu=>simp[Sp.enc]at hu;subst hu;exact c0
   | 1,hu=>simp[Sp.enc]at hu;subst hu;exact c1
   | j+2,hu=>simp[Sp.enc]at hu)
  exact⟨_,_,_,S,rfl,hS,hR⟩
theorem mgs_of_trod {fuel:Nat} {v:Value} {y:DataW H×List MemPlace} (h:DataW.trod enc Tryz.prog W 0 (fun _=>true) held fuel 23 [v]=some y):
  ∃ao n c M,v= .slice ao n c∧SlF 4 W ao n c (flat Mg.enc M):=by
 obtain⟨f0,f1,f2,f3,hu,e0,e1,e2,e3,hone⟩:=mgStruct
 rcases open_slice_fields Tryz.underlying23 hu hone (by rw[cellsMg];rfl) h with⟨hcs,_⟩ | ⟨a,len,cap,m,D,Pl,hcs,_,hl,hm,hmm,_,hrow⟩
 ·simp at hcs
  subst hcs
  exact⟨_,_,_,[],rfl,SlF.nothing _⟩
 ·simp at hcs
  subst hcs
  simp at hmm
  subst hmm
  obtain⟨M,hM,_⟩:=slF_mk (enc:=Mg.enc) (s:=4) (n:=len) (cap:=m) (w:=W) (a:=a) (R:=fun _=>True) Mg.enc_len (by omega) hl hm (by
   intro i hi
   obtain⟨ys,n',_,_,_,hf⟩:=hrow i (by omega)
   obtain⟨u0,y0,c0,_,t0⟩:=hf 0 f0 rfl
   obtain⟨u1,y1,c1,_,t1⟩:=hf 1 f1 rfl
   obtain⟨u2,y2,c2,_,t2⟩:=hf 2 f2 rfl
   obtain⟨u3,y3,c3,_,t3⟩:=hf 3 f3 rfl
   rw[e0]at t0
   rw[e1]at t1
   rw[e2]at t2
   rw[e3]at t3
   obtain⟨z0,ez0,_,_⟩:=DataW.trod_int Tryz.underlying3 t0
   obtain⟨z1,ez1,_,_⟩:=DataW.trod_int Tryz.underlying3 t1
   obtain⟨z2,ez2,_,_⟩:=DataW.trod_int Tryz.underlying3 t2
   obtain⟨z3,ez3,_,_⟩:=DataW.trod_int Tryz.underlying3 t3
   simp at ez0 ez1 ez2 ez3
   subst ez0 ez1 ez2 ez3
   refine⟨⟨z0,z1,z2,z3⟩,fun j u hu=> ?_,trivial⟩
   match j,hu with
   | 0,hu=>simp[Mg.enc]at hu;subst hu;exact c0
   | 1,hu=>simp[Mg.enc]at hu;subst hu;exact c1
   | 2,hu=>simp[Mg.enc]at hu;subst hu;exact c2
   | 3,hu=>simp[Mg.enc]at hu;subst hu;exact c3
   | j+4,hu=>simp[Mg.enc]at hu)
  exact⟨_,_,_,M,rfl,hM⟩
theorem cellsVoc:Tryz.prog.cellsOf 26=3:=by kernel_rfl
end
theorem infoRg:(Tryz.prog.info? 93).map (fun i=>(i.zero.map (·.cells.size),i.size,i.bytes))=some (some 3,3,24):=by kernel_rfl
theorem infoSt:(Tryz.prog.info? 9).map (fun i=>(i.zero.map (·.cells.size),i.size,i.bytes))=some (some 1,1,16):=by kernel_rfl
def encS (s:ByteArray):List Value:=[.string s]
theorem encS_len (s:ByteArray):(encS s).length=1:=rfl
theorem encS_one (x:ByteArray):∀v∈encS x,v.oneCell'=true:=by
 intro v hv;simp[encS]at hv;subst hv;rfl
theorem flat_encS (T:List ByteArray):flat encS T=T.map .string:=flat_str T
theorem SlS.flat {w:World} {ao:Option Addr} {n c:Nat} {T:List ByteArray} (h:SlS w ao n c T):SlF 1 w ao n c (flat encS T):=
 ⟨by rw[flat_encS,List.length_map,h.count];omega,Sl.le h,Sl.max h,Sl.nil h,fun i u hu=>by rw[flat_encS]at hu;exact Sl.at_ h i u hu⟩
theorem SlF.strs {w:World} {ao:Option Addr} {n c:Nat} {T:List ByteArray} (h:SlF 1 w ao n c (Go.Proofs.YtimkkkdabmhedaaGreatDoor.flat encS T)):SlS w ao n c T:=
 ⟨by have:=h.count encS_len (by omega);rw[List.length_map];exact this,h.le,h.max,h.nil,fun i u hu=>by rw[←flat_encS]at hu;exact h.at_ i u hu⟩
theorem cloneStr_nil (c:Nat) (w:World):
  Calls Tryz.prog 47 #[.slice none 0 c] w fun e w'=>∃v,e= .returned v∧OwnF encS 1 9 w' w.heap.size v []∧Below w.heap.size w w':=by
 have hsn:=fun w=>Lib.run_eql_slice_nil (P:=Tryz.prog) w 22 9 none 0 c 0 0 Tryz.underlying22
 go_enter Tryz.func47,Tryz.ntmps47
 go_wp2
 go_ret
 exact⟨_,rfl,OwnF.nil _ _,Below.refl _ _⟩
theorem cloneStr_some {S:List ByteArray} {ad:Addr} {n c:Nat} (w:World) (hS:SlF 1 w (some ad) n c (flat encS S)) (hn:n≤1048576):
  Calls Tryz.prog 47 #[.slice (some ad) n c] w fun e w'=>∃v,e= .returned v∧OwnF encS 1 9 w' w.heap.size v S∧Below w.heap.size w w':=by
 obtain⟨i0,z0,hi,hz0,hz1,hz2,hz3⟩:=info_row infoSt
 have hsn:=fun w=>Lib.run_eql_slice_nil (P:=Tryz.prog) w 22 9 (some ad) n c 0 0 Tryz.underlying22
 have hown:OwnF encS 1 9 (w.alloc (.cells #[] 9)) w.heap.size (.slice (some ⟨w.heap.size,0, .none⟩) 0 0) []:=OwnF.made0 w
 have hA2:=hS.alloc (.cells #[] 9)
 go_enter Tryz.func47,Tryz.ntmps47
 go_wp2_with (at_builtin;go_loud (refine wpList_flat_app rfl _ _ 22 rfl i0 z0 16 Tryz.underlying22 hi hz0 hz1 hz2 hz3 encS_len (by omega) encS_one rfl hown rfl hA2 (by unfold maxLen;simp only[List.length_nil];omega) (by simp only[List.length_nil];omega) (by simp) ?_))
 intro v' w' ho hg hb
 go_wp2
 go_ret
 exact⟨_,rfl,by simpa using ho,(below_alloc w _).trans hb⟩
theorem cloneStr_calls {S:List ByteArray} {ao:Option Addr} {n c:Nat} (w:World) (hS:SlF 1 w ao n c (flat encS S)) (hn:n≤1048576):
  Calls Tryz.prog 47 #[.slice ao n c] w fun e w'=>∃v,e= .returned v∧OwnF encS 1 9 w' w.heap.size v S∧Below w.heap.size w w':=by
 cases ao with
 | some ad=>exact cloneStr_some w hS hn
 | none=>
  have hc:=hS.nil rfl
  have h0:n=0:=by have:=hS.le;omega
  subst h0
  have:S= []:=List.eq_nil_of_length_eq_zero (hS.count encS_len (by omega))
  subst this
  exact cloneStr_nil c w
theorem cloneMg_nil (c:Nat) (w:World):
  Calls Tryz.prog 112 #[.slice none 0 c] w fun e w'=>∃v,e= .returned v∧OwnF Mg.enc 4 165 w' w.heap.size v []∧Below w.heap.size w w':=by
 have hsn:=fun w=>Lib.run_eql_slice_nil (P:=Tryz.prog) w 23 165 none 0 c 0 0 Tryz.underlying23
 go_enter Tryz.func112,Tryz.ntmps112
 go_wp2
 go_ret
 exact⟨_,rfl,OwnF.nil _ _,Below.refl _ _⟩
theorem cloneMg_some {S:List Mg} {ad:Addr} {n c:Nat} (w:World) (hS:SlF 4 w (some ad) n c (flat Mg.enc S)) (hn:n≤1048576):
  Calls Tryz.prog 112 #[.slice (some ad) n c] w fun e w'=>∃v,e= .returned v∧OwnF Mg.enc 4 165 w' w.heap.size v S∧Below w.heap.size w w':=by
 obtain⟨i0,z0,hi,hz0,hz1,hz2,hz3⟩:=info_row infoMg
 have hsn:=fun w=>Lib.run_eql_slice_nil (P:=Tryz.prog) w 23 165 (some ad) n c 0 0 Tryz.underlying23
 have hown:OwnF Mg.enc 4 165 (w.alloc (.cells #[] 165)) w.heap.size (.slice (some ⟨w.heap.size,0, .none⟩) 0 0) []:=OwnF.made0 w
 have hA2:=hS.alloc (.cells #[] 165)
 go_enter Tryz.func112,Tryz.ntmps112
 go_wp2_with (at_builtin;go_loud (refine wpList_flat_app rfl _ _ 23 rfl i0 z0 32 Tryz.underlying23 hi hz0 hz1 hz2 hz3 Mg.enc_len (by omega) Mg.enc_one rfl hown rfl hA2 (by unfold maxLen;simp only[List.length_nil];omega) (by simp only[List.length_nil];omega) (by simp) ?_))
 intro v' w' ho hg hb
 go_wp2
 go_ret
 exact⟨_,rfl,by simpa using ho,(below_alloc w _).trans hb⟩
theorem cloneMg_calls {S:List Mg} {ao:Option Addr} {n c:Nat} (w:World) (hS:SlF 4 w ao n c (flat Mg.enc S)) (hn:n≤1048576):
  Calls Tryz.prog 112 #[.slice ao n c] w fun e w'=>∃v,e= .returned v∧OwnF Mg.enc 4 165 w' w.heap.size v S∧Below w.heap.size w w':=by
 cases ao with
 | some ad=>exact cloneMg_some w hS hn
 | none=>
  have hc:=hS.nil rfl
  have h0:n=0:=by have:=hS.le;omega
  subst h0
  have:S= []:=List.eq_nil_of_length_eq_zero (hS.count Mg.enc_len (by omega))
  subst this
  exact cloneMg_nil c w
theorem cloneRg_nil (c:Nat) (w:World):
  Calls Tryz.prog 48 #[.slice none 0 c] w fun e w'=>∃v,e= .returned v∧OwnF Rg.enc 3 93 w' w.heap.size v []∧Below w.heap.size w w':=by
 have hsn:=fun w=>Lib.run_eql_slice_nil (P:=Tryz.prog) w 27 93 none 0 c 0 0 Tryz.underlying27
 go_enter Tryz.func48,Tryz.ntmps48
 go_wp2
 go_ret
 exact⟨_,rfl,OwnF.nil _ _,Below.refl _ _⟩
theorem cloneRg_some {S:List Rg} {ad:Addr} {n c:Nat} (w:World) (hS:SlF 3 w (some ad) n c (flat Rg.enc S)) (hn:n≤1048576):
  Calls Tryz.prog 48 #[.slice (some ad) n c] w fun e w'=>∃v,e= .returned v∧OwnF Rg.enc 3 93 w' w.heap.size v S∧Below w.heap.size w w':=by
 obtain⟨i0,z0,hi,hz0,hz1,hz2,hz3⟩:=info_row infoRg
 have hsn:=fun w=>Lib.run_eql_slice_nil (P:=Tryz.prog) w 27 93 (some ad) n c 0 0 Tryz.underlying27
 have hown:OwnF Rg.enc 3 93 (w.alloc (.cells #[] 93)) w.heap.size (.slice (some ⟨w.heap.size,0, .none⟩) 0 0) []:=OwnF.made0 w
 have hA2:=hS.alloc (.cells #[] 93)
 go_enter Tryz.func48,Tryz.ntmps48
 go_wp2_with (at_builtin;go_loud (refine wpList_flat_app rfl _ _ 27 rfl i0 z0 24 Tryz.underlying27 hi hz0 hz1 hz2 hz3 Rg.enc_len (by omega) Rg.enc_one rfl hown rfl hA2 (by unfold maxLen;simp only[List.length_nil];omega) (by simp only[List.length_nil];omega) (by simp) ?_))
 intro v' w' ho hg hb
 go_wp2
 go_ret
 exact⟨_,rfl,by simpa using ho,(below_alloc w _).trans hb⟩
theorem cloneRg_calls {S:List Rg} {ao:Option Addr} {n c:Nat} (w:World) (hS:SlF 3 w ao n c (flat Rg.enc S)) (hn:n≤1048576):
  Calls Tryz.prog 48 #[.slice ao n c] w fun e w'=>∃v,e= .returned v∧OwnF Rg.enc 3 93 w' w.heap.size v S∧Below w.heap.size w w':=by
 cases ao with
 | some ad=>exact cloneRg_some w hS hn
 | none=>
  have hc:=hS.nil rfl
  have h0:n=0:=by have:=hS.le;omega
  subst h0
  have:S= []:=List.eq_nil_of_length_eq_zero (hS.count Rg.enc_len (by omega))
  subst this
  exact cloneRg_nil c w
theorem cloneSp_nil (c:Nat) (w:World):
  Calls Tryz.prog 53 #[.slice none 0 c] w fun e w'=>∃v,e= .returned v∧OwnF Sp.enc 2 58 w' w.heap.size v []∧Below w.heap.size w w':=by
 have hsn:=fun w=>Lib.run_eql_slice_nil (P:=Tryz.prog) w 24 58 none 0 c 0 0 Tryz.underlying24
 go_enter Tryz.func53,Tryz.ntmps53
 go_wp2
 go_ret
 exact⟨_,rfl,OwnF.nil _ _,Below.refl _ _⟩
theorem cloneSp_some {S:List Sp} {ad:Addr} {n c:Nat} (w:World) (hS:SlF 2 w (some ad) n c (flat Sp.enc S)) (hn:n≤1048576):
  Calls Tryz.prog 53 #[.slice (some ad) n c] w fun e w'=>∃v,e= .returned v∧OwnF Sp.enc 2 58 w' w.heap.size v S∧Below w.heap.size w w':=by
 obtain⟨i0,z0,hi,hz0,hz1,hz2,hz3⟩:=info_row infoSp
 have hsn:=fun w=>Lib.run_eql_slice_nil (P:=Tryz.prog) w 24 58 (some ad) n c 0 0 Tryz.underlying24
 have hown:OwnF Sp.enc 2 58 (w.alloc (.cells #[] 58)) w.heap.size (.slice (some ⟨w.heap.size,0, .none⟩) 0 0) []:=OwnF.made0 w
 have hA2:=hS.alloc (.cells #[] 58)
 go_enter Tryz.func53,Tryz.ntmps53
 go_wp2_with (at_builtin;go_loud (refine wpList_flat_app rfl _ _ 24 rfl i0 z0 24 Tryz.underlying24 hi hz0 hz1 hz2 hz3 Sp.enc_len (by omega) Sp.enc_one rfl hown rfl hA2 (by unfold maxLen;simp only[List.length_nil];omega) (by simp only[List.length_nil];omega) (by simp) ?_))
 intro v' w' ho hg hb
 go_wp2
 go_ret
 exact⟨_,rfl,by simpa using ho,(below_alloc w _).trans hb⟩
theorem cloneSp_calls {S:List Sp} {ao:Option Addr} {n c:Nat} (w:World) (hS:SlF 2 w ao n c (flat Sp.enc S)) (hn:n≤1048576):
  Calls Tryz.prog 53 #[.slice ao n c] w fun e w'=>∃v,e= .returned v∧OwnF Sp.enc 2 58 w' w.heap.size v S∧Below w.heap.size w w':=by
 cases ao with
 | some ad=>exact cloneSp_some w hS hn
 | none=>
  have hc:=hS.nil rfl
  have h0:n=0:=by have:=hS.le;omega
  subst h0
  have:S= []:=List.eq_nil_of_length_eq_zero (hS.count Sp.enc_len (by omega))
  subst this
  exact cloneSp_nil c w
end Go.Proofs.YtimkkkdabmhedaaGreatDoor
