/- Walks: is each long token made by a merge? By the program and by the document. -/
import Derived.Test.YtahiballegpbgaaGreatDoorR2
import Derived.Test.YtahiballegpbgaaGreatDoorR3
import Derived.Test.YtahiballegpbgaaGreatDoorR1
import Derived.Lib.Strings
import Derived.Lib.Slices
import Derived.Lib.Walk
import Derived.Lib.Bytealg
set_option linter.unusedVariables false
set_option maxHeartbeats 2000000
set_option maxRecDepth 100000
namespace Go.Proofs.YtahiballegpbgaaGreatDoor
open Go.RowKit
noncomputable abbrev VI:B4 Tryz.prog 3 Int:=aCv Tryz.underlying3
abbrev MapI (w:World) (mb sz:Nat) (f:Int->Option Int):Prop:=A0 VI 3 w mb sz f
section
variable {w:World} {ops:Array Oper} {rest:List Oper} {o:Oper} {a:Act} {Q:Exit->Act->World->Prop}
theorem gT (hg:o.guard=none) (m x:Operand) (hop:o.op=Op.lookup 281 m x false) {mb sz:Nat} {f:Int->Option Int} (hm:a.eval m= .map (some mb)) (h:MapI w mb sz f)
  {s:Int} (hx:a.eval x= .int .i64 s) (hs:(Lit.int .i64 s).wf=true)
  (hK:wpList Tryz.prog ops Q rest (a.put o.dst (.int .i64 ((f s).getD 0))) w):wpList Tryz.prog ops Q (o::rest) a w:=
 fT (V:=VI) Tryz.underlying281 Tryz.underlying3 zE hg m x hop hm h (s:=s) hx hs hK
theorem cI (hg:o.guard=none) (m x v:Operand) (hop:o.op=Op.mapUpdate 281 m x v) {mb sz:Nat} {f:Int->Option Int} (hm:a.eval m= .map (some mb)) (h:MapI w mb sz f)
  {s:Int} (hx:a.eval x= .int .i64 s) (hs:(Lit.int .i64 s).wf=true) {c:Int} (hv:a.eval v= .int .i64 c) (hc:(Lit.int .i64 c).wf=true) (hn:sz<maxLen)
  (hK:∀w' sz',sz'<=sz+1->MapI w' mb sz' (fun t=>if t=s then some c else f t)->w.grownBy w' (some mb)->wpList Tryz.prog ops Q rest (a.put o.dst undef) w'):wpList Tryz.prog ops Q (o::rest) a w:=
 sL (V:=VI) Tryz.underlying281 Tryz.underlying3 hg m x v hop hm h (s:=s) hx hs hv hc hn fun w' h1 h2=>hK w' _ (by split<;>omega) h1 h2
end
def K4 (M:List Mg) (k:Nat) (f:Int->Option Int):Prop:=∀i,((f i).isSome=true↔∃j,j<k/\(mg M j).out=i)/\∀c,f i=some c->1<=c/\c<=k
theorem K4.zero (M:List Mg):K4 M 0 (fun _=>none):=fun i=>⟨⟨(fun h=>by cases h),fun⟨j,hj,_⟩=>by omega⟩,fun c hc=>by cases hc⟩
theorem K4.get {M:List Mg} {k:Nat} {f:Int->Option Int} (h:K4 M k f) (i:Int):0<=(f i).getD 0/\(f i).getD 0<=k/\((f i).getD 0=0↔¬∃j,j<k/\(mg M j).out=i):=by
 cases hf:f i with
 | none=>
  have:=(h i).1;rw[hf]at this;simp at this |-;exact this
 | some c=>
  have h1:=(h i).2 c hf;have:=(h i).1;rw[hf]at this;simp at this |-;refine⟨by omega,by omega,?_⟩;obtain⟨j,hj,e⟩:=this;constructor
  ·intro hc;omega
  ·intro h2;exact absurd e (h2 j hj)
theorem K4.next {M:List Mg} {k:Nat} {f:Int->Option Int} (h:K4 M k f):K4 M (k+1) (fun t=>if t=(mg M k).out then some ((f (mg M k).out).getD 0+1)else f t):=fun i=>by
 have hg:=h.get (mg M k).out
 by_cases e:i=(mg M k).out
 ·subst e;simp only[if_true,Option.isSome_some,true_iff,Option.some.injEq];refine⟨⟨k,by omega,rfl⟩,fun c hc=>by omega⟩
 ·simp only[e,if_false];refine⟨?_,fun c hc=>by have:=(h i).2 c hc;omega⟩;rw[(h i).1];constructor
  ·rintro⟨j,hj,he⟩;exact⟨j,by omega,he⟩
  ·rintro⟨j,hj,he⟩;have:j≠k:=fun ej=>e (by rw[<-he,ej])
   exact⟨j,by omega,he⟩
def eQ (T:List ByteArray) (M:List Mg) (w:World) (e:Ending) (w':World):Prop:=(∃b,e= .returned (.bool b)/\(b=true↔rJ T M))/\Below w.heap.size w w'
theorem aCk {T:List ByteArray} {M:List Mg} {i:Nat} (hi:i<T.length) (h1:1<(tk T i).size) (h2:¬∃j,j<M.length/\(mg M j).out=(i:Int)):(false=true↔rJ T M):=
 ⟨(fun h=>by cases h),fun h=>by
  obtain⟨m,hm,e⟩:=h i hi h1;obtain⟨j,hj,rfl⟩:=List.getElem_of_mem hm;exact absurd ⟨j,hj,by rw[<-wG hj];exact e⟩ h2⟩
def eF (T:List ByteArray) (M:List Mg) (k:Nat):Prop:=∀i,i<k->1<(tk T i).size->∃j,j<M.length/\(mg M j).out=(i:Int)
theorem eF.zero (T:List ByteArray) (M:List Mg):eF T M 0:=fun i h=>by omega
theorem eF.next {T:List ByteArray} {M:List Mg} {k:Nat} (h:eF T M k) (h1:1<(tk T k).size->∃j,j<M.length/\(mg M j).out=(k:Int)):eF T M (k+1):=fun i hi hs=>by
 by_cases e:i=k
 ·subst e;exact h1 hs
 ·exact h i (by omega) hs
theorem eF.all {T:List ByteArray} {M:List Mg} {k n:Nat} (h:eF T M k) (hl:T.length=n) (hk2:¬k<n):rJ T M:=fun i hi hs=>by
 obtain⟨j,hj,e⟩:=h i (by omega) hs;exact⟨mg M j,by rw[<-wG hj];exact List.getElem_mem _,e⟩
theorem vT {V:Vc} {dd:Vd} (w:World) (hV:xE w dd V) (hmay:sD V.tokens) (hmg:D6 V.tokens V.merges):
  Calls Tryz.prog 182 #[dd.val] w (eQ V.tokens V.merges w):=by
 obtain⟨T,M,S⟩:=V;obtain⟨ta,tn,tc,ma,mn,mc,sa,sn,sc⟩:=dd;obtain⟨hT,hM,_⟩:=hV;simp only at hT hM hmay hmg |-;have hm:=Nat.le_trans (Sl.le hT) (Sl.max hT);have hmm:=Nat.le_trans hM.le hM.max;unfold maxLen at hm hmm;have hlen:=hW_ hT.count;have hlenM:=hW_ (hM.count Mg.enc_len (by omega));have hmk:=@run_makeMap Tryz.prog;obtain⟨w0,hw0⟩:∃w0,w.alloc (.cells #[.slice ta tn tc, .slice ma mn mc, .slice sa sn sc] 26)=w0:=⟨_,rfl⟩;have hb0:Below w.heap.size w w0:=hw0▸aA w _;have hx0:w0.heap[w.heap.size]?=some (.cells #[.slice ta tn tc, .slice ma mn mc, .slice sa sn sc] 26):=by rw[<-hw0];exact heap_alloc_new w _
 have hs0:w.heap.size<w0.heap.size:=by rw[<-hw0];simp
 obtain⟨c0,c1,c2⟩:=A4 hx0;have HT:=hW_ (Sl.below hT hb0);have HM:=hW_ (hM.below hb0);have HX0:=hW_ hx0;have HB0:=hW_ hb0;have HMay:=hW_ hmay;have HMg:=hW_ hmg;have HW0:=hW_ hw0;have hmn:mn<=16384:=by have:=hmg.1;have:=hlenM.out;omega
 have H0:=hW_ (A0.new VI 3 w0);have HB00:=hW_ (aA w0 (.map #[] 0));have hs00:w.heap.size+1=w0.heap.size:=by rw[<-hw0];simp
 have HS00:=hW_ hs00;clear hT hM hmay hmg hb0 hx0 hw0 hs00;go_enter Tryz.func182,Tryz.ntmps182;go_wp2_with (fail);rw[HW0.out];go_loopw [5,12] (fun _ i wr=>∃(k sz:Nat) (f:Int->Option Int),k<=mn/\i= .int .i64 k/\sz<=k/\MapI wr (w.heap.size+1) sz f/\Hid (K4 M k f)/\Below w0.heap.size w0 wr) (fun _ i _=>mn-(intOf i).toNat)
 case atStart=>exact⟨0,0,_,Nat.zero_le _,rfl,Nat.le_refl _,by rw[HS00.out];exact H0.out,hW_ (K4.zero M),HB00.out⟩
 case round=>
  obtain⟨k,sz,f,hk,rfl,hsz,hmap,HMd,hb⟩:=hrel;have HB:=hW_ hb;have HMp:=hW_ hmap;clear c0 c1 c2;obtain⟨c0,c1,c2⟩:=A4 ((hb.block w.heap.size hs0).trans HX0.out);have hlt0:w.heap.size<wr.heap.size:=Nat.lt_of_lt_of_le hs0 hb.size;clear hb hmap
  by_cases hlt:k<mn
  ·have hkM:k<M.length:=by have:=hlenM.out;omega
   obtain⟨b,of,rfl,hce⟩:=(HM.out.below HB.out).elem Mg.enc_len (by omega) (F2 hkM);have hok:=HMg.out.ok hkM;obtain⟨⟨l,r,o,d⟩,hmeq⟩:∃m,mg M k=m:=⟨_,rfl⟩;rw[hmeq]at hce hok;have d0:=hce 0 _ rfl;have d1:=hce 1 _ rfl;have d2:=hce 2 _ rfl;have d3:=hce 3 _ rfl;rw[Nat.add_zero]at d0;simp only at d0 d1 d2 d3;have hio:=vB.1 hok.2.2.1;have hwo:(Lit.int .i64 o).wf=true:=by rw[gC];have:=HMay.out.1;have:=hio.2.1;have:=hio.1;simp only at *;omega
   have HWO:=hW_ hwo;have hwb:=aA wr (.cells #[.int .i64 l, .int .i64 r, .int .i64 o, .int .i64 d] 170);have HB1:=hW_ (HB.out.trans (hwb.mono HB.out.size));have HM1:=hW_ (HMp.out.below hwb);have hg:=HMd.out.get o;have hgw:(Lit.int .i64 ((f o).getD 0+1)).wf=true:=by rw[gC];omega
   have HGW:=hW_ hgw;have hwr:IntKind.i64.wrap ((f o).getD 0+1)=(f o).getD 0+1:=by rw[IntKind.wrap_i64];omega
   have HNX:Hid (K4 M (k+1) (fun t=>if t=o then some ((f o).getD 0+1)else f t)):=hW_ (by have:=HMd.out.next;rw[hmeq]at this;exact this);obtain⟨c,hc⟩:∃c,(f o).getD 0=c:=⟨_,rfl⟩;rw[hc]at hg hgw hwr HGW HNX;have HC:=hW_ hc;obtain⟨hg1,hg2,_⟩:=hg;clear hce hmeq hok hio hwo hwb hgw hc;go_wp2_with (first
    | (with_reducible show wpList _ _ _ (⟨_, .lookup _ _ _ _,_,_,_,_⟩::_) _ _;refine gT rfl _ _ rfl rfl HM1.out rfl HWO.out ?_;rw[HC.out])
    | (with_reducible show wpList _ _ _ (⟨_, .mapUpdate _ _ _ _,_,_,_,_⟩::_) _ _;refine cI rfl _ _ _ rfl rfl HM1.out rfl HWO.out rfl HGW.out (by unfold maxLen;omega) ?_))
   intro w2 sz2 hsz2 hm2 hg2';have HM2:=hW_ hm2;have HB2:=hW_ (HB1.out.grown hg2' HB1.out.size fun q hq=>by simp at hq;have:=HS00.out;omega);clear hm2 hg2';go_wp2_with (fail);go_roundw
   case rel=>exact⟨k+1,sz2,_,by omega,by go_num,by omega,HM2.out,HNX,HB2.out⟩
   case measure=>simp[intOf];omega
  ·have hkn:k=mn:=by omega
   have HMd2:Hid (K4 M M.length f):=hW_ (by rw[hlenM.out,<-hkn];exact HMd.out);clear hkn;go_wp2_with (fail);go_loopw [6,7,25] (fun _ _ i wq=>∃q:Nat,q<=tn/\i= .int .i64 q/\Hid (eF T M q)/\wq=wr) (fun _ _ i _=>tn-(intOf i).toNat)
   case atStart=>exact⟨0,Nat.zero_le _,rfl,hW_ (eF.zero T M),rfl⟩
   case round=>
    obtain⟨q,hq,rfl,HT2,rfl⟩:=hrel
    by_cases hltq:q<tn
    ·have hqT:q<T.length:=by have:=hlen.out;omega
     obtain⟨b,o,rfl,hc⟩:=SlS.cell (Sl.below HT.out HB.out) (sB hqT);have hks:=HMay.out.2.1 _ (qB hqT);have hwq:(Lit.int .i64 (q:Int)).wf=true:=by rw[gC];omega
     have HWQ:=hW_ hwq;clear hwq
     by_cases h1:(1:Int)<(tk T q).size
     ·have hg1:decide ((1:Int)<(tk T q).size)=true:=by simpa using h1
      have hg:=HMd2.out.get (q:Int);obtain⟨c,hcc⟩:∃c,(f (q:Int)).getD 0=c:=⟨_,rfl⟩;rw[hcc]at hg;have hlk:(Instr.lookup 281 (.map (some (w.heap.size+1))) (.int .i64 (q:Int)) false).run Tryz.prog wr= .ok (.int .i64 c) wr:=by
       rw[<-hcc];exact A0.get (V:=VI) (s:=(q:Int)) Tryz.underlying281 Tryz.underlying3 zE HMp.out HWQ.out
      clear hcc
      by_cases hz:c=0
      ·subst hz;have HF:=hW_ (aCk hqT (by omega) (hg.2.2.1 rfl));clear hg;go_wp2_with (fail);go_ret;exact⟨⟨_,rfl,HF.out⟩,HB0.out.trans (HB.out.mono HB0.out.size)⟩
      ·have hzz:(c==0)=false:=by simpa using hz
       have HTn:Hid (eF T M (q+1)):=hW_ (HT2.out.next (fun _=>Classical.byContradiction fun h=>hz (hg.2.2.2 h)));clear hg hz;go_wp2_with (fail);go_roundw
       case rel=>exact⟨q+1,by omega,by go_num,HTn,by first | rfl | trivial⟩
       case measure=>simp[intOf];omega
     ·have hg1:decide ((1:Int)<(tk T q).size)=false:=by simpa using h1
      have HTn:Hid (eF T M (q+1)):=hW_ (HT2.out.next (fun h=>by omega));go_wp2_with (fail);go_roundw
      case rel=>exact⟨q+1,by omega,by go_num,HTn,by first | rfl | trivial⟩
      case measure=>simp[intOf];omega
    ·have HF:=hW_ (HT2.out.all hlen.out hltq);go_wp2_with (fail);go_ret;exact⟨⟨_,rfl,(fun _=>HF.out),(fun _=>rfl)⟩,HB0.out.trans (HB.out.mono HB0.out.size)⟩
theorem made_iff {T:List ByteArray} {M:List Mg} {i:Nat} (b:Bool) (h:b=true↔(tk T i).size<2\/∃j,j<M.length/\(mg M j).out=(i:Int)):(b=true↔(1<(tk T i).size->∃j,j<M.length/\(mg M j).out=(i:Int))):=by
 rw[h];constructor
 ·rintro(h1 | h1)
  ·intro h2;omega
  ·exact fun _=>h1
 ·intro h1
  by_cases h2:1<(tk T i).size
  ·exact .inr (h1 h2)
  ·exact .inl (by omega)
theorem vR {V:Vc} {dd:Vd} (w:World) (hV:xE w dd V) (hmay:sD V.tokens):
  Calls Tryz.prog 138 #[dd.val] w (eQ V.tokens V.merges w):=by
 obtain⟨T,M,S⟩:=V;obtain⟨ta,tn,tc,ma,mn,mc,sa,sn,sc⟩:=dd;obtain⟨hT,hM,_⟩:=hV;simp only at hT hM hmay |-;have hm:=Nat.le_trans (Sl.le hT) (Sl.max hT);have hmm:=Nat.le_trans hM.le hM.max;unfold maxLen at hm hmm;have hlen:=hW_ hT.count;have hlenM:=hW_ (hM.count Mg.enc_len (by omega));obtain⟨w0,hw0⟩:∃w0,w.alloc (.cells #[.slice ta tn tc, .slice ma mn mc, .slice sa sn sc] 26)=w0:=⟨_,rfl⟩;have hb0:Below w.heap.size w w0:=hw0▸aA w _;have hx0:w0.heap[w.heap.size]?=some (.cells #[.slice ta tn tc, .slice ma mn mc, .slice sa sn sc] 26):=by rw[<-hw0];exact heap_alloc_new w _
 obtain⟨c0,c1,c2⟩:=A4 hx0;have HT:=hW_ (Sl.below hT hb0);have HM:=hW_ (hM.below hb0);have HB0:=hW_ hb0;have HMay:=hW_ hmay;have HW0:=hW_ hw0;clear hT hM hmay hb0 hx0 hw0;go_enter Tryz.func138,Tryz.ntmps138;go_wp2_with (fail);rw[HW0.out];go_loop [3,4,5,9] (fun _ _ _ i=>∃(k:Nat),k<=tn/\i= .int .i64 k/\Hid (eF T M k)) (fun _ _ _ i=>tn-(intOf i).toNat)
 case atStart=>exact⟨0,Nat.zero_le _,rfl,hW_ (eF.zero T M)⟩
 case round=>
  obtain⟨k,hk,rfl,HMt⟩:=hrel
  by_cases hlt:k<tn
  ·have hkT:k<T.length:=by have:=hlen.out;omega
   obtain⟨b,o,rfl,hc⟩:=SlS.cell HT.out (sB hkT);have hks:=HMay.out.2.1 _ (qB hkT);obtain⟨b0,hb0⟩:∃b0:Bool,decide (((tk T k).size:Int)<2)=b0:=⟨_,rfl⟩;have HB00:=hW_ hb0;go_wp2_with (fail);clear hb0;go_loop [4,5,22] (fun m _ i=>∃(q:Nat) (b:Bool),q<=mn/\i= .int .i64 q/\m= .bool b/\Hid (b=true↔(tk T k).size<2\/∃j,j<q/\(mg M j).out=(k:Int))) (fun _ _ i=>mn-(intOf i).toNat)
   case atStart=>exact⟨0,b0,Nat.zero_le _,rfl,rfl,hW_ (by
    have:=HB00.out;constructor
    ·intro h;rw[h]at this;simp at this;left;omega
    ·rintro(h | ⟨j,hj,_⟩)
     ·rw[<-this];simp;omega
     ·omega)⟩
   case round=>
    obtain⟨q,bb,hq,rfl,rfl,HQ⟩:=hrel
    by_cases hltq:q<mn
    ·obtain⟨bm,om,rfl,hce⟩:=HM.out.elem Mg.enc_len (by omega) (F2 (M:=M) (i:=q) (by have:=hlenM.out;omega));have d2:=hce 2 _ rfl;clear hce
     cases bb with
     | true=>
      have HQ2:Hid (true=true↔(tk T k).size<2\/∃j,j<q+1/\(mg M j).out=(k:Int)):=hW_ ⟨fun _=>by
       rcases HQ.out.1 rfl with h | ⟨j,hj,e⟩
       ·exact .inl h
       ·exact .inr ⟨j,by omega,e⟩,fun _=>rfl⟩
      go_wp2_with (fail);go_round
      case rel=>exact⟨q+1,true,by omega,by go_num,rfl,HQ2⟩
      case measure=>simp[intOf];omega
     | false=>
      obtain⟨e,he⟩:∃e:Bool,((mg M q).out==(k:Int))=e:=⟨_,rfl⟩;have HQ2:Hid (e=true↔(tk T k).size<2\/∃j,j<q+1/\(mg M j).out=(k:Int)):=hW_ (by
       constructor
       ·intro h;rw[h]at he;exact .inr ⟨q,by omega,by simpa using he⟩
       ·rintro(h | ⟨j,hj,e2⟩)
        ·have:=HQ.out.2 (.inl h);cases this
        ·by_cases ej:j=q
         ·subst ej;rw[<-he];simpa using e2
         ·have:=HQ.out.2 (.inr ⟨j,by omega,e2⟩);cases this)
      go_wp2_with (fail);go_round
      case rel=>exact⟨q+1,e,by omega,by go_num,rfl,HQ2⟩
      case measure=>simp[intOf];omega
    ·have HQ3:Hid (bb=true↔(1<(tk T k).size->∃j,j<M.length/\(mg M j).out=(k:Int))):=hW_ (made_iff bb (by rw[hlenM.out,show mn=q by omega];exact HQ.out))
     cases bb with
     | true=>
      have HTn:Hid (eF T M (k+1)):=hW_ (HMt.out.next (HQ3.out.1 rfl));go_wp2_with (fail);go_round
      case rel=>exact⟨k+1,by omega,by go_num,HTn⟩
      case measure=>simp[intOf];omega
     | false=>
      have HF:Hid (false=true↔rJ T M):=hW_ (by
       by_cases h1:1<(tk T k).size
       ·exact aCk hkT h1 (fun h=>by have:=HQ3.out.2 (fun _=>h);cases this)
       ·have:=HQ3.out.2 (fun h=>absurd h h1);cases this)
      go_wp2_with (fail);go_ret;exact⟨⟨_,rfl,HF.out⟩,HB0.out⟩
  ·have HF:=hW_ (HMt.out.all hlen.out hlt);go_wp2_with (fail);go_ret;exact⟨⟨_,rfl,(fun _=>HF.out),(fun _=>rfl)⟩,HB0.out⟩
theorem oL (s:ByteArray) (c:Int) (w:World):
  Calls Tryz.prog 249 #[.string s, .int .u8 c] w fun e w'=>e= .returned (.int .i64 (Lib.indexByte s.data.toList c.toNat.toUInt8))/\w=w':=by
 go_enter Tryz.func249,Tryz.ntmps249;go_wp2;rw[run_callFunc_extern Tryz.func253 (by kernel_rfl) (by kernel_rfl) (by kernel_rfl) (e:=Extern.BytealgIndexByte.indexByte) (by kernel_rfl),Lib.run_indexByteString];simp only[Result.andThen];rw[Oper.upon_value];go_wp2;go_ret;exact⟨rfl,rfl⟩
theorem xJ (s:ByteArray) (c:Int) (w:World):
  Calls Tryz.prog 240 #[.string s, .int .u8 c] w fun e w'=>e= .returned (.int .i64 (Lib.indexByte s.data.toList c.toNat.toUInt8))/\w=w':=by
 go_enter Tryz.func240,Tryz.ntmps240;go_wp2_with (fail);refine(oL _ _ _).mono ?_
 rintro e w' ⟨rfl,rfl⟩;go_wp2;go_ret;exact⟨rfl,rfl⟩
def signsL:List UInt8:=(#[97,98,99,100,101,102,103,104,105,106,107,108,109,110,111,112,113,114,115,116,117,118,119,120,121,122,48,49,50,51,52,53,54,55,56,57,95]:Array UInt8).toList
theorem aAD:∀n<256,(Lib.indexByte signsL (UInt8.ofNat n)<0↔pR (UInt8.ofNat n)=false):=by decide +kernel
theorem X2 (c:UInt8):(Lib.indexByte signsL c<0↔pR c=false):=by
 have:=aAD c.toNat c.toNat_lt
 rwa [UInt8.ofNat_toNat]at this
theorem aAE (c:UInt8) (w:World):
  Calls Tryz.prog 240 #[.string {data:=#[97,98,99,100,101,102,103,104,105,106,107,108,109,110,111,112,113,114,115,116,117,118,119,120,121,122,48,49,50,51,52,53,54,55,56,57,95]}, .int .u8 (c.toNat:Int)] w fun e w'=>(∃i:Int,e= .returned (.int .i64 i)/\(i<0↔pR c=false))/\w=w':=by
 refine(xJ _ _ w).mono ?_
 rintro e w' ⟨rfl,rfl⟩;refine⟨⟨_,rfl,?_⟩,rfl⟩;have e1:((c.toNat:Int)).toNat.toUInt8=c:=by simp[Nat.toUInt8]
 rw[e1];exact X2 c
def S7 (s:ByteArray) (w:World) (e:Ending) (w':World):Prop:=(∃b,e= .returned (.bool b)/\(b=true↔aC s))/\w=w'
def sF (s:ByteArray) (k:Nat):Prop:=∀j (h:j<s.size),j<k->pR (s[j])=true
theorem sF.zero (s:ByteArray):sF s 0:=fun j h hk=>by omega
theorem sF.next {s:ByteArray} {k:Nat} (h:sF s k) (hk:k<s.size) (h1:pR s[k]=true):sF s (k+1):=fun j hj h2=>by
 by_cases e:j=k
 ·subst e;exact h1
 ·exact h j hj (by omega)
theorem sF.all {s:ByteArray} {k:Nat} (h:sF s k) (hk:¬k<s.size):s.data.toList.all pR=true:=by
 rw[List.all_eq_true];intro x hx;obtain⟨j,hj,rfl⟩:=List.getElem_of_mem hx;have hj':j<s.size:=by simpa using hj
 exact h j hj' (by omega)
theorem B8 {s:ByteArray} {k:Nat} (hk:k<s.size) (h:pR s[k]=false):(false=true↔aC s):=⟨(fun h=>by cases h),fun h2=>by
 have:=(List.all_eq_true.1 h2.1) s[k] (by
  have:s[k]∈s.data.toList:=by
   have h3:s.data.toList[k]?=some s[k]:=by
    rw[Array.getElem?_toList,Array.getElem?_eq_getElem (by simpa using hk)];rfl
   exact List.mem_of_getElem? h3
  exact this)
 rw[h]at this;cases this⟩
theorem vD {s:ByteArray} (h:¬(1<=s.size/\s.size<=24)):(false=true↔aC s):=⟨(fun h=>by cases h),fun h2=>absurd h2.2 h⟩
theorem bM (s:ByteArray) (hs:s.size<=maxLen) (w:World):Calls Tryz.prog 213 #[.string s] w (S7 s w):=by
 unfold maxLen at hs;go_enter Tryz.func213,Tryz.ntmps213;go_wp2_with (fail);go_loop [3,6] (fun _ i=>∃k:Nat,k<=s.size/\i= .int .i64 k/\Hid (sF s k)) (fun _ i=>s.size-(intOf i).toNat)
 case atStart=>exact⟨0,Nat.zero_le _,rfl,hW_ (sF.zero s)⟩
 case round=>
  obtain⟨k,hk,rfl,HS⟩:=hrel
  by_cases hlt:k<s.size
  ·go_wp2_with (fail);refine(aAE s[k] w).mono ?_
   rintro e w' ⟨⟨i,rfl,hi⟩,rfl⟩
   cases hsg:pR s[k]with
   | false=>
    have HF:=hW_ (B8 hlt hsg);have hi0:=hi.2 hsg;clear hi hsg;go_wp2_with (fail);go_ret;exact⟨⟨_,rfl,HF.out⟩,rfl⟩
   | true=>
    have HS2:=hW_ (HS.out.next hlt hsg);have hi0:¬i<0:=fun h=>by have:=hi.1 h;rw[hsg]at this;cases this
    clear hi hsg;go_wp2_with (fail);go_round
    case rel=>exact⟨k+1,by omega,by go_num,HS2⟩
    case measure=>simp[intOf];omega
  ·have HA:=hW_ (HS.out.all hlt)
   by_cases hz:s.size=0
   ·obtain⟨e1,e2,e3⟩:=lD hz;have HF:=hW_ (vD (s:=s) (by omega));go_wp2_with (fail);go_ret;exact⟨⟨_,rfl,HF.out⟩,rfl⟩
   ·obtain⟨e1,e2,e3⟩:=E2 hz
    by_cases h24:(s.size:Int)<=24
    ·have HF:Hid (aC s):=hW_ ⟨HA.out,by omega,by omega⟩;have h24':s.size<=24:=by omega
     go_wp2_with (fail);go_ret;exact⟨⟨_,rfl,(fun _=>HF.out),(fun _=>by simp<;>omega)⟩,rfl⟩
    ·have HF:=hW_ (vD (s:=s) (by omega));have h24':¬s.size<=24:=by omega
     go_wp2_with (fail);go_ret;exact⟨⟨_,rfl,by simpa[h24']using HF.out⟩,rfl⟩
theorem sG (s:ByteArray) (hs:s.size<=maxLen) (w:World):Calls Tryz.prog 140 #[.string s] w (S7 s w):=by
 unfold maxLen at hs;go_enter Tryz.func140,Tryz.ntmps140;go_wp2_with (fail);go_loop [3,4] (fun i _=>∃k:Nat,k<=s.size/\i= .int .i64 k/\Hid (sF s k)) (fun i _=>s.size-(intOf i).toNat)
 case atStart=>exact⟨0,Nat.zero_le _,rfl,hW_ (sF.zero s)⟩
 case round=>
  obtain⟨k,hk,rfl,HS⟩:=hrel
  by_cases hlt:k<s.size
  ·have hsd:pR s[k]=((decide (97<=s[k].toNat) && decide (s[k].toNat<=122)) || (decide (48<=s[k].toNat) && decide (s[k].toNat<=57)) || decide (s[k].toNat=95)):=rfl;have HSD:=hW_ hsd;have hc256:=s[k].toNat_lt;clear hsd
   by_cases r0:(s[k].toNat:Int)<48
   ·have g0:decide ((97:Int)<=(s[k].toNat:Int))=false:=by simp;omega
    have g1:decide ((s[k].toNat:Int)<=122)=true:=by simp;omega
    have g2:decide ((48:Int)<=(s[k].toNat:Int))=false:=by simp;omega
    have g3:decide ((s[k].toNat:Int)<=57)=true:=by simp;omega
    have g4:((s[k].toNat:Int)==95)=false:=by simp;omega
    have HF:=hW_ (B8 hlt (by rw[HSD.out];simp;omega));clear r0;go_wp2_with (fail);go_ret;exact⟨⟨_,rfl,HF.out⟩,rfl⟩
   by_cases r1:(s[k].toNat:Int)<=57
   ·have g0:decide ((97:Int)<=(s[k].toNat:Int))=false:=by simp;omega
    have g1:decide ((s[k].toNat:Int)<=122)=true:=by simp;omega
    have g2:decide ((48:Int)<=(s[k].toNat:Int))=true:=by simp;omega
    have g3:decide ((s[k].toNat:Int)<=57)=true:=by simp;omega
    have g4:((s[k].toNat:Int)==95)=false:=by simp;omega
    have HS2:=hW_ (HS.out.next hlt (by rw[HSD.out];simp;omega));clear r0 r1;go_wp2_with (fail);go_round
    case rel=>exact⟨k+1,by omega,by go_num,HS2⟩
    case measure=>simp[intOf];omega
   by_cases r2:(s[k].toNat:Int)<95
   ·have g0:decide ((97:Int)<=(s[k].toNat:Int))=false:=by simp;omega
    have g1:decide ((s[k].toNat:Int)<=122)=true:=by simp;omega
    have g2:decide ((48:Int)<=(s[k].toNat:Int))=true:=by simp;omega
    have g3:decide ((s[k].toNat:Int)<=57)=false:=by simp;omega
    have g4:((s[k].toNat:Int)==95)=false:=by simp;omega
    have HF:=hW_ (B8 hlt (by rw[HSD.out];simp;omega));clear r0 r1 r2;go_wp2_with (fail);go_ret;exact⟨⟨_,rfl,HF.out⟩,rfl⟩
   by_cases r3:(s[k].toNat:Int)=95
   ·have g0:decide ((97:Int)<=(s[k].toNat:Int))=false:=by simp;omega
    have g1:decide ((s[k].toNat:Int)<=122)=true:=by simp;omega
    have g2:decide ((48:Int)<=(s[k].toNat:Int))=true:=by simp;omega
    have g3:decide ((s[k].toNat:Int)<=57)=false:=by simp;omega
    have g4:((s[k].toNat:Int)==95)=true:=by simp;omega
    have HS2:=hW_ (HS.out.next hlt (by rw[HSD.out];simp;omega));clear r0 r1 r2 r3;go_wp2_with (fail);go_round
    case rel=>exact⟨k+1,by omega,by go_num,HS2⟩
    case measure=>simp[intOf];omega
   by_cases r4:(s[k].toNat:Int)<97
   ·have g0:decide ((97:Int)<=(s[k].toNat:Int))=false:=by simp;omega
    have g1:decide ((s[k].toNat:Int)<=122)=true:=by simp;omega
    have g2:decide ((48:Int)<=(s[k].toNat:Int))=true:=by simp;omega
    have g3:decide ((s[k].toNat:Int)<=57)=false:=by simp;omega
    have g4:((s[k].toNat:Int)==95)=false:=by simp;omega
    have HF:=hW_ (B8 hlt (by rw[HSD.out];simp;omega));clear r0 r1 r2 r3 r4;go_wp2_with (fail);go_ret;exact⟨⟨_,rfl,HF.out⟩,rfl⟩
   by_cases r5:(s[k].toNat:Int)<=122
   ·have g0:decide ((97:Int)<=(s[k].toNat:Int))=true:=by simp;omega
    have g1:decide ((s[k].toNat:Int)<=122)=true:=by simp;omega
    have g2:decide ((48:Int)<=(s[k].toNat:Int))=true:=by simp;omega
    have g3:decide ((s[k].toNat:Int)<=57)=false:=by simp;omega
    have g4:((s[k].toNat:Int)==95)=false:=by simp;omega
    have HS2:=hW_ (HS.out.next hlt (by rw[HSD.out];simp;omega));clear r0 r1 r2 r3 r4 r5;go_wp2_with (fail);go_round
    case rel=>exact⟨k+1,by omega,by go_num,HS2⟩
    case measure=>simp[intOf];omega
   have g0:decide ((97:Int)<=(s[k].toNat:Int))=true:=by simp;omega
   have g1:decide ((s[k].toNat:Int)<=122)=false:=by simp;omega
   have g2:decide ((48:Int)<=(s[k].toNat:Int))=true:=by simp;omega
   have g3:decide ((s[k].toNat:Int)<=57)=false:=by simp;omega
   have g4:((s[k].toNat:Int)==95)=false:=by simp;omega
   have HF:=hW_ (B8 hlt (by rw[HSD.out];simp;omega));clear r0 r1 r2 r3 r4 r5;go_wp2_with (fail);go_ret;exact⟨⟨_,rfl,HF.out⟩,rfl⟩
  ·have HA:=hW_ (HS.out.all hlt)
   by_cases hz:s.size=0
   ·have HF:=hW_ (vD (s:=s) (by omega));have hz1:decide ((1:Int)<=(s.size:Int))=false:=by simp;omega
    have hz2:¬1<=s.size:=by omega
    go_wp2_with (fail);go_ret;exact⟨⟨_,rfl,HF.out⟩,rfl⟩
   ·have hz1:decide ((1:Int)<=(s.size:Int))=true:=by simp;omega
    have hz2:1<=s.size:=by omega
    by_cases h24:(s.size:Int)<=24
    ·have HF:Hid (aC s):=hW_ ⟨HA.out,by omega,by omega⟩;have h24':s.size<=24:=by omega
     go_wp2_with (fail);go_ret;exact⟨⟨_,rfl,(fun _=>HF.out),(fun _=>by simp<;>omega)⟩,rfl⟩
    ·have HF:=hW_ (vD (s:=s) (by omega));have h24':¬s.size<=24:=by omega
     go_wp2_with (fail);go_ret;exact⟨⟨_,rfl,by simpa[h24']using HF.out⟩,rfl⟩
end Go.Proofs.YtahiballegpbgaaGreatDoor
