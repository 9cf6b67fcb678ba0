/- A loop over an iterator that hands out what it has laid in memory: the round is told what the handed values read as. Plain lemmas over any program. -/
import Derived.Test.YtahiballegpbgaaGreatDoorProg
import Derived.RangeFuncNested
import Derived.RangeFuncBound
import Derived.RangeFuncCalls
import Derived.RangeFuncLeaves
import Derived.Shelf.Abstract
import Derived.Shelf.RegionOpen
import Derived.WalkKit
import Derived.OwnWalkIn
import Derived.TacticsInMore
import Derived.LoopNIn
import Derived.LoopIn
import Derived.Test.YtahiballegpbgaaGreatDoorR6
import Derived.Test.YtahiballegpbgaaGreatDoorR17
import Derived.Test.YtahiballegpbgaaGreatDoorR18
import Derived.Test.YtahiballegpbgaaGreatDoorR1
set_option linter.unusedVariables false
set_option maxHeartbeats 1000000
set_option maxRecDepth 100000
namespace Go.Proofs.YtahiballegpbgaaGreatDoor
open Go.RowKit
def goesOn {α:Type} (B n₀:Nat) (I:List α->World->Prop) (xs:List α) (W:World):Exit->Act->World->Prop
 | .normal,_,W'=>KeepsFrom B W W'/\Below n₀ W W'/\I xs W'
 | _,_,_=>False
theorem jX {F:Fence} {n:Nat} {P:Program} {w:World} {α:Type} {g:Operand} {ps:Array Tmp} {assign body:Code} {Q:Exit->Act->World->Prop} {a:Act}
  (hro:F.round=none) (h1:1<=n) {gf:Nat} {lb:Array Value} (hg:a.eval g= .func (.func gf) #[] lb) (hFg:F.fn gf) (eg:∀args w,(callFunc gf args).run P w= .ok (.enter gf args) w)
  {encs:α->Array Value} (n₀:Nat) (hn₀:n₀<=w.heap.size) (S:List α->Prop) (Ok:List α->α->Prop) (Rx:World->α->World->Prop) (hRx:∀Wj,OwnFrom w.heap.size (Rx Wj))
  (hseq:∀(l:Nat) (J:List α->World->Prop) (W:World),Below w.heap.size w W->(∀pre A B,J pre A->Below A.heap.size A B->J pre B)->
   (∀pre x Wj W1,J pre Wj->Below Wj.heap.size Wj W1->Rx Wj x W1->Ok pre x->YieldAt F (n-1-1) P l (encs x) W1 fun e W'=>e= .returned (.bool true)/\J (pre++ [x]) W'/\Below n₀ W1 W')->
   J [] W->CallsIn F (n-1) P gf (#[.func (.yield l) #[] #[]]++lb) W fun e W'=>(∃v,e= .returned v)/\∃xs,S xs/\J xs W')
  (hps:∀x,(encs x).size=ps.size)
  (I:List α->World->Prop) (hI:OwnFrom w.heap.size I) (hIB:∀pre A B,I pre A->Below A.heap.size A B->I pre B) (h0:I [] w) (a₁:α->Act)
  (hassign:∀(l:Nat) (x:α) (W:World) (K:Act->World->Prop),K (a₁ x) W->
   assign.wpIn (F.inRound l) (n-1-1) P (Exit.then K (fun _ _ _=>False)) {tmps:=(ps.zip (encs x)).foldl (fun t (p,v)=>t.setIfInBounds p v) a.tmps,defers:=[]} W)
  (hbody:∀(l:Nat) (pre:List α) (x:α) (Wj W:World),I pre Wj->(∀(q:Nat) (o:Obj),Wj.heap[q]?=some o->o.isCells=true->W.heap[q]?=some o)->Wj.heap.size<=W.heap.size->I pre W->Rx Wj x W->Ok pre x->body.wpIn (F.inRound l) (n-1-1) P (goesOn w.heap.size n₀ I (pre++ [x]) W) (a₁ x) W)
  (hdone:∀(D:Nat) (xs:List α) (W:World),w.heap.size<=D->S xs->I xs W->W.heap[D]?=some (.deferred (some []))->Q .normal {a with defers:={target:= .collected D,args:=#[]}::a.defers} W):
  (Code.rangeFunc g ps assign body).wpIn F n P Q a w:=by
 refine wpIn_rangeFunc fun fn hfn=> ?_
 rw[hro];obtain⟨rec,hrec⟩:∃rec:LoopState->Option Code->Loop,rec=fun st pe=>{state:=st,pending:=pe,fn,tmps:=a.tmps,params:=ps,assign,body,defers:=w.heap.size}:=⟨_,rfl⟩
 obtain⟨W1,hW1⟩:∃W1,(w.alloc (.deferred (some []))).alloc (.loop (rec .ready none))=W1:=⟨_,rfl⟩;have hs1:W1.heap.size=w.heap.size+2:=by rw[<-hW1];simp
 have hL1:W1.heap[w.heap.size+1]?=some (.loop (rec .ready none)):=by
  have:=World.alloc_heap_new (w.alloc (.deferred (some []))) (.loop (rec .ready none));rw[hW1,World.size_alloc]at this;exact this
 have hK1:W1.heap[w.heap.size]?=some (.deferred (some [])):=by
  rw[<-hW1];exact(Below.heap_alloc _ _ _ (by simp)).trans (World.alloc_heap_new w _)
 have hI1:I [] W1:=hW1▸hI.alloc _ (hI.alloc _ h0);have hb1:Below w.heap.size w W1:=by
  rw[<-hW1];exact((Below.refl _ w).alloc (Nat.le_refl _) _).alloc (by simp) _
 refine⟨w.heap.size+1,[{target:= .collected w.heap.size,args:=#[]}],W1,{target:= .fn (.func gf) lb,args:=#[.func (.yield (w.heap.size+1)) #[] #[]]},W1,gf,
  #[.func (.yield (w.heap.size+1)) #[] #[]]++lb,W1,?_,?_,?_,?_,fun _=>h1,?_⟩
 ·rw[<-hW1,hrec];exact run_enterLoop_outer _ _ _ _ _
 ·simp only[resolve,hg];simp[go_sem]
 ·intro f' hf';simp[Target.leads]at hf';exact hf'▸hFg
 ·simp[invoke,go_sem,eg]
 refine(hseq (w.heap.size+1) (fun pre W=>I pre W/\W.heap[w.heap.size+1]?=some (.loop (rec .ready none))/\W.heap[w.heap.size]?=some (.deferred (some []))) W1 hb1
  (fun s A B hs hb=>⟨hIB s A B hs.1 hb,(hb.block _ (Array.getElem?_eq_some_iff.1 hs.2.1).1).trans hs.2.1,(hb.block _ (Array.getElem?_eq_some_iff.1 hs.2.2).1).trans hs.2.2⟩)
  ?_ ⟨hI1,hL1,hK1⟩).mono ?_
 ·
  rintro pre x Wj W ⟨hij,hlj,hkj⟩ hbj hrx hok;have hi:=hIB _ _ _ hij hbj;have hl:=(hbj.block _ (Array.getElem?_eq_some_iff.1 hlj).1).trans hlj;have hk:=(hbj.block _ (Array.getElem?_eq_some_iff.1 hkj).1).trans hkj;have hlt:w.heap.size+1<W.heap.size:=(Array.getElem?_eq_some_iff.1 hl).1;have hy:=run_yield (P:=P) (args:=encs x) hl (by rw[hrec];exact hps x);rw[hrec]at hy;refine⟨fn,_,assign,body,hy,roundIn_of_wpIn hfn (hassign _ x W _ ?_)⟩;refine⟨_,run_beginRound hl (by rw[hrec]),?_⟩;obtain⟨W2,hW2⟩:∃W2,W.putObj (w.heap.size+1) (.loop {rec .ready none with state:= .busy})=W2:=⟨_,rfl⟩;have hl2:W2.heap[w.heap.size+1]?=some (.loop {rec .ready none with state:= .busy}):=hW2▸World.putObj_heap_same hlt
  have hk2:W2.heap[w.heap.size]?=some (.deferred (some [])):=hW2▸(World.putObj_heap_other (by omega)).trans hk
  have hw2:Below n₀ W W2:=hW2▸belowK_b hn₀ W _ _ _ (by omega) hl rfl rfl;have hi2:I pre W2:=hW2▸hI.putObj _ hi (by omega) hl rfl;have hr2:Rx Wj x W2:=hW2▸(hRx Wj).putObj _ hrx (by omega) hl rfl;have hcel:∀(q:Nat) (o:Obj),Wj.heap[q]?=some o->o.isCells=true->W2.heap[q]?=some o:=fun q o ho hc=>by
   have h1:=(hbj.block q (Array.getElem?_eq_some_iff.1 ho).1).trans ho;rw[<-hW2];refine(World.putObj_heap_other (fun e=> ?_)).trans h1;rw[e,hl]at h1
   cases h1
   cases hc
  rw[hW2];refine wpIn_mono (hbody _ pre x Wj W2 hij hcel (by have:=hbj.size;rw[<-hW2];simpa using this) hi2 hr2 hok) ?_
  rintro e a3 W3 hp
  cases e with
  | normal=>
   obtain⟨hk3,hkp3,hi3⟩:=hp;have hl3:=hk3.same _ _ (by omega) hl2 rfl;have hk4:=hk3.same _ _ (Nat.le_refl _) hk2 rfl;have hr:=run_endRound (P:=P) none hl3;rw[hrec]at hr;have hl4:(W3.putObj (w.heap.size+1) (.loop (rec .ready none))).heap[w.heap.size+1]?=some (.loop (rec .ready none)):=World.putObj_heap_same (Array.getElem?_eq_some_iff.1 hl3).1
   rw[hrec]at hl4;refine⟨_,_,hr,rfl,⟨hI.putObj _ hi3 (by omega) hl3 rfl,?_,(World.putObj_heap_other (by omega)).trans hk4⟩,?_⟩
   ·rw[hrec];exact hl4
   ·exact hw2.trans (hkp3.trans (belowK_b hn₀ W3 _ _ _ (by omega) hl3 rfl rfl))
  | ret=>exact hp.elim
  | exit id=>exact hp.elim
  | goto t=>exact hp.elim
  | panic ch=>exact hp.elim
  | outgrown=>exact hp.elim
 ·
  rintro e W2 ⟨⟨v,rfl⟩,xs,hS,hi,hl,hk⟩;have hr:=run_endLoop (P:=P) hl (by rw[hrec];simp);rw[hrec]at hr;exact⟨none,_,hr,hdone _ xs _ (Nat.le_refl _) hS (hI.putObj _ hi (by omega) hl rfl) ((World.putObj_heap_other (by omega)).trans hk)⟩
open Go
def begins (a b:List Int):Bool:=b.isPrefixOf a
theorem mP {α:Type} {p:α->Bool}:∀{l:List α},l.Pairwise (fun a b=>p b=true->p a=true)->l.take (l.countP p)=l.filter p/\l.drop (l.countP p)=l.filter (fun x=>!p x)
 | [],_=>by simp
 | x::l,h=>by
  rw[List.pairwise_cons]at h
  cases hx:p x with
  | true=>
   have ih:=mP h.2;simp[hx,ih.1,ih.2]
  | false=>
   have h0:l.filter p= []:=by
    rw[List.filter_eq_nil_iff];intro y hy hpy;have:=h.1 y hy hpy;rw[hx]at this;cases this
   have h1:l.countP p=0:=by rw[List.countP_eq_length_filter,h0];rfl
   have h2:l.filter (fun x=>!p x)=l:=by
    rw[List.filter_eq_self];intro y hy
    cases hpy:p y with
    | false=>rfl
    | true=>have:=h.1 y hy hpy;rw[hx]at this;cases this
   simp[hx,h1,h0,h2]
def qF (t:List Rg) (p:Int):Nat:=t.countP (fun r=>decide (r.hi<p))
theorem aCB (t:List Rg) (p:Int):qF t p<=t.length:=List.countP_le_length
theorem bO {t:List Rg} (ht:oA t) (p:Int) {i:Nat} (hi:i<t.length):(rg t i).hi<p↔i<qF t p:=by
 have hs:t.Pairwise (fun a b=>decide (b.hi<p)=true->decide (a.hi<p)=true):=by
  refine List.Pairwise.imp_of_mem (fun{a b} ha hb h=> ?_) ht.2.2;have h1:=(ht.2.1 b hb).2.1;simp only[decide_eq_true_eq];omega
 have h1:=mP hs;constructor
 ·intro hlt;rcases Nat.lt_or_ge i (qF t p)with h2 | h2
  ·exact h2
  ·exfalso;have:rg t i∈t.drop (qF t p):=List.mem_of_getElem? (i:=i-qF t p) (by rw[List.getElem?_drop,show qF t p+(i-qF t p)=i by omega];exact rH hi);unfold qF at this;rw[h1.2,List.mem_filter]at this;have:=this.2;simp only[Bool.not_eq_true']at this;exact of_decide_eq_false this hlt
 ·intro hlt;have:rg t i∈t.take (qF t p):=List.mem_of_getElem? (i:=i) (by rw[List.getElem?_take,if_pos hlt];exact rH hi);unfold qF at this;rw[h1.1,List.mem_filter]at this;exact of_decide_eq_true this.2
theorem aEh {t:List Rg} (ht:oA t) {p:Int} (h:qF t p<t.length) (hl:(rg t (qF t p)).lo<=p):wH t p=(rg t (qF t p)).cls:=by
 have hh:p<=(rg t (qF t p)).hi:=by
  have:=bO ht p h;omega
 have:t.find? (fun r=>decide (r.lo<=p) && decide (p<=r.hi))=some (rg t (qF t p)):=by
  rw[List.find?_eq_some_iff_getElem];refine⟨by simp[hl,hh],qF t p,h,eI h,fun j hj=> ?_⟩;rw[eI (by omega)];have:=(bO ht p (by omega:j<t.length)).2 hj;simp;omega
 unfold wH;rw[this]
theorem clsOf_no {t:List Rg} (ht:oA t) {p:Int} (h:¬(qF t p<t.length/\(rg t (qF t p)).lo<=p)):wH t p=0:=by
 have:t.find? (fun r=>decide (r.lo<=p) && decide (p<=r.hi))=none:=by
  rw[List.find?_eq_none];intro r hr;obtain⟨i,hi,rfl⟩:=List.getElem_of_mem hr;rw[eI hi];have h1:=bO ht p hi;simp only[Bool.and_eq_true,decide_eq_true_eq];rintro⟨h2,h3⟩;rcases Nat.lt_or_ge i (qF t p)with h4 | h4
  ·have:=h1.2 h4;omega
  ·rcases Nat.eq_or_lt_of_le h4 with h5 | h5
   ·rw[h5]at h;exact h ⟨hi,h2⟩
   ·have h6:=(List.pairwise_iff_getElem.1 ht.2.2) (qF t p) i (by omega) hi h5;rw[eI (by omega),eI hi]at h6;have h7:=(ht.2.1 _ (List.mem_of_getElem? (rH (show qF t p<t.length by omega)))).2.1;exact h ⟨by omega,by omega⟩
 unfold wH;rw[this]
theorem cmpI_neg {a b:Int}:I3 a b<0↔a<b:=by
 unfold I3;repeat' split
 all_goals omega
theorem cmpI_eq0 {a b:Int}:I3 a b=0↔a=b:=by
 unfold I3;repeat' split
 all_goals omega
theorem P4 (p:Rg) (q:Int) (w:World):
  Calls Tryz.prog 256 #[.agg #[.int .i64 p.lo, .int .i64 p.hi, .int .i64 p.cls], .int .i64 q] w fun e w'=>e= .returned (.int .i64 (I3 p.hi q))/\Below w.heap.size w w':=by
 have HB:=hW_ (aA w (.cells #[.int .i64 p.lo, .int .i64 p.hi, .int .i64 p.cls] 125));have hcmp:=E7 p.hi q (w.alloc (.cells #[.int .i64 p.lo, .int .i64 p.hi, .int .i64 p.cls] 125));go_enter Tryz.func256,Tryz.ntmps256;go_wp2_with (fail);refine hcmp.mono ?_
 rintro e w' ⟨rfl,rfl⟩;clear hcmp;go_wp2;go_ret;exact⟨rfl,HB.out⟩
theorem aBz {P:List Rg} {q:Int} {ro:Option Addr} {rc:Nat} (w:World) (hr:SlF 3 w ro P.length rc (flat Rg.enc P)) (hN:P.length<=1048576)
  {k0:Nat} (hk:k0<=P.length) (hk2:∀t,t<P.length->((rg P t).hi<q↔t<k0)) {bb:Bool} (hbb:bb=true↔(k0<P.length/\(rg P k0).hi=q)):
  Calls Tryz.prog 255 #[.slice ro P.length rc, .int .i64 q, .func (.func 256) #[] #[]] w fun e w'=>e= .returned (.tuple #[.int .i64 (k0:Int), .bool bb])/\Below w.heap.size w w':=by
 have HR:=hW_ hr;have HK:=hW_ hk;have HK2:=hW_ hk2;have HBB:=hW_ hbb;obtain⟨N,hNN⟩:∃N,P.length=N:=⟨_,rfl⟩;rw[hNN]at HR HK hN |-;have HNN:=hW_ hNN;clear hr hk hk2 hbb hNN;go_enter Tryz.func255,Tryz.ntmps255;go_wp2_with (fail);go_loopw [9,10] (fun a b wr=>∃lo hi:Nat,a= .int .i64 lo/\b= .int .i64 hi/\Hid (lo<=k0)/\Hid (k0<=hi)/\lo<=hi/\hi<=N/\Below w.heap.size w wr) (fun a b _=>(intOf b).toNat-(intOf a).toNat)
 case atStart=>exact⟨0,N,rfl,rfl,hW_ (by omega),HK,by omega,by omega,Below.refl _ _⟩
 case round=>
  obtain⟨lo,hi,rfl,rfl,Hlo,Hhi,hlh,hhn,hb⟩:=hrel;have HB:=hW_ hb;clear hb
  by_cases hlt:lo<hi
  ·obtain⟨m,hm⟩:∃m,(lo+hi) / 2=m:=⟨_,rfl⟩;have hmN:m<P.length:=by have:=HNN.out;omega
   obtain⟨b,of,hao,hce⟩:=(HR.out.below HB.out).elem Rg.enc_len (by omega) (rH hmN);subst hao;obtain⟨p,hp⟩:∃p,rg P m=p:=⟨_,rfl⟩;rw[hp]at hce;have hcall:=P4 p q wr;have d0:=hce 0 _ rfl;have d1:=hce 1 _ rfl;have d2:=hce 2 _ rfl;rw[Nat.add_zero]at d0;have hlm:(p.hi<q↔m<k0):=by rw[<-hp];exact HK2.out m hmN
   have hmi:((lo:Int)+(hi:Int)) / 2=(m:Int):=by omega
   have hml:lo<=m:=by omega
   have hmh:m<hi:=by omega
   have gm:(m:Int)<(N:Int):=by omega
   clear hm hce hp hmN;obtain⟨z,hz⟩:∃z,I3 p.hi q=z:=⟨_,rfl⟩;have hzl:z<0↔m<k0:=by rw[<-hz,cmpI_neg];exact hlm
   rw[hz]at hcall;clear hlm hz
   by_cases hz0:z<0
   ·have HKM:=hW_ (show m+1<=k0 by have:=hzl.1 hz0;omega);clear hzl;go_wp2_with (go_at_call 256;refine hcall.mono ?_;rintro e w' ⟨rfl,hbx⟩);go_roundw
    case rel=>exact⟨m+1,hi,by first | go_num | (rw[hmi];rfl),rfl,HKM,Hhi,by omega,hhn,HB.out.trans (hbx.mono HB.out.size)⟩
    case measure=>simp[intOf];omega
   ·have HKM:=hW_ (show k0<=m by rcases Nat.lt_or_ge m k0 with h | h;exact absurd (hzl.2 h) hz0;exact h);clear hzl;go_wp2_with (go_at_call 256;refine hcall.mono ?_;rintro e w' ⟨rfl,hbx⟩);go_roundw
    case rel=>exact⟨lo,m,rfl,by first | rfl | rw[hmi],Hlo,HKM,hml,by omega,HB.out.trans (hbx.mono HB.out.size)⟩
    case measure=>simp[intOf];omega
  ·have hE:lo=k0:=by have:=Hlo.out;have:=Hhi.out;omega
   subst hE
   by_cases hn:lo<N
   ·have hmN:lo<P.length:=by have:=HNN.out;omega
    obtain⟨b,of,hao,hce⟩:=(HR.out.below HB.out).elem Rg.enc_len (by omega) (rH hmN);subst hao;obtain⟨p,hp⟩:∃p,rg P lo=p:=⟨_,rfl⟩;rw[hp]at hce HBB;have hcall:=P4 p q wr;have d0:=hce 0 _ rfl;have d1:=hce 1 _ rfl;have d2:=hce 2 _ rfl;rw[Nat.add_zero]at d0;have gm:(lo:Int)<(N:Int):=by omega
    have HMN:=hW_ hmN;clear hce hp hmN;obtain⟨z,hz⟩:∃z,I3 p.hi q=z:=⟨_,rfl⟩;have hzl:z=0↔p.hi=q:=by rw[<-hz,cmpI_eq0]
    rw[hz]at hcall;clear hz
    by_cases hz0:z=0
    ·obtain rfl:bb=true:=HBB.out.2 ⟨HMN.out,hzl.1 hz0⟩;have hb2:(z==0)=true:=by simpa using hz0
     clear hzl hz0;go_wp2_with (go_at_call 256;refine hcall.mono ?_;rintro e w' ⟨rfl,hbx⟩);refine bodyPost_ret (v:= .tuple #[.int .i64 lo, .bool true]) ?_ rfl ⟨rfl,HB.out.trans (hbx.mono HB.out.size)⟩
     simp[results,Tryz.results255,go_sem]
    ·obtain rfl:bb=false:=by
      cases bb with
      | false=>rfl
      | true=>exact absurd (hzl.2 (HBB.out.1 rfl).2) hz0
     have hb2:(z==0)=false:=by simpa using hz0
     clear hzl hz0;go_wp2_with (go_at_call 256;refine hcall.mono ?_;rintro e w' ⟨rfl,hbx⟩);refine bodyPost_ret (v:= .tuple #[.int .i64 lo, .bool false]) ?_ rfl ⟨rfl,HB.out.trans (hbx.mono HB.out.size)⟩
     simp[results,Tryz.results255,go_sem]
   ·obtain rfl:bb=false:=by
     cases bb with
     | false=>rfl
     | true=>exact absurd (HBB.out.1 rfl).1 (by have:=HNN.out;omega)
    go_wp2_with (fail);refine bodyPost_ret (v:= .tuple #[.int .i64 lo, .bool false]) ?_ rfl ⟨rfl,HB.out⟩
    simp[results,Tryz.results255,go_sem]
theorem aU {t:List Rg} {p:Int} {to_:Option Addr} {tn tc:Nat} (w:World) (hR:SlF 3 w to_ tn tc (flat Rg.enc t)) (ht:oA t):
  Calls Tryz.prog 252 #[.slice to_ tn tc, .int .i64 p] w fun e w'=>e= .returned (.int .i64 (wH t p))/\Below w.heap.size w w':=by
 have hln:t.length=tn:=hR.count Rg.enc_len (by omega);subst hln;have h200:=ht.1;have hm:=E8 w hR;have HR:=hW_ hR;have HT:=hW_ ht;obtain⟨bb,hbb⟩:∃bb:Bool,bb=true↔(qF t p<t.length/\(rg t (qF t p)).hi=p):=⟨decide (qF t p<t.length/\(rg t (qF t p)).hi=p),by simp⟩;have HBB:=hW_ hbb;have HQ:Hid (∀W,Below w.heap.size w W->Calls Tryz.prog 255 #[.slice to_ t.length tc, .int .i64 p, .func (.func 256) #[] #[]] W fun e w'=>e= .returned (.tuple #[.int .i64 (qF t p:Int), .bool bb])/\Below W.heap.size W w'):=
  hW_ (fun W hb=>aBz W (HR.out.below hb) (by omega) (aCB t p) (fun i hi=>bO HT.out p hi) HBB.out)
 obtain⟨k0,hk0⟩:∃k0,qF t p=k0:=⟨_,rfl⟩;have HYES:=hW_ (aEh ht (p:=p));have HNO:=hW_ (clsOf_no ht (p:=p));have HLE:=hW_ (aCB t p);rw[hk0]at HQ HYES HNO HLE;obtain⟨N,hNN⟩:∃N,t.length=N:=⟨_,rfl⟩;have HNN:=hW_ hNN;rw[hNN]at HQ HYES HNO HLE hm h200 |-;obtain⟨c,hc⟩:∃c,wH t p=c:=⟨_,rfl⟩;rw[hc]at HYES HNO |-;clear hR ht hbb hk0 hNN hc;go_enter Tryz.func252,Tryz.ntmps252;go_wp2_with (fail);refine hm.mono ?_
 rintro e w1 ⟨⟨b,rfl,hb⟩,hb1⟩;obtain rfl:b=true:=hb.2 HT.out;have HB1:=hW_ hb1;clear hb hb1 hm;go_wp2_with (fail);refine(HQ.out w1 HB1.out).mono ?_
 rintro e w2 ⟨rfl,hb2⟩;have HB2:=hW_ (HB1.out.trans (hb2.mono HB1.out.size));clear hb2
 by_cases hlt:k0<N
 ·have gk:(k0:Int)<(N:Int):=by omega
  have ge:((k0:Int)==(N:Int))=false:=by simp;omega
  obtain⟨b,of,hao,hce⟩:=(HR.out.below HB2.out).elem Rg.enc_len (by omega) (rH (show k0<t.length by have:=HNN.out;omega));subst hao;have d0:=hce 0 _ rfl;have d2:=hce 2 _ rfl;rw[Nat.add_zero]at d0;obtain⟨x,hx⟩:∃x,rg t k0=x:=⟨_,rfl⟩;rw[hx]at d0 d2 HYES HNO;clear hx hce
  by_cases hl:p<x.lo
  ·have hc:=HNO.out (by omega);subst hc;go_wp2_with (fail);go_ret;exact⟨rfl,HB2.out⟩
  ·have hc:=HYES.out hlt (by omega);subst hc;go_wp2_with (fail);go_ret;exact⟨rfl,HB2.out⟩
 ·have hE:k0=N:=by have:=HLE.out;omega
  subst hE;have hc:=HNO.out (by omega);subst hc;go_wp2_with (fail);go_ret;exact⟨rfl,HB2.out⟩
end Go.Proofs.YtahiballegpbgaaGreatDoor
