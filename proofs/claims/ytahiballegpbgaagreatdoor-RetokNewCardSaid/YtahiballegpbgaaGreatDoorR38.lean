/- Walks: slices.IndexFunc and DeleteFunc at steps, at ints. (Printed by gDel.py.) -/
import Derived.Test.YtahiballegpbgaaGreatDoorR37
set_option linter.unusedVariables false
set_option maxHeartbeats 2000000
set_option maxRecDepth 100000
namespace Go.Proofs.YtahiballegpbgaaGreatDoor
open Go.RowKit
theorem infoStp:(Tryz.prog.info? 111).map (fun i=>(i.zero,i.size,i.bytes))=some (some (.agg #[.int .i64 0, .int .i64 0, .int .i64 0]),3,24):=by kernel_rfl
def S4 {α:Type} (enc:α->Value) (S:List α) (g:Nat) (lb:Array Value) (p:α->Bool) (W:World):Prop:=
 ∀x∈S,Calls Tryz.prog g (#[enc x]++lb) W fun E w'=>E= .returned (.bool (p x))/\Below W.heap.size W w'
def stV (s:Stp):Value:= .agg #[.int .i64 s.fin, .int .i64 s.toks, .int .i64 s.need]
def bP (x:Int):List Value:=[.int .i64 x]
theorem uK:∀x,(bP x).length=1:=fun _=>rfl
theorem eL (A:List Int):flat bP A=A.map (.int .i64):=by
 induction A with
 | nil=>rfl
 | cons a A ih=>rw[xD,ih];rfl
theorem Own.flatI {w:World} {base:Nat} {v:Value} {A:List Int} (h:Own w base v A):iA bP 1 3 w base v A:=by
 unfold iA;rw[eL];exact h
theorem iA.ints {w:World} {base:Nat} {v:Value} {A:List Int} (h:iA bP 1 3 w base v A):Own w base v A:=by
 unfold iA at h;rw[eL]at h;exact h
section
variable {α:Type} {S:List α} {p:α->Bool}
theorem fi_hit {k:Nat} {x:α} (hx:S[k]?=some x) (hp:p x=true) (hn:∀j y,S[j]?=some y->j<k->p y=false):S.findIdx? p=some k:=by
 rw[List.findIdx?_eq_some_iff_getElem];obtain⟨hl,e⟩:=List.getElem?_eq_some_iff.1 hx;exact⟨hl,by rw[e];exact hp,fun j hj=>by rw[hn j _ (List.getElem?_eq_getElem (by omega)) hj];simp⟩
theorem aCy {n:Nat} (hn:∀j y,S[j]?=some y->j<n->p y=false) (h:S.length<=n):S.findIdx? p=none:=by
 rw[List.findIdx?_eq_none_iff];intro x hx;obtain⟨j,hj,rfl⟩:=List.getElem_of_mem hx;rw[hn j _ (List.getElem?_eq_getElem hj) (by omega)]
theorem fL {k:Nat} {x:α} (hx:S[k]?=some x):(S.take (k+1)).filter (fun x=>!p x)=(S.take k).filter (fun x=>!p x)++(if p x=true then []else [x]):=by
 obtain⟨hl,e⟩:=List.getElem?_eq_some_iff.1 hx;rw[List.take_succ_eq_append_getElem hl,e,List.filter_append];congr 1
 cases h:p x<;>simp[h]
theorem gS {k:Nat} (hn:∀j y,S[j]?=some y->j<k->p y=false) (hk:k<=S.length):(S.take k).filter (fun x=>!p x)=S.take k:=by
 rw[List.filter_eq_self];intro y hy;obtain⟨j,hj,rfl⟩:=List.getElem_of_mem hy;rw[List.length_take]at hj;rw[List.getElem_take,hn j _ (List.getElem?_eq_getElem (by omega)) (by omega)];rfl
theorem iS (hn:S.findIdx? p=none):S.filter (fun x=>!p x)=S:=by
 rw[List.filter_eq_self];intro y hy;rw[List.findIdx?_eq_none_iff]at hn;rw[hn y hy];rfl
end
theorem lY {e:TypeId} {w:World} {base b n c s k:Nat} {xs:List Value} (h:w.ownsRow base e s (.slice (some ⟨b,0,none⟩) n c) k xs):∀o,w.frozen? ⟨b,o,none⟩=false:=by
 obtain⟨h1,h2⟩:=h;rcases h2 with⟨h3,_⟩ | ⟨g,cap,cu,hv,hg,hh,_⟩
 ·cases h3
 ·simp only[Value.slice.injEq,Option.some.injEq,Addr.mk.injEq,and_true]at hv;obtain⟨rfl,_⟩:=hv;intro o;simp[World.frozen?,hh]
theorem aDS {L:List Stp} {i:Nat} (hi:i<L.length) (x:Stp):(((flat Stp.enc L).set (i*3) (.int .i64 x.fin)).set (i*3+1) (.int .i64 x.toks)).set (i*3+2) (.int .i64 x.need)=flat Stp.enc (L.set i x):=by
 apply List.ext_getElem?;intro k;have hl:=lB Stp.enc_len L;obtain⟨q,r,hr,rfl⟩:∃q r,r<3/\k=q*3+r:=⟨k / 3,k % 3,Nat.mod_lt _ (by omega),by omega⟩
 by_cases hq:q<L.length
 ·have hx:(L.set i x)[q]?=some (if i=q then x else L[q]):=by
   rw[List.getElem?_set];split
   ·rename_i h;subst h;simp
   ·simp[hq]
  rw[yD Stp.enc_len hx hr];have hL:L[q]?=some L[q]:=by simp[hq]
  have h2:=yD Stp.enc_len hL hr;simp only[List.getElem?_set,List.length_set]
  by_cases e:i=q
  ·subst e;rw[if_pos rfl];rcases(by omega:r=0\/r=1\/r=2)with rfl | rfl | rfl<;>simp[Stp.enc]<;>omega
  ·rw[if_neg (by omega),if_neg (by omega),if_neg (by omega),if_neg e];exact h2
 ·rw[List.getElem?_eq_none (by simp only[List.length_set];omega),List.getElem?_eq_none (by rw[lB Stp.enc_len];simp only[List.length_set];omega)]
theorem stp_put {e:TypeId} {w:World} {base b n c:Nat} {L:List Stp} (h:iA Stp.enc 3 e w base (.slice (some ⟨b,0,none⟩) n c) L) {i:Nat} (hi:i<L.length) (x:Stp):
  iA Stp.enc 3 e (((w.setCell ⟨b,i*3,none⟩ (.int .i64 x.fin)).setCell ⟨b,i*3+1,none⟩ (.int .i64 x.toks)).setCell ⟨b,i*3+2,none⟩ (.int .i64 x.need)) base (.slice (some ⟨b,0,none⟩) n c) (L.set i x):=by
 obtain⟨ao,cap,e0,_⟩:=h.sl;obtain⟨_,hn,_⟩:=Value.slice.inj e0;have h0:w.ownsRow base e 3 (.slice (some ⟨b,0,none⟩) n c) n (flat Stp.enc L):=by have:=h;unfold iA at this;rw[<-hn]at this;exact this
 obtain⟨h1,g1⟩:=World.ownsRow.stored h0 (i*3) (.int .i64 x.fin);obtain⟨h2,g2⟩:=World.ownsRow.stored h1 (i*3+1) (.int .i64 x.toks);obtain⟨h3,g3⟩:=World.ownsRow.stored h2 (i*3+2) (.int .i64 x.need);rw[aDS hi x]at h3;unfold iA;rw[List.length_set,<-hn];exact h3
structure kO {α:Type} (S:List α) (p:α->Bool) (i j:Nat) (R:List α):Prop where
 len:R.length=S.length
 lt:i<j
 le:j<=S.length
 kept:R.take i=(S.take j).filter (fun x=>!p x)
 rest:R.drop j=S.drop j
theorem kO.skip {α:Type} {S:List α} {p:α->Bool} {i j:Nat} {R:List α} {x:α} (h:kO S p i j R) (hx:S[j]?=some x) (hp:p x=true):kO S p i (j+1) R:=by
 obtain⟨hl,e⟩:=List.getElem?_eq_some_iff.1 hx;have h1:=h.lt;refine⟨h.len,by omega,by omega,by rw[fL hx,if_pos hp,List.append_nil];exact h.kept,?_⟩;have:=congrArg (List.drop 1) h.rest
 rwa [List.drop_drop,List.drop_drop]at this
theorem kO.keep {α:Type} {S:List α} {p:α->Bool} {i j:Nat} {R:List α} {x:α} (h:kO S p i j R) (hx:S[j]?=some x) (hp:p x=false):kO S p (i+1) (j+1) (R.set i x):=by
 obtain⟨hl,e⟩:=List.getElem?_eq_some_iff.1 hx;have h1:=h.lt;have h2:=h.len;refine⟨by rw[List.length_set];exact h.len,by omega,by omega,?_,?_⟩
 ·rw[fL hx,if_neg (by rw[hp];simp),<-h.kept,List.take_succ_eq_append_getElem (by rw[List.length_set];omega),List.getElem_set_self,List.take_set_of_le (Nat.le_refl _)]
 ·rw[List.drop_set_of_lt (by omega)];have:=congrArg (List.drop 1) h.rest
  rwa [List.drop_drop,List.drop_drop]at this
theorem kO.at_ {α:Type} {S:List α} {p:α->Bool} {i j:Nat} {R:List α} (h:kO S p i j R):R[j]?=S[j]? :=by
 have:=congrArg (fun l=>l[0]?) h.rest;simpa using this
theorem sI {P:Program} {w:World} {ops:Array Oper} {rest:List Oper} {o:Oper} {a:Act} {Q:Exit->Act->World->Prop} (hgd:o.guard= .none) (x:Operand) (t elem:TypeId)
  (ho:o.op= .call {callee:= .builtin .clear,args:=#[x],argTypes:=#[t]}) (hu:P.underlying t=some (.slice elem)) {z:Value} {s:Nat} (hz:∀w,(zeroValue elem).run P w= .ok z w) (hzs:z.cells.size=s) (hz1:∀v∈z.cells,v.oneCell'=true)
  {g off n c:Nat} (hx:a.eval x= .slice (some ⟨g,off,none⟩) n c) {cur:Array Value} {t':TypeId} (hg:w.heap[g]?=some (.cells cur t' (0,0))) (hfit:off+n*s<=cur.size)
  (h:∀(w':World) (cur':Array Value),w'.heap[g]?=some (.cells cur' t' (0,0))->cur'.size=cur.size->cur'.toList.take off=cur.toList.take off->w'.os=w.os->w'.tape=w.tape->w'.output=w.output->w'.heap.size=w.heap.size->(∀q,q≠g->w'.heap[q]?=w.heap[q]?)->
   wpList P ops Q rest (a.put o.dst (.tuple #[])) w'):wpList P ops Q (o::rest) a w:=by
 by_cases h0:n=0
 ·subst h0;refine mE hgd (v:= .tuple #[]) (w':=w) ?_ (h w cur hg rfl rfl rfl rfl rfl rfl (fun _ _=>rfl))
  simp[execOp,ho,resolve,invoke,builtin,hx,Builtin.clear_,run_underlying hu,Result.andThen]
 ·obtain⟨vs,hvs⟩:∃vs,(Builtin.zeroCells z.cells n).toList=vs:=⟨_,rfl⟩;have hl:vs.length=n*s:=by rw[<-hvs,<-hzs];simp[Builtin.zeroCells]
  have h1:∀v∈vs,v.oneCell'=true:=by
   intro v hv;rw[<-hvs]at hv;simp only[Builtin.zeroCells,Array.toList_map,List.mem_map]at hv;obtain⟨i,hi,rfl⟩:=hv;have hi':i<n*z.cells.size:=by simpa using hi
   have hs0:0<z.cells.size:=by
    rcases Nat.eq_zero_or_pos z.cells.size with e | e
    ·rw[e,Nat.mul_zero]at hi';omega
    ·exact e
   have:=Nat.mod_lt i hs0;rw[getElem!_pos z.cells (i % z.cells.size) this];exact hz1 _ (Array.getElem_mem this)
  have hst:=run_storeCells_at P g off t' vs 0 cur w hg (by rw[hl];simpa using hfit) h1;obtain⟨m,rfl⟩:∃m,n=m+1:=⟨n-1,by omega⟩;obtain⟨nc,hnc⟩:∃nc,(cur.toList.take (off+0)++vs++cur.toList.drop (off+0+vs.length)).toArray=nc:=⟨_,rfl⟩;rw[hnc]at hst;have hs1:nc.size=cur.size:=by rw[<-hnc];simp;omega
  have ht1:nc.toList.take off=cur.toList.take off:=by
   rw[<-hnc,List.append_assoc,List.take_left']
   ·rw[Nat.add_zero]
   ·simp;omega
  refine mE hgd (v:= .tuple #[]) (w':=w.setRow g nc) ?_ (h _ _ (setRow_heap w g cur nc t' (0,0) hg) hs1 ht1 rfl rfl rfl (by simp[World.setRow]) (fun q hq=>setRow_other w g q nc hq))
  simp[execOp,ho,resolve,invoke,builtin,hx,Builtin.clear_,run_underlying hu,hz,hvs,hst,Result.andThen]
theorem iA.first {α:Type} {enc:α->List Value} {s:Nat} (hs:∀x,(enc x).length=s) {e:TypeId} {w:World} {base b n c k:Nat} {R:List α} (h:iA enc s e w base (.slice (some ⟨b,0,none⟩) n c) R) {w':World} {cur cur':Array Value} {t:TypeId}
  (h0:w.heap[b]?=some (.cells cur t (0,0))) (h1:w'.heap[b]?=some (.cells cur' t (0,0))) (hsz:cur'.size=cur.size) (ht:cur'.toList.take (k*s)=cur.toList.take (k*s)) (hk:k<=R.length):iA enc s e w' base (.slice (some ⟨b,0,none⟩) k c) (R.take k):=by
 obtain⟨h2,h3⟩:=h;rcases h3 with⟨h3,_⟩ | ⟨g,cap,cu,hv,hg,hh,hn,hm,hss,htt⟩
 ·cases h3
 ·simp only[Value.slice.injEq,Option.some.injEq,Addr.mk.injEq,and_true]at hv;obtain⟨rfl,rfl,rfl⟩:=hv;rw[h0]at hh;simp only[Option.some.injEq,Obj.cells.injEq,and_true]at hh;obtain⟨rfl,rfl⟩:=hh;have hl:(R.take k).length=k:=by rw[List.length_take,Nat.min_eq_left hk]
  refine⟨lB hs _, .inr ⟨b,c,cur',by rw[hl],hg,h1,by omega,hm,by rw[hsz];exact hss,?_⟩⟩;rw[hl,ht,dL hs,<-htt,List.take_take,Nat.min_eq_left (Nat.mul_le_mul_right s hk)]
theorem iA.cur {α:Type} {enc:α->List Value} {s:Nat} {e:TypeId} {w:World} {base b n c:Nat} {R:List α} (h:iA enc s e w base (.slice (some ⟨b,0,none⟩) n c) R):∃cur,w.heap[b]?=some (.cells cur e (0,0))/\cur.size=c*s/\n<=c/\n=R.length:=by
 obtain⟨h2,h3⟩:=h;rcases h3 with⟨h3,_⟩ | ⟨g,cap,cu,hv,hg,hh,hn,hm,hss,htt⟩
 ·cases h3
 ·simp only[Value.slice.injEq,Option.some.injEq,Addr.mk.injEq,and_true]at hv;obtain⟨rfl,rfl,rfl⟩:=hv;exact⟨cu,hh,hss,hn,rfl⟩
theorem aBj {S:List Stp} {o:Option Addr} {n c:Nat} {g:Nat} {l:Value} {p:Stp->Bool} (eg:∀args w,(callFunc g args).run Tryz.prog w= .ok (.enter g args) w) (w:World) (hS:SlF 3 w o n c (flat Stp.enc S)) (hT:∀W,Below w.heap.size w W->S4 stV S g #[l] p W) (hn:n<=1048576):
  Calls Tryz.prog 124 #[.slice o n c, .func (.func g) #[] #[l]] w fun e w'=>e= .returned (.int .i64 (tQ (S.findIdx? p)))/\Below w.heap.size w w':=by
 have HLS:=hW_ (hS.count Stp.enc_len (by omega));have HS:=hW_ hS;have HT:=hW_ hT;clear hS hT;go_enter Tryz.func124,Tryz.ntmps124;go_wp2_with (fail);go_loopw [5,8] (fun _ i wr=>∃k:Nat,k<=n/\i= .int .i64 k/\Hid (∀j x,S[j]?=some x->j<k->p x=false)/\Below w.heap.size w wr) (fun _ i _=>n-(intOf i).toNat)
 case atStart=>exact⟨0,Nat.zero_le _,rfl,hW_ (fun j x _ h=>by omega),Below.refl _ _⟩
 case round=>
  obtain⟨k,hk,rfl,HK,hb⟩:=hrel;have HB:=hW_ hb;clear hb
  by_cases hlt:k<n
  ·obtain⟨x,hx⟩:∃x,S[k]?=some x:=⟨_,List.getElem?_eq_getElem (by have:=HLS.out;omega)⟩
   obtain⟨b,of,rfl,hce⟩:=(HS.out.below HB.out).elem Stp.enc_len (by omega) hx;have d0:=hce 0 _ rfl;have d1:=hce 1 _ rfl;have d2:=hce 2 _ rfl;rw[Nat.add_zero]at d0;have gk:(k:Int)<(n:Int):=by omega
   have hcl:=HT.out wr HB.out x (List.mem_of_getElem? hx);obtain⟨bv,hbv⟩:∃bv,p x=bv:=⟨_,rfl⟩;rw[hbv]at hcl;have HX:=hW_ (And.intro hx hbv);have HCL:=hW_ hcl;clear hce hx hbv hcl;go_wp2_with (fail);refine HCL.out.mono ?_
   rintro e w2 ⟨rfl,hb2⟩;have HB2:=hW_ (HB.out.trans (hb2.mono HB.out.size))
   cases bv with
   | true=>
    go_wp2_with (fail);go_ret;exact⟨by rw[fi_hit HX.out.1 HX.out.2 HK.out];rfl,HB2.out⟩
   | false=>
    have HK2:Hid (∀j x,S[j]?=some x->j<k+1->p x=false):=hW_ (fun j y hy hj=>by
     by_cases e:j=k
     ·subst e;obtain rfl:=Option.some.inj (HX.out.1.symm.trans hy);exact HX.out.2
     ·exact HK.out j y hy (by omega))
    go_wp2_with (fail);go_roundw
    case rel=>exact⟨k+1,by omega,by go_num,HK2,HB2.out⟩
    case measure=>simp[intOf];omega
  ·have gk:¬(k:Int)<(n:Int):=by omega
   go_wp2_with (fail);go_ret;exact⟨by rw[aCy HK.out (by have:=HLS.out;omega)];rfl,HB.out⟩
theorem aBk {S:List Int} {o:Option Addr} {n c:Nat} {g:Nat} {l:Value} {p:Int->Bool} (eg:∀args w,(callFunc g args).run Tryz.prog w= .ok (.enter g args) w) (w:World) (hS:SlF 1 w o n c (flat bP S)) (hT:∀W,Below w.heap.size w W->S4 (Value.int .i64) S g #[l] p W) (hn:n<=1048576):
  Calls Tryz.prog 115 #[.slice o n c, .func (.func g) #[] #[l]] w fun e w'=>e= .returned (.int .i64 (tQ (S.findIdx? p)))/\Below w.heap.size w w':=by
 have HLS:=hW_ (hS.count uK (by omega));have HS:=hW_ hS;have HT:=hW_ hT;clear hS hT;go_enter Tryz.func115,Tryz.ntmps115;go_wp2_with (fail);go_loopw [5,8] (fun _ i wr=>∃k:Nat,k<=n/\i= .int .i64 k/\Hid (∀j x,S[j]?=some x->j<k->p x=false)/\Below w.heap.size w wr) (fun _ i _=>n-(intOf i).toNat)
 case atStart=>exact⟨0,Nat.zero_le _,rfl,hW_ (fun j x _ h=>by omega),Below.refl _ _⟩
 case round=>
  obtain⟨k,hk,rfl,HK,hb⟩:=hrel;have HB:=hW_ hb;clear hb
  by_cases hlt:k<n
  ·obtain⟨x,hx⟩:∃x,S[k]?=some x:=⟨_,List.getElem?_eq_getElem (by have:=HLS.out;omega)⟩
   obtain⟨b,of,rfl,hce⟩:=(HS.out.below HB.out).elem uK (by omega) hx;have d0:=hce 0 _ rfl;rw[Nat.mul_one]at d0;rw[Nat.add_zero]at d0;have gk:(k:Int)<(n:Int):=by omega
   have hcl:=HT.out wr HB.out x (List.mem_of_getElem? hx);obtain⟨bv,hbv⟩:∃bv,p x=bv:=⟨_,rfl⟩;rw[hbv]at hcl;have HX:=hW_ (And.intro hx hbv);have HCL:=hW_ hcl;clear hce hx hbv hcl;go_wp2_with (fail);refine HCL.out.mono ?_
   rintro e w2 ⟨rfl,hb2⟩;have HB2:=hW_ (HB.out.trans (hb2.mono HB.out.size))
   cases bv with
   | true=>
    go_wp2_with (fail);go_ret;exact⟨by rw[fi_hit HX.out.1 HX.out.2 HK.out];rfl,HB2.out⟩
   | false=>
    have HK2:Hid (∀j x,S[j]?=some x->j<k+1->p x=false):=hW_ (fun j y hy hj=>by
     by_cases e:j=k
     ·subst e;obtain rfl:=Option.some.inj (HX.out.1.symm.trans hy);exact HX.out.2
     ·exact HK.out j y hy (by omega))
    go_wp2_with (fail);go_roundw
    case rel=>exact⟨k+1,by omega,by go_num,HK2,HB2.out⟩
    case measure=>simp[intOf];omega
  ·have gk:¬(k:Int)<(n:Int):=by omega
   go_wp2_with (fail);go_ret;exact⟨by rw[aCy HK.out (by have:=HLS.out;omega)];rfl,HB.out⟩
theorem cQ {S:List Stp} {v:Value} {base g:Nat} {l:Value} {p:Stp->Bool} (eg:∀args w,(callFunc g args).run Tryz.prog w= .ok (.enter g args) w) (w:World) (hS:iA Stp.enc 3 111 w base v S) (hT:∀W,dA (fun q=>v.ownBlock=some q) w W->S4 stV S g #[l] p W) (hn:S.length<=1000000):
  Calls Tryz.prog 86 #[v, .func (.func g) #[] #[l]] w fun e w'=>∃v',e= .returned v'/\iA Stp.enc 3 111 w' base v' (S.filter (fun x=>!p x))/\(∀q,v'.ownBlock=some q->v.ownBlock=some q)/\dA (fun q=>v.ownBlock=some q) w w':=by
 obtain⟨n,hnl⟩:∃n,S.length=n:=⟨_,rfl⟩;rw[hnl]at hn;obtain⟨o,c,hv,hsl⟩:=hS.sl;rw[hnl]at hv hsl;subst hv;have hcn:=Nat.le_trans hsl.le hsl.max;unfold maxLen at hcn;have HIX:=hW_ (aBj eg w hsl (fun W hW=>hT W (dA.of_below hW)) (by omega));obtain⟨r,hr⟩:∃r,S.findIdx? p=r:=⟨_,rfl⟩;rw[hr]at HIX;have HS:=hW_ hS;have HT:=hW_ hT;have HN:=hW_ hnl;have HR:=hW_ hr;clear hS hT hsl hnl hr;go_enter Tryz.func86,Tryz.ntmps86;go_wp2_with (fail);go_at_call 124;refine HIX.out.mono ?_
 rintro E w1 ⟨rfl,hb1⟩;have HB1:=hW_ hb1;clear hb1
 cases r with
 | none=>
  simp only[tQ];go_wp2_with (fail);go_ret;refine⟨_,rfl,?_,fun q h=>h,dA.of_below HB1.out⟩;rw[iS HR.out];exact HS.out.below HB1.out
 | some i0=>
  obtain⟨hi0,hp0,hbef⟩:=List.findIdx?_eq_some_iff_getElem.1 HR.out;have hin:i0<n:=by have:=HN.out;omega
  have g1:((i0:Int)== -1)=false:=by simp
  have g1':¬(i0:Int)= -1:=by omega
  obtain⟨bb,c',hv,-,-⟩:=iA.at0 HS.out (by omega);obtain⟨rfl,-,rfl⟩:=Value.slice.inj hv;obtain⟨ti,hti,hz0,hz1,hz2⟩:=info_parts infoStp;have hthin:kO S p i0 (i0+1) S:=by
   refine⟨rfl,by omega,by omega,?_,rfl⟩;rw[fL (List.getElem?_eq_getElem hi0),if_pos hp0,List.append_nil,gS (fun j y hy hj=> ?_) (by omega)];obtain⟨hl,e⟩:=List.getElem?_eq_some_iff.1 hy;rw[<-e];simpa using hbef j hj
  have hwi:IntKind.i64.wrap ((i0:Int)+1)=((i0+1:Nat):Int):=by rw[IntKind.wrap_i64];omega
  have HTH:=hW_ (And.intro hthin (And.intro (HS.out.below HB1.out) (show dA (fun q=>(Value.slice (some ⟨bb,0,none⟩) n c).ownBlock=some q) w w1 from dA.of_below HB1.out)));have hS0:bb<w.heap.size:=(World.ownsRow.lt HS.out bb rfl).2;clear hi0 hp0 hbef hthin hv;simp only[tQ];go_wp2_with (fail);go_loopw [5,6] (fun si sj wr=>∃(i j:Nat) (R:List Stp),i<j/\j<=n/\si= .int .i64 i/\sj= .int .i64 j/\Hid (kO S p i j R/\iA Stp.enc 3 111 wr base (.slice (some ⟨bb,0,none⟩) n c) R/\dA (fun q=>(Value.slice (some ⟨bb,0,none⟩) n c).ownBlock=some q) w wr)) (fun _ sj _=>n-(intOf sj).toNat)
  case atStart=>exact⟨i0,i0+1,S,by omega,by omega,by go_num,by go_num,HTH⟩
  case round=>
   obtain⟨i,j,R,hij,hjn,rfl,rfl,HR2⟩:=hrel
   by_cases hlt:j<n
   ·have gj:(j:Int)<(n:Int):=by omega
    obtain⟨x,hx⟩:∃x,S[j]?=some x:=⟨_,List.getElem?_eq_getElem (by have:=HN.out;omega)⟩
    have hxR:R[j]?=some x:=HR2.out.1.at_.trans hx
    obtain⟨o9,c9,hv9,hsl9⟩:=HR2.out.2.1.sl;obtain⟨e1,e0,e2⟩:=Value.slice.inj hv9;rw[<-e0,<-e1,<-e2]at hsl9;obtain⟨b,of,hbe,hce⟩:=hsl9.elem Stp.enc_len (by omega) hxR;simp only[Option.some.injEq,Addr.mk.injEq,and_true]at hbe;obtain⟨rfl,rfl⟩:=hbe;have d0:=hce 0 _ rfl;have d1:=hce 1 _ rfl;have d2:=hce 2 _ rfl;simp only[Nat.zero_add,Nat.add_zero]at d0 d1 d2;have hxS:x∈S:=List.mem_of_getElem? hx;have hbx:=aA wr (.cells #[.int .i64 x.fin, .int .i64 x.toks, .int .i64 x.need] 111);have hx2:(wr.alloc (.cells #[.int .i64 x.fin, .int .i64 x.toks, .int .i64 x.need] 111)).heap[wr.heap.size]?=some (.cells #[.int .i64 x.fin, .int .i64 x.toks, .int .i64 x.need] 111):=heap_alloc_new wr _
    have hcl:=HT.out (wr.alloc (.cells #[.int .i64 x.fin, .int .i64 x.toks, .int .i64 x.need] 111)) (HR2.out.2.2.alloc _) x hxS;obtain⟨bv,hbv⟩:∃bv,p x=bv:=⟨_,rfl⟩;rw[hbv]at hcl;have HX:=hW_ (And.intro hx hbv);have HCL:=hW_ hcl;have HBX:=hW_ hbx;have HX2:=hW_ hx2;have hbs:bb<wr.heap.size:=(World.ownsRow.lt HR2.out.2.1 bb rfl).2;have hwj:IntKind.i64.wrap ((j:Int)+1)=((j+1:Nat):Int):=by rw[IntKind.wrap_i64];omega
    clear hce hsl9 hv9 e1 e0 e2 hxR hxS hbx hx2 hcl hbv hx;go_wp2_with (fail);refine HCL.out.mono ?_
    rintro e w2 ⟨rfl,hb2⟩;have hrw2:Below wr.heap.size wr w2:=HBX.out.trans (hb2.mono HBX.out.size);have HB2:=hW_ hrw2;have HBB:=hW_ hb2;clear hb2
    cases bv with
    | true=>
     have HE:Hid (kO S p i (j+1) R/\iA Stp.enc 3 111 w2 base (.slice (some ⟨bb,0,none⟩) n c) R/\dA (fun q=>(Value.slice (some ⟨bb,0,none⟩) n c).ownBlock=some q) w w2):=hW_ ⟨HR2.out.1.skip HX.out.1 HX.out.2,HR2.out.2.1.below HB2.out,HR2.out.2.2.trans (dA.of_below HB2.out)⟩;clear hrw2 d0 d1 d2;go_wp2_with (fail);go_roundw
     case rel=>exact⟨i,j+1,R,by omega,by omega,rfl,by go_num,HE⟩
     case measure=>simp[intOf];omega
    | false=>
     have hR9:i<R.length:=by have:=HR2.out.1.len;have:=HN.out;omega
     have ho2:=HR2.out.2.1.below HB2.out;obtain⟨y,hy⟩:∃y,R[i]?=some y:=⟨_,List.getElem?_eq_getElem hR9⟩
     obtain⟨o9,c9,hv9,hsl9⟩:=ho2.sl;obtain⟨e1,e0,e2⟩:=Value.slice.inj hv9;rw[<-e0,<-e1,<-e2]at hsl9;obtain⟨b,of,hbe,hce⟩:=hsl9.elem Stp.enc_len (by omega) hy;simp only[Option.some.injEq,Addr.mk.injEq,and_true]at hbe;obtain⟨rfl,rfl⟩:=hbe;have f0:=hce 0 _ rfl;have f1:=hce 1 _ rfl;have f2:=hce 2 _ rfl;simp only[Nat.zero_add,Nat.add_zero]at f0 f1 f2;have hfz:=lY ho2;have hbx2:=(HBB.out.block _ (by simp)).trans HX2.out;obtain⟨k0,k1,k2⟩:=bC hbx2;have gi:(i:Int)<(n:Int):=by omega
     have qn:¬wr.heap.size=bb:=by omega
     have hwi2:IntKind.i64.wrap ((i:Int)+1)=((i+1:Nat):Int):=by rw[IntKind.wrap_i64];omega
     have HP:=hW_ (stp_put ho2 hR9 x);have HTN:=hW_ (HR2.out.1.keep HX.out.1 HX.out.2);have HK2:=hW_ (HR2.out.2.2.trans (dA.of_below HB2.out));clear hrw2 d0 d1 d2 hce hsl9 hv9 e1 e0 e2 hy ho2 hbx2;go_wp2_with (fail);go_roundw
     case rel=>exact⟨i+1,j+1,_,by omega,by omega,by go_num,by go_num,hW_ ⟨HTN.out,HP.out,(((HK2.out.set (by rfl) _).set (by rfl) _).set (by rfl) _)⟩⟩
     case measure=>simp[intOf];omega
   ·obtain rfl:j=n:=by omega
    have gj:¬(j:Int)<(j:Int):=by omega
    obtain⟨cur,hcu,hcs,hcn2,hcl⟩:=HR2.out.2.1.cur;have hi2:i<=j:=by omega
    have hLO:∀W,(Instr.sliceAt 83 (.slice (some ⟨bb,0,none⟩) j c) (some (.int .i64 (i:Int))) none none).run Tryz.prog W= .ok (.slice (some ⟨bb,i*3,none⟩) (j-i) (c-i)) W:=fun W=>by
     have:=tA Tryz.underlying83 hti W (some ⟨bb,0,none⟩) j c (some (.int .i64 (i:Int))) none i j (fun w=>by simp[Instr.sliceBounds,run_sliceBound,hi2]);rw[hz1,if_neg (by omega)]at this;simpa[Addr.add_lit]using this
    have hHI:∀W,(Instr.sliceAt 83 (.slice (some ⟨bb,0,none⟩) j c) none (some (.int .i64 (i:Int))) none).run Tryz.prog W= .ok (.slice (some ⟨bb,0,none⟩) i c) W:=fun W=>by
     have:=tA Tryz.underlying83 hti W (some ⟨bb,0,none⟩) j c none (some (.int .i64 (i:Int))) 0 i (fun w=>by simp[Instr.sliceBounds,run_sliceBound,Nat.le_trans hi2 hcn2]);simp only[Nat.zero_mul,Nat.sub_zero]at this;rw[this];split<;>simp[Addr.add_lit]
    have hzv:∀w,(zeroValue 111).run Tryz.prog w= .ok (.agg #[.int .i64 0, .int .i64 0, .int .i64 0]) w:=fun w=>by simp[zeroValue,typeInfo,hti,hz0,Result.andThen]
    have hzs:((.agg #[.int .i64 0, .int .i64 0, .int .i64 0]):Value).cells.size=3:=by rfl
    have hz1c:∀v∈((.agg #[.int .i64 0, .int .i64 0, .int .i64 0]):Value).cells,v.oneCell'=true:=by
     intro v hv;simp[Value.cells]at hv;rcases hv with rfl | rfl | rfl<;>rfl
    have HC:=hW_ (And.intro hcu (And.intro hcs (And.intro hcn2 hcl)));have hfit:i*3+(j-i)*3<=cur.size:=by rw[hcs];omega
    clear hcu hcs hcl;go_wp2_with ((with_reducible show wpList _ _ _ (⟨none, .call _,_,_,_,_⟩::_) _ _);(refine sI rfl _ 83 111 rfl Tryz.underlying83 hzv (s:=3) hzs hz1c (g:=bb) (off:=i*3) (n:=j-i) (c:=c-i) (by rfl) HC.out.1 hfit ?_);intro w5 cur5 hg5 hsz5 htk5 ho5 ht5 hp5 hs5 hk5;have H5:=hW_ (And.intro hg5 (And.intro hsz5 (And.intro htk5 (And.intro ho5 (And.intro ht5 (And.intro hp5 (And.intro hs5 hk5)))))));clear hg5 hsz5 htk5 ho5 ht5 hp5 hs5 hk5);go_ret;obtain⟨hg5,hsz5,htk5,ho5,ht5,hp5,hs5,hk5⟩:=H5.out;have hlR:R.length=j:=by rw[HR2.out.1.len];exact HN.out
    refine⟨_,rfl,?_,fun q h=>h,?_⟩
    ·have hf:=HR2.out.2.1.first Stp.enc_len HC.out.1 hg5 hsz5 htk5 (by omega);rw[HR2.out.1.kept,List.take_of_length_le (by have:=HN.out;omega)]at hf;exact hf
    ·have hk:=HR2.out.2.2;exact⟨ho5.trans hk.os,ht5.trans hk.tape,hp5.trans hk.output,by have:=hk.size;omega,fun q hq hz=>(hk5 q (fun e=>hz (by rw[e];rfl))).trans (hk.block q hq hz)⟩
theorem int_put {e:TypeId} {w:World} {base b n c:Nat} {L:List Int} (h:iA bP 1 e w base (.slice (some ⟨b,0,none⟩) n c) L) {i:Nat} (hi:i<L.length) (x:Int):
  iA bP 1 e (w.setCell ⟨b,i,none⟩ (.int .i64 x)) base (.slice (some ⟨b,0,none⟩) n c) (L.set i x):=by
 obtain⟨ao,cap,e0,_⟩:=h.sl;obtain⟨_,hn,_⟩:=Value.slice.inj e0;have h0:w.ownsRow base e 1 (.slice (some ⟨b,0,none⟩) n c) n (flat bP L):=by have:=h;unfold iA at this;rw[<-hn]at this;exact this
 obtain⟨h1,g1⟩:=World.ownsRow.stored h0 i (.int .i64 x);unfold iA;rw[List.length_set,<-hn,eL,List.map_set,<-eL];exact h1
theorem rZ {S:List Int} {v:Value} {base g:Nat} {l:Value} {p:Int->Bool} (eg:∀args w,(callFunc g args).run Tryz.prog w= .ok (.enter g args) w) (w:World) (hS:iA bP 1 3 w base v S) (hT:∀W,dA (fun q=>v.ownBlock=some q) w W->S4 (Value.int .i64) S g #[l] p W) (hn:S.length<=1000000):
  Calls Tryz.prog 80 #[v, .func (.func g) #[] #[l]] w fun e w'=>∃v',e= .returned v'/\iA bP 1 3 w' base v' (S.filter (fun x=>!p x))/\(∀q,v'.ownBlock=some q->v.ownBlock=some q)/\dA (fun q=>v.ownBlock=some q) w w':=by
 obtain⟨n,hnl⟩:∃n,S.length=n:=⟨_,rfl⟩;rw[hnl]at hn;obtain⟨o,c,hv,hsl⟩:=hS.sl;rw[hnl]at hv hsl;subst hv;have hcn:=Nat.le_trans hsl.le hsl.max;unfold maxLen at hcn;have HIX:=hW_ (aBk eg w hsl (fun W hW=>hT W (dA.of_below hW)) (by omega));obtain⟨r,hr⟩:∃r,S.findIdx? p=r:=⟨_,rfl⟩;rw[hr]at HIX;have HS:=hW_ hS;have HT:=hW_ hT;have HN:=hW_ hnl;have HR:=hW_ hr;clear hS hT hsl hnl hr;go_enter Tryz.func80,Tryz.ntmps80;go_wp2_with (fail);go_at_call 115;refine HIX.out.mono ?_
 rintro E w1 ⟨rfl,hb1⟩;have HB1:=hW_ hb1;clear hb1
 cases r with
 | none=>
  simp only[tQ];go_wp2_with (fail);go_ret;refine⟨_,rfl,?_,fun q h=>h,dA.of_below HB1.out⟩;rw[iS HR.out];exact HS.out.below HB1.out
 | some i0=>
  obtain⟨hi0,hp0,hbef⟩:=List.findIdx?_eq_some_iff_getElem.1 HR.out;have hin:i0<n:=by have:=HN.out;omega
  have g1:((i0:Int)== -1)=false:=by simp
  have g1':¬(i0:Int)= -1:=by omega
  obtain⟨bb,c',hv,-,-⟩:=iA.at0 HS.out (by omega);obtain⟨rfl,-,rfl⟩:=Value.slice.inj hv;obtain⟨ti,hti,hz0,hz1,hz2⟩:=info_parts tC;have hthin:kO S p i0 (i0+1) S:=by
   refine⟨rfl,by omega,by omega,?_,rfl⟩;rw[fL (List.getElem?_eq_getElem hi0),if_pos hp0,List.append_nil,gS (fun j y hy hj=> ?_) (by omega)];obtain⟨hl,e⟩:=List.getElem?_eq_some_iff.1 hy;rw[<-e];simpa using hbef j hj
  have hwi:IntKind.i64.wrap ((i0:Int)+1)=((i0+1:Nat):Int):=by rw[IntKind.wrap_i64];omega
  have HTH:=hW_ (And.intro hthin (And.intro (HS.out.below HB1.out) (show dA (fun q=>(Value.slice (some ⟨bb,0,none⟩) n c).ownBlock=some q) w w1 from dA.of_below HB1.out)));have hS0:bb<w.heap.size:=(World.ownsRow.lt HS.out bb rfl).2;clear hi0 hp0 hbef hthin hv;simp only[tQ];go_wp2_with (fail);go_loopw [5,6] (fun si sj wr=>∃(i j:Nat) (R:List Int),i<j/\j<=n/\si= .int .i64 i/\sj= .int .i64 j/\Hid (kO S p i j R/\iA bP 1 3 wr base (.slice (some ⟨bb,0,none⟩) n c) R/\dA (fun q=>(Value.slice (some ⟨bb,0,none⟩) n c).ownBlock=some q) w wr)) (fun _ sj _=>n-(intOf sj).toNat)
  case atStart=>exact⟨i0,i0+1,S,by omega,by omega,by go_num,by go_num,HTH⟩
  case round=>
   obtain⟨i,j,R,hij,hjn,rfl,rfl,HR2⟩:=hrel
   by_cases hlt:j<n
   ·have gj:(j:Int)<(n:Int):=by omega
    obtain⟨x,hx⟩:∃x,S[j]?=some x:=⟨_,List.getElem?_eq_getElem (by have:=HN.out;omega)⟩
    have hxR:R[j]?=some x:=HR2.out.1.at_.trans hx
    obtain⟨o9,c9,hv9,hsl9⟩:=HR2.out.2.1.sl;obtain⟨e1,e0,e2⟩:=Value.slice.inj hv9;rw[<-e0,<-e1,<-e2]at hsl9;obtain⟨b,of,hbe,hce⟩:=hsl9.elem uK (by omega) hxR;simp only[Option.some.injEq,Addr.mk.injEq,and_true]at hbe;obtain⟨rfl,rfl⟩:=hbe;have d0:=hce 0 _ rfl;rw[Nat.mul_one]at d0;simp only[Nat.zero_add,Nat.add_zero]at d0;have hxS:x∈S:=List.mem_of_getElem? hx;have hbx:=Below.refl wr.heap.size wr;have hcl:=HT.out wr HR2.out.2.2 x hxS;obtain⟨bv,hbv⟩:∃bv,p x=bv:=⟨_,rfl⟩;rw[hbv]at hcl;have HX:=hW_ (And.intro hx hbv);have HCL:=hW_ hcl;have HBX:=hW_ hbx;have hbs:bb<wr.heap.size:=(World.ownsRow.lt HR2.out.2.1 bb rfl).2;have hwj:IntKind.i64.wrap ((j:Int)+1)=((j+1:Nat):Int):=by rw[IntKind.wrap_i64];omega
    clear hce hsl9 hv9 e1 e0 e2 hxR hxS hbx hcl hbv hx;go_wp2_with (fail);refine HCL.out.mono ?_
    rintro e w2 ⟨rfl,hb2⟩;have hrw2:Below wr.heap.size wr w2:=HBX.out.trans (hb2.mono HBX.out.size);have HB2:=hW_ hrw2;have HBB:=hW_ hb2;clear hb2
    cases bv with
    | true=>
     have HE:Hid (kO S p i (j+1) R/\iA bP 1 3 w2 base (.slice (some ⟨bb,0,none⟩) n c) R/\dA (fun q=>(Value.slice (some ⟨bb,0,none⟩) n c).ownBlock=some q) w w2):=hW_ ⟨HR2.out.1.skip HX.out.1 HX.out.2,HR2.out.2.1.below HB2.out,HR2.out.2.2.trans (dA.of_below HB2.out)⟩;clear hrw2 d0;go_wp2_with (fail);go_roundw
     case rel=>exact⟨i,j+1,R,by omega,by omega,rfl,by go_num,HE⟩
     case measure=>simp[intOf];omega
    | false=>
     have hR9:i<R.length:=by have:=HR2.out.1.len;have:=HN.out;omega
     have ho2:=HR2.out.2.1.below HB2.out;obtain⟨y,hy⟩:∃y,R[i]?=some y:=⟨_,List.getElem?_eq_getElem hR9⟩
     obtain⟨o9,c9,hv9,hsl9⟩:=ho2.sl;obtain⟨e1,e0,e2⟩:=Value.slice.inj hv9;rw[<-e0,<-e1,<-e2]at hsl9;obtain⟨b,of,hbe,hce⟩:=hsl9.elem uK (by omega) hy;simp only[Option.some.injEq,Addr.mk.injEq,and_true]at hbe;obtain⟨rfl,rfl⟩:=hbe;have f0:=hce 0 _ rfl;rw[Nat.mul_one]at f0;simp only[Nat.zero_add,Nat.add_zero]at f0;have hfz:=lY ho2;have gi:(i:Int)<(n:Int):=by omega
     have hwi2:IntKind.i64.wrap ((i:Int)+1)=((i+1:Nat):Int):=by rw[IntKind.wrap_i64];omega
     have HP:=hW_ (int_put ho2 hR9 x);have HTN:=hW_ (HR2.out.1.keep HX.out.1 HX.out.2);have HK2:=hW_ (HR2.out.2.2.trans (dA.of_below HB2.out));clear hrw2 d0 hce hsl9 hv9 e1 e0 e2 hy ho2;go_wp2_with (fail);go_roundw
     case rel=>exact⟨i+1,j+1,_,by omega,by omega,by go_num,by go_num,hW_ ⟨HTN.out,HP.out,(HK2.out.set (by rfl) _)⟩⟩
     case measure=>simp[intOf];omega
   ·obtain rfl:j=n:=by omega
    have gj:¬(j:Int)<(j:Int):=by omega
    obtain⟨cur,hcu,hcs,hcn2,hcl⟩:=HR2.out.2.1.cur;have hi2:i<=j:=by omega
    have hLO:∀W,(Instr.sliceAt 34 (.slice (some ⟨bb,0,none⟩) j c) (some (.int .i64 (i:Int))) none none).run Tryz.prog W= .ok (.slice (some ⟨bb,i,none⟩) (j-i) (c-i)) W:=fun W=>by
     have:=tA Tryz.underlying34 hti W (some ⟨bb,0,none⟩) j c (some (.int .i64 (i:Int))) none i j (fun w=>by simp[Instr.sliceBounds,run_sliceBound,hi2]);rw[hz1,if_neg (by omega)]at this;simpa[Addr.add_lit]using this
    have hHI:∀W,(Instr.sliceAt 34 (.slice (some ⟨bb,0,none⟩) j c) none (some (.int .i64 (i:Int))) none).run Tryz.prog W= .ok (.slice (some ⟨bb,0,none⟩) i c) W:=fun W=>by
     have:=tA Tryz.underlying34 hti W (some ⟨bb,0,none⟩) j c none (some (.int .i64 (i:Int))) 0 i (fun w=>by simp[Instr.sliceBounds,run_sliceBound,Nat.le_trans hi2 hcn2]);simp only[Nat.zero_mul,Nat.sub_zero]at this;rw[this];split<;>simp[Addr.add_lit]
    have hzv:∀w,(zeroValue 3).run Tryz.prog w= .ok (.int .i64 0) w:=fun w=>by simp[zeroValue,typeInfo,hti,hz0,Result.andThen]
    have hzs:((.int .i64 0):Value).cells.size=1:=by rfl
    have hz1c:∀v∈((.int .i64 0):Value).cells,v.oneCell'=true:=by
     intro v hv;simp[Value.cells]at hv;subst hv;rfl
    have HC:=hW_ (And.intro hcu (And.intro hcs (And.intro hcn2 hcl)));have hfit:i+(j-i)*1<=cur.size:=by rw[hcs];omega
    clear hcu hcs hcl;go_wp2_with ((with_reducible show wpList _ _ _ (⟨none, .call _,_,_,_,_⟩::_) _ _);(refine sI rfl _ 34 3 rfl Tryz.underlying34 hzv (s:=1) hzs hz1c (g:=bb) (off:=i) (n:=j-i) (c:=c-i) (by rfl) HC.out.1 hfit ?_);intro w5 cur5 hg5 hsz5 htk5 ho5 ht5 hp5 hs5 hk5;have H5:=hW_ (And.intro hg5 (And.intro hsz5 (And.intro htk5 (And.intro ho5 (And.intro ht5 (And.intro hp5 (And.intro hs5 hk5)))))));clear hg5 hsz5 htk5 ho5 ht5 hp5 hs5 hk5);go_ret;obtain⟨hg5,hsz5,htk5,ho5,ht5,hp5,hs5,hk5⟩:=H5.out;have hlR:R.length=j:=by rw[HR2.out.1.len];exact HN.out
    refine⟨_,rfl,?_,fun q h=>h,?_⟩
    ·have hf:=HR2.out.2.1.first uK HC.out.1 hg5 hsz5 (by rw[Nat.mul_one];exact htk5) (by omega);rw[HR2.out.1.kept,List.take_of_length_le (by have:=HN.out;omega)]at hf;exact hf
    ·have hk:=HR2.out.2.2;exact⟨ho5.trans hk.os,ht5.trans hk.tape,hp5.trans hk.output,by have:=hk.size;omega,fun q hq hz=>(hk5 q (fun e=>hz (by rw[e];rfl))).trans (hk.block q hq hz)⟩
theorem dA.setNew {S:Nat->Prop} {a w:World} (h:dA S a w) {p:Addr} (hp:a.heap.size<=p.block) (v:Value):dA S a (w.setCell p v):=
 ⟨h.os,h.tape,h.output,by have:=h.size;simp;omega,fun q hq hz=>(Below.heap_setCell _ _ _ _ (show q≠p.block by omega)).trans (h.block q hq hz)⟩
theorem sX {w:World} {tb g pb wb st tn tc f:Nat} {xo:Option Addr} {sv vv:Value} {depth most:Int} {e:Bool} (h:F4 w tb g pb wb st xo tn tc sv vv depth most f e):
  Calls Tryz.prog 38 #[.pointer (some ⟨tb,0,none⟩)] w fun E w'=>E= .returned (.int .i64 (if e=true then 11 else 0))/\w'=w:=by
 obtain⟨c0,c1,c2,c3,c4,c5,c6,c7,c8,c9,ca,cf⟩:=B7 h.box;clear h
 cases e
 ·go_enter Tryz.func38,Tryz.ntmps38;go_wp2_with (fail);go_ret;exact⟨rfl,rfl⟩
 ·go_enter Tryz.func38,Tryz.ntmps38;go_wp2_with (fail);go_ret;exact⟨rfl,rfl⟩
theorem tkLen {w:World} {tb g pb wb st tn tc f n:Nat} {xo:Option Addr} {sv vv:Value} {depth most:Int} {e:Bool} (h:F4 w tb g pb wb st xo tn tc sv vv depth most f e) (hn:st+tn=n) (hl:n<=1048576):
  Calls Tryz.prog 9 #[.pointer (some ⟨tb,0,none⟩)] w fun E w'=>E= .returned (.int .i64 n)/\∃q,w'=w.drewN q:=by
 obtain⟨c0,c1,c2,c3,c4,c5,c6,c7,c8,c9,ca,cf⟩:=B7 h.box;have hw:IntKind.i64.wrap ((st:Int)+(tn:Int))=(n:Int):=by rw[IntKind.wrap_i64];omega
 clear h;go_enter Tryz.func9,Tryz.ntmps9;go_wp2_with (fail);go_quiet (fail);go_wp2_with (fail);go_ret;exact⟨rfl,_,rfl⟩
theorem aBd {S:List Stp} {cb m:Nat} {W:World} (hc:W.cell? ⟨cb,0,none⟩=some (.int .i64 m)):S4 stV S 113 #[.pointer (some ⟨cb,0,none⟩)] (fun s=>!decide (s.need<=m)) W:=by
 intro x _;have hx:=heap_alloc_new W (.cells #[.int .i64 x.fin, .int .i64 x.toks, .int .i64 x.need] 111);obtain⟨k0,k1,k2⟩:=bC hx;have c1:=eA (aA W (.cells #[.int .i64 x.fin, .int .i64 x.toks, .int .i64 x.need] 111)) _ _ hc;have hb:=aA W (.cells #[.int .i64 x.fin, .int .i64 x.toks, .int .i64 x.need] 111);have HB:=hW_ hb;unfold stV;clear hx hb
 by_cases h:x.need<=m
 ·have e:(!decide (x.need<=m))=false:=by simp[h]
  have g1:decide ((x.need:Int)>(m:Int))=false:=by simp;omega
  have g2:decide ((m:Int)<(x.need:Int))=false:=by simp;omega
  have g3:¬m<x.need:=by omega
  show Calls Tryz.prog _ #[_,_] W (fun E w'=>E= .returned (.bool (!decide (x.need<=m)))/\_);rw[e];clear h e;go_enter Tryz.func113,Tryz.ntmps113;go_wp2_with (fail);go_ret;exact⟨by simp,HB.out⟩
 ·have e:(!decide (x.need<=m))=true:=by simp[h]
  have g1:decide ((x.need:Int)>(m:Int))=true:=by simp;omega
  have g2:decide ((m:Int)<(x.need:Int))=true:=by simp;omega
  have g3:m<x.need:=by omega
  show Calls Tryz.prog _ #[_,_] W (fun E w'=>E= .returned (.bool (!decide (x.need<=m)))/\_);rw[e];clear h e;go_enter Tryz.func113,Tryz.ntmps113;go_wp2_with (fail);go_ret;exact⟨by simp,HB.out⟩
theorem aBe {w:World} {base tb g pb wb:Nat} {V:Vc} {N:List ByteArray} {kind:Int} {T:List Rg} {room cnt:Int} {P Q:Nat->Prop} {col:Nat->Nat} {A W:List Int} {f a t bs st keep:Nat} {e:Bool} {S:List Stp} {Sv:List Int} {depth most:Int}
  (h:gE w base tb g pb wb V N kind T room cnt P Q col A W f a t bs st keep e S Sv depth most) (m:Nat) (hm:S.length<=1000000):
  Calls Tryz.prog 78 #[.pointer (some ⟨tb,0,none⟩), .int .i64 m] w fun E w'=>E= .returned (stV (wJ (S.filter (fun s=>decide (s.need<=m))) a t))/\
   gE w' base tb g pb wb V N kind T room cnt P Q col A W f a t bs st keep e (S.filter (fun s=>decide (s.need<=m))) Sv depth most/\dA (fun q=>col q=2\/col q=7) w w':=by
 obtain⟨S',hS'⟩:∃S',S.filter (fun s=>decide (s.need<=m))=S':=⟨_,rfl⟩;have HML:Hid (S'.length<=1000000):=hW_ (by rw[<-hS'];exact Nat.le_trans (List.length_filter_le _ _) hm);obtain⟨w1,hw1⟩:∃w1,(w.alloc (.cells #[.int .i64 m] 3)).alloc (.cells #[.int .i64 0, .int .i64 0, .int .i64 0] 111)=w1:=⟨_,rfl⟩;have hb1:Below w.heap.size w w1:=hw1▸(aA w _).alloc (by simp) _;have hs1:w1.heap.size=w.heap.size+2:=by rw[<-hw1];simp
 have hm1:w1.heap[w.heap.size]?=some (.cells #[.int .i64 m] 3):=by
  rw[<-hw1];exact(Below.heap_alloc _ _ _ (by simp)).trans (heap_alloc_new w _)
 have hr1:w1.heap[w.heap.size+1]?=some (.cells #[.int .i64 0, .int .i64 0, .int .i64 0] 111):=by
  rw[<-hw1];have:=heap_alloc_new (w.alloc (.cells #[.int .i64 m] 3)) (.cells #[.int .i64 0, .int .i64 0, .int .i64 0] 111);simpa using this
 have h1:=h.below hb1;have hlt:=h.lt;obtain⟨xo,tc,sv,vv,hbx,htx,hto,hst,hso,hsv,hvo⟩:=h1.box;have htb:=h.blt;have hD:=cQ (g:=113) (l:= .pointer (some ⟨w.heap.size,0,none⟩)) (p:=fun s=>!decide (s.need<=m)) (enters_of Tryz.func113 (by kernel_rfl) rfl) w1 hst (fun W hW=>aBd (by
  have hne:sv.ownBlock≠some w.heap.size:=fun e=>by
   have:=hlt w.heap.size (by rw[hso _ e];omega);omega
  have:=(hW.block w.heap.size (by omega) hne).trans hm1;simp[World.cell?,this])) hm
 have hff:(S.filter (fun x=>!(!decide (x.need<=m))))=S':=by rw[<-hS'];congr 1;funext x;simp
 rw[hff]at hD;rw[hS'];obtain⟨c0,c1,c2,c3,c4,c5,c6,c7,c8,c9,ca,cf⟩:=B7 hbx.box;rw[<-hw1]at c1 c5;have HD:=hW_ hD;have H1:=hW_ h1;have HW1:=hW_ hw1;have HB1:=hW_ hb1;have HX:=hW_ (And.intro hbx (And.intro htx (And.intro hto (And.intro hso (And.intro hsv hvo)))));have HS1:=hW_ (And.intro hs1 (And.intro hr1 (And.intro htb (And.intro hlt h.c0))));have hmf:∀(fn:Fn) (first cap:Array Value) (w:World),(Instr.makeFunc fn first cap).run Tryz.prog w= .ok (.func fn first cap) w:=fun _ _ _ _=>rfl
 clear h h1 hD hb1 hs1 hm1 hr1 hlt hbx htx hto hst hso hsv hvo htb hff hw1 cf c0 c2 c3 c4 c6 c7 c8 c9 ca;go_enter Tryz.func78,Tryz.ntmps78;go_wp2_with (fail);rw[HW1.out];refine HD.out.mono ?_
 rintro E w2 ⟨v',rfl,ho2,hv2,hk2⟩;obtain⟨hbx,htx,hto,hso,hsv,hvo⟩:=HX.out;obtain⟨hs1,hr1,htb,hlt,hc0⟩:=HS1.out;have hH1:=H1.out;have hnt:sv.ownBlock≠some tb:=fun e=>by have:=hso _ e;have:=hH1.c2;omega
 have hx2:=(hk2.block tb (by omega) hnt).trans hbx.box;obtain⟨w3,hw3⟩:∃w3,w2.setCell ⟨tb,5,none⟩ v'=w3:=⟨_,rfl⟩;have hk3:dA (fun q=>col q=2\/col q=7) w1 w3:=by
  rw[<-hw3];exact(hk2.mono (fun q _ e=> .inr (hso q e))).set (.inl hH1.c2) _
 have hs3:=hk3.size;have ho3:iA Stp.enc 3 111 w3 base v' S':=jA ho2 (fun q hq=>by rw[<-hw3];exact cA (fun e=>hnt (by rw[<-e];exact hv2 q hq)));have hx3:F4 w3 tb g pb wb st xo (A.length-st) tc v' vv depth most f e:=⟨by rw[<-hw3];exact rA (i:=5) hx2⟩;have hT3:gE w3 base tb g pb wb V N kind T room cnt P Q col A W f a t bs st keep e S' Sv depth most:=by
  refine hH1.renew hs3 (fun _ _=>rfl) (fun q hq=>hH1.c0 q (Nat.le_trans hs3 hq)) (fun q hq hc=>hk3.block q hq (by omega)) ⟨xo,tc,v',vv,hx3,?_,hto,ho3,fun q hq=>hso q (hv2 q hq),?_,hvo⟩ rfl
  ·exact htx.keep0 (fun ad e h0=>hk3.block _ (hH1.lt _ (by rw[hto ad e h0];omega)) (by rw[hto ad e h0];omega))
  ·exact jA hsv (fun q hq=>hk3.block q (hH1.lt q (by rw[hvo q hq];omega)) (by rw[hvo q hq];omega))
 have hr3:=(hk3.block (w.heap.size+1) (by omega) (by rw[hc0 (w.heap.size+1) (by omega)];omega)).trans hr1;have HT3:=hW_ hT3;have HK3:=hW_ (And.intro hk3 (And.intro hr3 (And.intro hx3 ho3)));have HP:=hW_ hT3.pt;have HQ:=hW_ (And.intro htb hs3);have HW3:=hW_ hw3;obtain⟨z0,z1,z2,z3,z4,z5,z6,z7,z8,z9,za,zf⟩:=B7 hbx.box;obtain⟨d0,d1,d2,d3,d4,d5,d6,d7,d8,d9,da,df⟩:=B7 hx2;have dg:=df;clear hbx htx hto hso hsv hvo hs1 hr1 htb hlt hc0 hH1 hnt hx2 hk3 hs3 ho3 hx3 hT3 hr3 ho2 hv2 hk2 z0 z1 z2 z3 z4 z5 z6 z7 z8 z9 za zf c1 c5;obtain⟨o3,hp3,-⟩:=HP.out;have hat:=fun W (hW:Below w3.heap.size w3 W)=>O4 (hp3.stay (hW.block _ hp3.lt) (fun ad e h0=>hW.block _ (hp3.olt ad e h0)))
 have htk:=fun W (hW:Below w3.heap.size w3 W)=>zR (hp3.stay (hW.block _ hp3.lt) (fun ad e h0=>hW.block _ (hp3.olt ad e h0)))
 have HAT:=hW_ hat;have HTK:=hW_ htk;obtain⟨e0,e1,e2⟩:=bC HK3.out.2.1;have efz:∀o,w3.frozen? ⟨w.heap.size+1,o,none⟩=false:=fun o=>by have:=HK3.out.2.1;simp[World.frozen?,this]
 obtain⟨y0,y1,y2,y3,y4,y5,y6,y7,y8,y9,ya,yf⟩:=B7 HK3.out.2.2.1.box;obtain⟨va,vc,hve,hsl⟩:=HK3.out.2.2.2.sl;subst hve;have fin:dA (fun q=>col q=2\/col q=7) w w3:=(dA.of_below HB1.out).trans HK3.out.1;have FIN:=hW_ fin;have hz0:col (w.heap.size+1)=0:=HS1.out.2.2.2.2 _ (by omega);clear fin;rcases List.eq_nil_or_concat S' with he | ⟨M,s9,he⟩
 ·subst he;clear hp3 hat htk hsl HD;go_wp2_with (fail);rw[show w2.setCell ⟨tb,5,none⟩ (.slice va 0 vc)=w3 from HW3.out]
  go_region_with (first
   | (go_at_call 60;refine(HAT.out _ (by first | exact Below.refl _ _ | exact(Below.refl _ _).drew | exact bA (Below.refl _ _) _)).mono ?_;rintro E w9 ⟨rfl,rfl⟩)
   | (go_at_call 85;refine(HTK.out _ (by first | exact Below.refl _ _ | exact(Below.refl _ _).drew | exact bA (Below.refl _ _) _)).mono ?_;rintro E w9 ⟨rfl,rfl⟩))
  all_goals go_wp2_with (fail)
  all_goals(
   refine bodyPost_ret (v:=stV ⟨a,t,0⟩) ?_ rfl ⟨rfl,?_,?_⟩
   ·simp[results,Tryz.results78,go_sem,stV,e0,e1,e2]
   ·exact HT3.out.keeps (Z:=fun q=>q=w.heap.size+1) (((((dA.refl (fun q=>q=w.heap.size+1) w3).set (p:=⟨w.heap.size+1,0,none⟩) rfl _).set (p:=⟨w.heap.size+1,1,none⟩) rfl _).set (p:=⟨w.heap.size+1,2,none⟩) rfl _).drew) (fun q hq=>by rw[hq];exact hz0)
   ·exact(((FIN.out.setNew (p:=⟨w.heap.size+1,0,none⟩) (Nat.le_succ _) _).setNew (p:=⟨w.heap.size+1,1,none⟩) (Nat.le_succ _) _).setNew (p:=⟨w.heap.size+1,2,none⟩) (Nat.le_succ _) _).drew)
 ·subst he;have hlM:(M.concat s9).length=M.length+1:=by simp
  have hlast:wJ (M.concat s9) a t=s9:=by unfold wJ;simp
  rw[hlM]at hsl |-;obtain⟨b,of,rfl,hce⟩:=hsl.elem Stp.enc_len (by omega) (k:=M.length) (x:=s9) (by simp);have f0:=hce 0 _ rfl;have f1:=hce 1 _ rfl;have f2:=hce 2 _ rfl;rw[Nat.add_zero]at f0;rw[<-HW3.out,hlM]at f0 f1 f2 e0 e1 e2;have efz2:=efz;rw[<-HW3.out,hlM]at efz2;have gn:decide (((M.length+1:Nat):Int)>0)=true:=by simp
  have gn2:(0:Int)<((M.length:Nat):Int)+1:=by omega
  have hwn:wrap64 (M.length:Int)=(M.length:Int):=wrapN (by have:=HML.out;simp at this;omega);have gi:(M.length:Int)<(M.length:Int)+1:=by omega
  have HLS:=hW_ hlast;clear hp3 hat htk hsl HD hce hlast;have hww:w2.setCell ⟨tb,5,none⟩ (.slice (some ⟨b,of,none⟩) (M.length+1) vc)=w3:=by have:=HW3.out;rw[hlM]at this;exact this
  have HWW:=hW_ hww;clear hww hlM;go_wp2_with (fail);rw[HWW.out];rw[HWW.out]at e0 e1 e2;refine bodyPost_ret (v:=stV s9) ?_ rfl ⟨by rw[HLS.out],?_,?_⟩
  ·simp[results,Tryz.results78,go_sem,stV,e0,e1,e2]
  ·exact HT3.out.keeps (Z:=fun q=>q=w.heap.size+1) ((((dA.refl (fun q=>q=w.heap.size+1) w3).set (p:=⟨w.heap.size+1,0,none⟩) rfl _).set (p:=⟨w.heap.size+1,1,none⟩) rfl _).set (p:=⟨w.heap.size+1,2,none⟩) rfl _) (fun q hq=>by rw[hq];exact hz0)
  ·exact((FIN.out.setNew (p:=⟨w.heap.size+1,0,none⟩) (Nat.le_succ _) _).setNew (p:=⟨w.heap.size+1,1,none⟩) (Nat.le_succ _) _).setNew (p:=⟨w.heap.size+1,2,none⟩) (Nat.le_succ _) _
theorem infoPlr:(Tryz.prog.info? 140).map (fun i=>(i.zero.map (·.cells.size),i.size,i.bytes))=some (some 2,2,16):=by kernel_rfl
theorem plE_one1 (x:Int×Int):∀v∈plE x,v.oneCell'=true:=by intro v hv;simp[plE]at hv;rcases hv with rfl | rfl<;>rfl
theorem Z2 (c:Nat) (w:World):
  Calls Tryz.prog 143 #[.slice none 0 c] w fun e w'=>∃v,e= .returned v/\iA plE 2 140 w' w.heap.size v []/\Below w.heap.size w w':=by
 have hsn:=fun w=>Lib.run_eql_slice_nil (P:=Tryz.prog) w 185 140 none 0 c 0 0 Tryz.underlying185
 go_enter Tryz.func143,Tryz.ntmps143;go_wp2;go_ret;exact⟨_,rfl,iA.nil _ _,Below.refl _ _⟩
theorem aX {S:List (Int×Int)} {ad:Addr} {n c:Nat} (w:World) (hS:SlF 2 w (some ad) n c (flat plE S)) (hn:n<=1048576):
  Calls Tryz.prog 143 #[.slice (some ad) n c] w fun e w'=>∃v,e= .returned v/\iA plE 2 140 w' w.heap.size v S/\Below w.heap.size w w':=by
 obtain⟨i0,z0,hi,hz0,hz1,hz2,hz3⟩:=B6 infoPlr;have hsn:=fun w=>Lib.run_eql_slice_nil (P:=Tryz.prog) w 185 140 (some ad) n c 0 0 Tryz.underlying185
 have hown:iA plE 2 140 (w.alloc (.cells #[] 140)) w.heap.size (.slice (some ⟨w.heap.size,0, .none⟩) 0 0) []:=iA.made0 w;have hA2:=hS.alloc (.cells #[] 140);go_enter Tryz.func143,Tryz.ntmps143;go_wp2_with (at_builtin;go_loud (refine kA rfl _ _ 185 rfl i0 z0 16 Tryz.underlying185 hi hz0 hz1 hz2 hz3 lC (by omega) plE_one1 rfl hown rfl hA2 (by unfold maxLen;simp only[List.length_nil];omega) (by simp only[List.length_nil];omega) (by simp) ?_));intro v' w' ho hg hb;go_wp2;go_ret;exact⟨_,rfl,by simpa using ho,(aA w _).trans hb⟩
theorem T8 {S:List (Int×Int)} {ao:Option Addr} {n c:Nat} (w:World) (hS:SlF 2 w ao n c (flat plE S)) (hn:n<=1048576):
  Calls Tryz.prog 143 #[.slice ao n c] w fun e w'=>∃v,e= .returned v/\iA plE 2 140 w' w.heap.size v S/\Below w.heap.size w w':=by
 cases ao with
 | some ad=>exact aX w hS hn
 | none=>
  have hc:=hS.nil rfl;have h0:n=0:=by have:=hS.le;omega
  subst h0;have:S= []:=List.eq_nil_of_length_eq_zero (hS.count lC (by omega));subst this;exact Z2 c w
theorem cW {w:World} {base g:Nat} {from_:Int} {L:List (Int×Int)} (h:RgV w base g from_ L) (hbase:base<=w.heap.size):
  Calls Tryz.prog 104 #[.pointer (some ⟨g,0,none⟩)] w fun E w'=>∃g',E= .returned (.pointer (some ⟨g',0,none⟩))/\w.heap.size<=g'/\RgQ w' base g' from_ L (fun q=>w.heap.size<=q)/\Below w.heap.size w w':=by
 obtain⟨o,m,c,hh,B,hb,hat⟩:=h;obtain⟨n,hn⟩:∃n,L.length=n:=⟨_,rfl⟩;rw[hn]at hb;have hsl:=hb.slf;obtain⟨c0,c1,c2,c3,c4,cf⟩:=uC hb.box;obtain⟨w1,hw1⟩:∃w1,w.alloc (.cells #[.slice o m c, .int .i64 hh, .int .i64 n, .int .i64 from_, .int .i64 1048576] 187)=w1:=⟨_,rfl⟩;have hb1:Below w.heap.size w w1:=hw1▸aA w _;have hs1:w1.heap.size=w.heap.size+1:=by rw[<-hw1];simp
 have hx1:w1.heap[w.heap.size]?=some (.cells #[.slice o m c, .int .i64 hh, .int .i64 n, .int .i64 from_, .int .i64 1048576] 187):=by rw[<-hw1];exact heap_alloc_new w _
 have hCl:=T8 w1 (hsl.below hb1) hb.most;obtain⟨d0,d1,d2,d3,d4,df⟩:=uC hx1;rw[<-hw1]at d0;have k0:=eA (aA w (.cells #[.slice o m c, .int .i64 hh, .int .i64 n, .int .i64 from_, .int .i64 1048576] 187)) _ _ c0;have HCL:=hW_ hCl;have HB:=hW_ hb;have HW1:=hW_ hw1;have HX:=hW_ (And.intro hx1 (And.intro hs1 (And.intro hb1 (And.intro hn hat))));clear hb hsl hw1 hx1 hs1 hb1 hCl hn hat d1 d2 d3 d4 df;go_enter Tryz.func104,Tryz.ntmps104;go_wp2_with (fail);rw[HW1.out];refine HCL.out.mono ?_
 rintro E w2 ⟨v,rfl,ho,hb2⟩;obtain⟨hx1,hs1,hb1,hn,hat⟩:=HX.out;obtain⟨va,vc,rfl,hsv⟩:=ho.sl;rw[HB.out.len]at hsv |-;have hx2:=(hb2.block w.heap.size (by omega)).trans hx1;obtain⟨e0,e1,e2,e3,e4,ef⟩:=uC hx2;have eg:=fun o=>Option.some.inj (ef o)
 have HX2:=hW_ (And.intro hx2 (And.intro ho (And.intro hb2 hsv)));clear hx1 hs1 hb1 hn hat hsv hx2 ho hb2 ef d0 k0;go_wp2_with (fail);go_ret;obtain⟨hx1,hs1,hb1,hn,hat⟩:=HX.out;obtain⟨hx2,ho,hb2,hsv⟩:=HX2.out;have hbb:=HB.out;have hlo:∀q,(Value.slice va m vc).ownBlock=some q->w1.heap.size<=q/\q<w2.heap.size:=fun q hq=>World.ownsRow.lt ho q (by rw[hbb.len];exact hq)
 refine⟨w.heap.size,rfl,Nat.le_refl _,⟨va,m,vc,hh,B,⟨?_,?_,hbb.len,fun e=>by have:=(hlo _ e).1;omega,hbase,hbb.hd,by rw[hn];exact hbb.fits,hbb.most⟩,hat,Nat.le_refl _,fun q e=>by have:=(hlo q e).1;show w.heap.size<=q;omega⟩,?_⟩
 ·rw[hn];exact rA (i:=0) hx2
 ·have h9:iA plE 2 140 w2 base (.slice va m vc) B:=by have:=ho.mono (base':=base) (by omega);rw[hbb.len]at this;exact this
  exact jA h9 (fun q hq=>cA (by have:=(hlo q hq).1;omega))
 ·exact(hb1.trans (hb2.mono hb1.size)).setCell (p:=⟨w.heap.size,0,none⟩) (Nat.le_refl _) _
theorem lX {w:World} {base g eb rb:Nat} {L:List (Int×Int)} {bs st keep com:Int} (h:xQ w base g eb rb L bs st keep com) (hbase:base<=w.heap.size):
  Calls Tryz.prog 62 #[.pointer (some ⟨g,0,none⟩)] w fun E w'=>∃g' eb' rb',E= .returned (.pointer (some ⟨g',0,none⟩))/\rD w' base g' eb' rb' L bs st keep com (fun q=>w.heap.size<=q/\q≠g'/\q≠eb')/\w.heap.size<=g'/\w.heap.size<=eb'/\Below w.heap.size w w':=by
 obtain⟨c0,c1,c2,c3,cf⟩:=eH h.box;obtain⟨e0,e1,ef⟩:=iF h.ev;obtain⟨w1,hw1⟩:∃w1,w.alloc (.cells #[.int .i64 bs, .int .i64 st] 163)=w1:=⟨_,rfl⟩;have hb1:Below w.heap.size w w1:=hw1▸aA w _;have hs1:w1.heap.size=w.heap.size+1:=by rw[<-hw1];simp
 have hx1:w1.heap[w.heap.size]?=some (.cells #[.int .i64 bs, .int .i64 st] 163):=by rw[<-hw1];exact heap_alloc_new w _
 have h1:=h.below hb1;obtain⟨d0,d1,d2,d3,df⟩:=eH h1.box;have HRC:=hW_ (fun W (hW:Below w1.heap.size w1 W)=>cW (h1.row.below hW) (by have:=hW.size;omega));have HW1:=hW_ hw1;have HX:=hW_ (And.intro hx1 (And.intro hs1 (And.intro hb1 h.bd)));have G1:=fun w' (hg:Below w1.heap.size w1 w')=>eA hg _ _ d1
 have G2:=fun w' (hg:Below w1.heap.size w1 w')=>eA hg _ _ d2
 have G3:=fun w' (hg:Below w1.heap.size w1 w')=>eA hg _ _ d3
 have br:=Below.refl w1.heap.size w1;clear h h1 hw1 hx1 hb1 hs1 d0 df ef cf;go_enter Tryz.func62,Tryz.ntmps62;go_wp2_with (fail);rw[HW1.out]
 go_region_held3 (Below w1.heap.size w1) (first | (with_reducible assumption) | exact br.drew | exact bA br _ | exact hz2.alloc hz2.size _) ((go_at_call 104;refine(HRC.out _ (by first | exact br | exact br.drew | exact bA br _)).mono ?_;rintro E w2 ⟨rb',rfl,hr1,hr2,hb2⟩;have hz2:Below w1.heap.size w1 w2:=(bA br _).trans hb2;have HR2:=hW_ (And.intro hr1 (And.intro hr2 hz2));clear hr1 hr2 hb2))
 go_wp2_with (fail);go_ret;obtain⟨hr1,hr2,hz2⟩:=HR2.out;have hr1:w1.heap.size<=rb':=hr1;obtain⟨hx1,hs1,hb1,hbd⟩:=HX.out;have hs2:=hz2.size;have hal:=aA w2 (.cells #[.pointer (some ⟨w.heap.size,0,none⟩), .pointer (some ⟨rb',0,none⟩), .int .i64 keep, .int .i64 com] 138);have hrl:rb'<w2.heap.size:=by
  obtain⟨o,m,c,hh,B,hb,-⟩:=hr2;exact(Array.getElem?_eq_some_iff.1 hb.box).1
 have hq:RgQ w2 base rb' bs L (fun q=>w.heap.size<=q/\q≠w2.heap.size/\q≠w.heap.size):=by
  obtain⟨o,m,c,hh,B,hb,hat,hg,hqq⟩:=hr2;have hg:w1.heap.size<=rb':=hg;refine⟨o,m,c,hh,B,hb,hat,⟨by omega,by omega,by omega⟩,fun q e=> ?_⟩;have h1:w1.heap.size<=q:=hqq q e;have h2:=(World.ownsRow.lt hb.own q e).2;exact⟨by omega,by omega,by omega⟩
 refine⟨w2.heap.size,w.heap.size,rb',rfl,⟨⟨heap_alloc_new w2 _,(hal.block _ (by omega)).trans ((hz2.block _ (by omega)).trans hx1),hr2.v.below hal,⟨by omega,hbase,by omega,by omega,by omega⟩,hbd⟩,hq.below hal,⟨fun e=>e.2.1 rfl,fun e=>e.2.2 rfl⟩⟩,by omega,Nat.le_refl _,hb1.trans ((hz2.trans (hal.mono hs2)).mono hb1.size)⟩
theorem rgNew2 (w:World) (base:Nat) (hb:base<=w.heap.size):Calls Tryz.prog 102 #[.int .i64 1048576] w fun E w'=>E= .returned (.pointer (some ⟨w.heap.size,0,none⟩))/\RgQ w' base w.heap.size 0 [] (fun q=>q=w.heap.size)/\Below w.heap.size w w':=by
 go_enter Tryz.func102,Tryz.ntmps102;go_wp2_with (fail);go_ret;exact⟨rfl,⟨none,0,0,0,[],⟨by rw[heap_alloc_new];rfl,iA.nil _ _,rfl,by simp[Value.ownBlock],hb, .inl rfl,by simp,by omega⟩,fun i hi=>by simp at hi,rfl,fun q e=>by simp[Value.ownBlock]at e⟩,aA w _⟩
theorem wNew2 (w:World) {base keep:Nat} (hb:base<=w.heap.size) (hk:keep<=4096):Calls Tryz.prog 57 #[.int .i64 keep] w fun E w'=>∃g eb rb,E= .returned (.pointer (some ⟨g,0,none⟩))/\rD w' base g eb rb [] 0 0 keep 0 (fun q=>q=rb)/\w.heap.size<=g/\w.heap.size<=eb/\w.heap.size<=rb/\Below w.heap.size w w':=by
 have g1:decide ((keep:Int)<0)=false:=decide_eq_false (by omega);have g2:decide ((keep:Int)>4096)=false:=by simp;omega
 have g3:decide ((4096:Int)<(keep:Int))=false:=by simp;omega
 have g4:¬4096<keep:=by omega
 have HB:=hW_ hb;clear hk hb;go_enter Tryz.func57,Tryz.ntmps57;go_wp2_with (fail);refine(rgNew2 _ base (by simp;have:=HB.out;omega)).mono ?_
 rintro E w1 ⟨rfl,hr,hb⟩;have HR:=hW_ (And.intro hr hb);clear hr hb;go_wp2_with (fail);go_ret;obtain⟨hr,hb⟩:=HR.out;have hbs:=HB.out;have h2:=hb.size;simp only[World.size_alloc]at h2 hr;have hx:(w.alloc (.cells #[.int .i64 0, .int .i64 0] 163)).heap[w.heap.size]?=_:=heap_alloc_new w _
 have hb1:Below w.heap.size w w1:=(aA w _).trans (hb.mono (by simp));have hrb:w.heap.size+1<w1.heap.size:=by
  obtain⟨o,m,c,hh,B,hbx,-⟩:=hr;exact(Array.getElem?_eq_some_iff.1 hbx.box).1
 have hal:=aA w1 (.cells #[.pointer (some ⟨w.heap.size,0,none⟩), .pointer (some ⟨w.heap.size+1,0,none⟩), .int .i64 keep, .int .i64 0] 138);refine⟨w1.heap.size,w.heap.size,w.heap.size+1,by simp,⟨⟨heap_alloc_new w1 _,(hal.block _ (by omega)).trans ((hb.block _ (by simp)).trans hx),hr.v.below hal,⟨by omega,hbs,by omega,by omega,by omega⟩,by omega⟩,hr.below hal,⟨fun e=>by omega,fun e=>by omega⟩⟩,by omega,Nat.le_refl _,by omega,hb1.trans (hal.mono hb1.size)⟩
theorem wNewNo (w:World) {keep:Int} (hk:¬(0<=keep/\keep<=4096)):Calls Tryz.prog 57 #[.int .i64 keep] w fun E w'=>E= .returned (.pointer none)/\w'=w:=by
 by_cases h:keep<0
 ·have g1:decide (keep<0)=true:=decide_eq_true h;clear hk;go_enter Tryz.func57,Tryz.ntmps57;go_wp2_with (fail);go_ret;exact⟨rfl,rfl⟩
 ·have g1:decide (keep<0)=false:=decide_eq_false h;have g2:decide (keep>4096)=true:=decide_eq_true (by omega);have g3:decide (4096<keep)=true:=decide_eq_true (by omega);clear hk;go_enter Tryz.func57,Tryz.ntmps57;go_wp2_with (fail);go_ret;exact⟨rfl,rfl⟩
theorem yV (w : World) {c : Option Addr} {keep depth most : Int} (h : c = none \/ ¬ ((0 <= keep /\ keep <= 4096) /\ (0 <= depth /\ depth <= 64) /\ (0 <= most /\ most <= 65536))) (hc : ∀ ad, c = some ad -> ∃ g, ad = ⟨g, 0, none⟩) :
    Calls Tryz.prog 24 #[.pointer c, .int .i64 keep, .int .i64 depth, .int .i64 most] w fun E w' => E = .returned (.tuple #[.pointer none, .int .i64 1]) /\ Below w.heap.size w w' := by
  by_cases hk : 0 <= keep /\ keep <= 4096
  have HN : Hid (Calls Tryz.prog 57 #[.int .i64 keep] w fun E w' => ∃ p, E = .returned (.pointer p) /\ (∃ g, p = some ⟨g, 0, none⟩) /\ Below w.heap.size w w') := hW_ (by
    obtain ⟨k, rfl⟩ : ∃ k : Nat, keep = k := ⟨keep.toNat, by omega⟩;refine (wNew2 w (base := w.heap.size) (Nat.le_refl _) (keep := k) (by omega)).mono ?_
    rintro E w1 ⟨g, eb, rb, rfl, -, -, -, -, hb1⟩;exact ⟨_, rfl, ⟨g, rfl⟩, hb1⟩)
  rotate_left;have HN : Hid (Calls Tryz.prog 57 #[.int .i64 keep] w fun E w' => ∃ p, E = .returned (.pointer p) /\ p = none /\ Below w.heap.size w w') := hW_ ((wNewNo w hk).mono (by
    rintro E w1 ⟨rfl, rfl⟩;exact ⟨_, rfl, rfl, Below.refl _ _⟩))
  all_goals
    cases c
    all_goals
      try obtain ⟨cg, rfl⟩ := hc _ rfl
      have h2 := h.resolve_left;clear h hc;go_enter Tryz.func24, Tryz.ntmps24;go_wp2_with (go_at_call 57; refine HN.out.mono ?_; rintro E w1 ⟨p, rfl, hp, hb1⟩; have HB1 := hW_ hb1; clear hb1; first | (obtain ⟨g, rfl⟩ := hp) | subst hp)
      all_goals first
        | (refine bodyPost_ret (v := .tuple #[.pointer none, .int .i64 1]) ?_ rfl ⟨rfl, HB1.out⟩
           simp [results, Tryz.results24, go_sem]
           done)
        | (exfalso
           have h3 := h2 (by simp)
           try simp only [decide_eq_true_eq, decide_eq_false_iff_not] at *
           omega)
def lJ (P:Nat->Prop) [DecidablePred P] (n tb pb wb eb rb:Nat) (q:Nat):Nat:=
 if q<n then(if P q then 1 else 0)else if q=tb then 2 else if q=pb then 3 else if q=wb\/q=eb\/q=rb then 5 else 0
theorem slnil (w:World):SlI w none 0 0 []:=⟨rfl,Nat.le_refl _,by unfold maxLen;omega,fun _=>rfl,fun i u hu=>by simp at hu⟩
theorem lP (w:World) {base g:Nat} {V:Vc} {N:List ByteArray} {kind:Int} {T:List Rg} {room cnt:Int} {P:Nat->Prop} (h:Cdr w base g V N kind T room cnt P) (hb:base<=w.heap.size) {keep:Nat} {depth most:Int} (hk:keep<=4096) (hd:0<=depth/\depth<=64) (hm:0<=most/\most<=65536):
  Calls Tryz.prog 24 #[.pointer (some ⟨g,0,none⟩), .int .i64 keep, .int .i64 depth, .int .i64 most] w fun E w'=>∃tb pb wb Q col,E= .returned (.tuple #[.pointer (some ⟨tb,0,none⟩), .int .i64 0])/\
   gE w' base tb g pb wb V N kind T room cnt P Q col [] [] 0 0 0 0 0 keep false [] [] depth most/\Below w.heap.size w w'/\(∀q,q<w.heap.size->(¬P q->col q=0)):=by
 have g1:decide (depth<0)=false:=decide_eq_false (by omega);have g2:decide (depth>64)=false:=decide_eq_false (by omega);have g2':decide (64<depth)=false:=decide_eq_false (by omega);have g3:decide (most<0)=false:=decide_eq_false (by omega);have g4:decide (most>65536)=false:=decide_eq_false (by omega);have g4':decide (65536<most)=false:=decide_eq_false (by omega);have HN:=hW_ (wNew2 w hb (keep:=keep) hk);have HC:=hW_ (And.intro h hb);clear h hk hd hm hb;go_enter Tryz.func24,Tryz.ntmps24;go_wp2_with (go_at_call 57;refine HN.out.mono ?_;rintro E w1 ⟨wb,eb,rb,rfl,hw1,hw2,hw3,hw4,hb1⟩;have HW:=hW_ (And.intro hw1 (And.intro hw2 (And.intro hw3 (And.intro hw4 hb1))));clear hw1 hw2 hw3 hw4 hb1);refine(aAQ g w1).mono ?_
 rintro E w2 ⟨rfl,hp⟩;have HP:=hW_ hp;clear hp;go_wp2_with (fail);refine bodyPost_ret (v:= .tuple #[.pointer (some ⟨w2.heap.size,0,none⟩), .int .i64 0]) ?_ rfl ?_
 ·simp[results,Tryz.results24,go_sem]
 obtain⟨h,hb⟩:=HC.out;obtain⟨hw,h1,h2,h3,hb1⟩:=HW.out;have hp:=HP.out;have hl:=hw.lt;have hs2:w2.heap.size=w1.heap.size+1:=by rw[hp];simp
 have hrb:rb<w1.heap.size:=by
  obtain⟨o,m,c,hh,B,hbx,-⟩:=hw.rq;exact(Array.getElem?_eq_some_iff.1 hbx.box).1
 have hb2:Below w1.heap.size w1 w2:=hp▸aA w1 _;obtain⟨w3,hw3⟩:∃w3,w2.alloc (.cells #[.pointer (some ⟨g,0,none⟩), .pointer (some ⟨w1.heap.size,0,none⟩), .pointer (some ⟨wb,0,none⟩), .int .i64 0, .slice none 0 0, .slice none 0 0, .slice none 0 0, .int .i64 depth, .int .i64 most, .int .i64 0, .bool false] 85)=w3:=⟨_,rfl⟩;have hb3:Below w2.heap.size w2 w3:=hw3▸aA w2 _;have hs3:w3.heap.size=w2.heap.size+1:=by rw[<-hw3];simp
 have hx2:w2.heap[w1.heap.size]?=some (.cells #[.pointer (some ⟨g,0,none⟩), .slice none 0 0, .int .i64 0, .int .i64 0, .bool false] 147):=by rw[hp];exact heap_alloc_new w1 _
 have hx3:w3.heap[w2.heap.size]?=some (.cells #[.pointer (some ⟨g,0,none⟩), .pointer (some ⟨w1.heap.size,0,none⟩), .pointer (some ⟨wb,0,none⟩), .int .i64 0, .slice none 0 0, .slice none 0 0, .slice none 0 0, .int .i64 depth, .int .i64 most, .int .i64 0, .bool false] 85):=by rw[<-hw3];exact heap_alloc_new w2 _
 have hB:Below w.heap.size w w3:=hb1.trans ((hb2.mono hb1.size).trans (hb3.mono (Nat.le_trans hb1.size (by omega))));have hs1:=hb1.size
 haveI:DecidablePred P:=fun _=>Classical.propDecidable _
 rw[hw3];have hlo:∀q,P q->q<w.heap.size:=fun q hq=>(h.lt q hq).2
 refine⟨_,w1.heap.size,wb,_,lJ P w.heap.size w2.heap.size w1.heap.size wb eb rb,rfl,⟨h.below hB,⟨none,⟨0,(hb3.block _ (by omega)).trans hx2,slnil _⟩,fun ad e=>by simp at e⟩,⟨eb,rb,(hw.below hb2).below hb3,?_⟩,⟨none,0, .slice none 0 0, .slice none 0 0,⟨hx3⟩,slnil _,fun ad e=>by simp at e,iA.nil _ _,fun q e=>(by cases e),Own.nil _ _,fun q e=>(by cases e)⟩,?_,?_,?_,⟨?_,?_⟩,?_⟩,hB,?_⟩
 ·simp only[lJ];rw[if_neg (by omega),if_neg (by omega),if_neg (by omega),if_pos (by simp)]
 ·intro q hq;simp only[lJ];rw[if_pos (hlo q hq),if_pos hq]
 ·simp only[lJ];rw[if_neg (by omega),if_pos (by simp)]
 ·simp only[lJ];rw[if_neg (by omega),if_neg (by omega),if_pos (by simp)]
 ·simp only[lJ];rw[if_neg (by omega),if_neg (by omega),if_neg (by omega),if_pos (by simp)]
 ·intro q hq;obtain rfl:q=rb:=hq;simp only[lJ];rw[if_neg (by omega),if_neg (by omega),if_neg (by omega),if_pos (by simp)]
 ·intro q hq;simp only[lJ];rw[if_neg (by omega),if_neg (by omega),if_neg (by omega),if_neg (by omega)]
 ·intro q hq hp;simp only[lJ];rw[if_pos hq,if_neg hp]
theorem tkDone {w:World} {base tb g pb wb:Nat} {V:Vc} {N:List ByteArray} {kind:Int} {T:List Rg} {room cnt:Int} {P Q:Nat->Prop} {col:Nat->Nat} {A W:List Int} {f a t bs st keep:Nat} {e:Bool} {S:List Stp} {Sv:List Int} {depth most:Int}
  (h:gE w base tb g pb wb V N kind T room cnt P Q col A W f a t bs st keep e S Sv depth most):
  Calls Tryz.prog 29 #[.pointer (some ⟨tb,0,none⟩)] w fun E w'=>E= .returned (.int .i64 a)/\w'=w:=by
 obtain⟨xo,tc,sv,vv,hb,-⟩:=h.box;obtain⟨o,hp,-⟩:=h.pt;obtain⟨c0,c1,c2,c3,c4,c5,c6,c7,c8,c9,ca,cf⟩:=B7 hb.box;have HA:=hW_ (O4 hp);clear h hb hp;go_enter Tryz.func29,Tryz.ntmps29;go_wp2_with (fail);refine HA.out.mono ?_
 rintro E w' ⟨rfl,rfl⟩;go_wp2_with (fail);go_ret;exact⟨rfl,rfl⟩
theorem tkWindow {w:World} {base tb g pb wb:Nat} {V:Vc} {N:List ByteArray} {kind:Int} {T:List Rg} {room cnt:Int} {P Q:Nat->Prop} {col:Nat->Nat} {A W:List Int} {f a t bs st keep:Nat} {e:Bool} {S:List Stp} {Sv:List Int} {depth most:Int}
  (h:gE w base tb g pb wb V N kind T room cnt P Q col A W f a t bs st keep e S Sv depth most) (hbase:base<=w.heap.size):
  Calls Tryz.prog 32 #[.pointer (some ⟨tb,0,none⟩)] w fun E w'=>∃g' eb' rb',E= .returned (.pointer (some ⟨g',0,none⟩))/\rD w' base g' eb' rb' (plc V N st (W.drop bs)) bs st keep t (fun q=>w.heap.size<=q/\q≠g'/\q≠eb')/\w.heap.size<=g'/\w.heap.size<=eb'/\Below w.heap.size w w':=by
 obtain⟨xo,tc,sv,vv,hb,-⟩:=h.box;obtain⟨eb,rb,hw,-⟩:=h.win;obtain⟨c0,c1,c2,c3,c4,c5,c6,c7,c8,c9,ca,cf⟩:=B7 hb.box;have HA:=hW_ (lX hw.b hbase);clear h hb hw hbase;go_enter Tryz.func32,Tryz.ntmps32;go_wp2_with (fail);refine HA.out.mono ?_
 rintro E w' ⟨g',eb',rb',rfl,h1⟩;have H1:=hW_ h1;clear h1;go_wp2_with (fail);go_ret;exact⟨g',eb',rb',rfl,H1.out⟩
end Go.Proofs.YtahiballegpbgaaGreatDoor
