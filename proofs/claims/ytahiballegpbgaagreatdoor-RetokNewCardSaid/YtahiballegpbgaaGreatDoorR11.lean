/- Walk: heap.down over the pile. -/
import Derived.Test.YtahiballegpbgaaGreatDoorR10
import Derived.Deep.RegionWith
set_option linter.unusedVariables false
set_option maxHeartbeats 2000000
set_option maxRecDepth 100000
namespace Go.Proofs.YtahiballegpbgaaGreatDoor
open Go.RowKit Go.ChangeMaps
structure bT (w:World) (base g mb:Nat) (v:Value) (L:List Ent) (n i0 k:Nat) (wr:World) (L':List Ent):Prop where
 pile:aB wr base g mb v L'
 heap:nO L' n k (i0<k)
 lo:i0<=k
 same:k=i0->L'=L
 rest:pI L L' n
 trod:Trod w wr g mb v v
structure DownE (w:World) (base g mb:Nat) (v:Value) (L:List Ent) (n i0:Nat) (t:Bool) (wr:World) (L':List Ent):Prop where
 pile:aB wr base g mb v L'
 yes:t=true->pE L' n
 no:t=false->L'=L/\fQ L n i0
 rest:pI L L' n
 trod:Trod w wr g mb v v
theorem bT.stop {w wr w1:World} {base g mb:Nat} {v:Value} {L L':List Ent} {n i0 k:Nat} (h:bT w base g mb v L n i0 k wr L') (hb:Below wr.heap.size wr w1) (hs:∀c,0<c->c<n->par c=k->¬(en L' c).less (en L' k)=true):DownE w base g mb v L n i0 (decide (i0<k)) w1 L':=by
 obtain⟨h1,h2⟩:=aDZ h.heap hs;refine⟨h.pile.below hb,fun e=>h1 (by simpa using e),fun e=> ?_,h.rest,h.trod.trans (Trod.of hb)⟩;have e2:k=i0:=by have:=h.lo;simp at e;omega
 have e3:=h.same e2;subst e3;rw[<-e2];exact⟨rfl,h2⟩
theorem bT.step {w wr w1 w2:World} {base g mb:Nat} {v:Value} {L L':List Ent} {n i0 k j:Nat} (h:bT w base g mb v L n i0 k wr L') (hn:n<=L.length) (hj:j<n) (hp:par j=k) (hj0:0<j)
  (hm:∀c,0<c->c<n->par c=k->¬(en L' c).less (en L' j)=true) (hs:(en L' j).less (en L' k)=true) (hb:Below wr.heap.size wr w1) (hP:aB w2 base g mb v (swp L' k j)) (hT:Trod w1 w2 g mb v v):bT w base g mb v L n i0 j w2 (swp L' k j):=by
 have hl:=h.rest.len;have hlt:=nD hj0;have hlo:=h.lo;have hd:=aEa h.heap hj (by omega) hj0 hp hm hs;exact⟨hP,⟨fun c c0 hc h1 _=>hd.ok c c0 hc h1 (fun _=>trivial),hd.kid⟩,by omega,fun e=>by omega,h.rest.trans (pI.swp (by omega) hj (by omega)),(h.trod.trans (Trod.of hb)).trans hT⟩
def DownP (w:World) (base g mb:Nat) (v:Value) (L:List Ent) (n i0:Nat) (e:Ending) (w':World):Prop:=∃t L',e= .returned (.bool t)/\DownE w base g mb v L n i0 t w' L'
theorem xM {base g mb:Nat} {v:Value} {L:List Ent} (n i0:Nat) (w:World) (h:aB w base g mb v L) (hi:i0<=n) (hn:n<=L.length) (hD:nO L n i0 False):
  Calls Tryz.prog 245 #[.iface 291 (.pointer (some ⟨g,0,none⟩)), .int .i64 i0, .int .i64 n] w (DownP w base g mb v L n i0):=by
 have hsm:=h.small;have H0:Hid (bT w base g mb v L n i0 i0 w L):=hW_ ⟨h,⟨fun k k0 hk h1 h2=>hD.ok k k0 hk h1 (fun e=>by have:=h2 e;omega),hD.kid⟩,Nat.le_refl _,fun _=>rfl,pI.refl L n,Trod.of (Below.refl _ _)⟩;have ml:=m_less;have ms:=mW;clear h hD;go_enter Tryz.func245,Tryz.ntmps245;go_wp2_with (fail);go_loopw [7] (fun jv wr=>∃(k:Nat) (L':List Ent),jv= .int .i64 k/\k<=n/\Hid (bT w base g mb v L n i0 k wr L')) (fun jv _=>n-(intOf jv).toNat)
 case atStart=>exact⟨i0,L,rfl,hi,H0⟩
 case round=>
  obtain⟨k,L',rfl,hk,HI⟩:=hrel;have q1:IntKind.i64.wrap (2*(k:Int))=2*(k:Int):=by rw[IntKind.wrap_i64];omega
  have q2:IntKind.i64.wrap (2*(k:Int)+1)=2*(k:Int)+1:=by rw[IntKind.wrap_i64];omega
  have q3:IntKind.i64.wrap (2*(k:Int)+1+1)=2*(k:Int)+1+1:=by rw[IntKind.wrap_i64];omega
  have q5:¬(2*(k:Int)+1<0):=by omega
  by_cases hA:n<=2*k+1
  ·have q4:(n:Int)<=2*(k:Int)+1:=by omega
   go_wp2_with (fail);go_ret;exact⟨_,L',rfl,HI.out.stop (Below.refl _ _) (fun c c0 hc hp=>by unfold par at hp;omega)⟩
  ·obtain⟨J1,hJ1⟩:∃J1:Int,J1=2*(k:Int)+1:=⟨_,rfl⟩;obtain⟨J2,hJ2⟩:∃J2:Int,J2=J1+1:=⟨_,rfl⟩;have HJ1:=hW_ hJ1;have HJ2:=hW_ hJ2;rw[<-hJ1]at q2 q3 q5;rw[<-hJ2]at q3;have q2':IntKind.i64.wrap (2*(k:Int)+1)=J1:=by rw[<-hJ1];exact q2
   have q3':IntKind.i64.wrap (J1+1)=J2:=by rw[<-hJ2];exact q3
   have q4:¬((n:Int)<=J1):=by omega
   have q7:¬(n:Int)<=2*(k:Int)+1:=by omega
   clear q2 q3 q7;have HLS:Hid (∀(a c:Nat) (w':World),a<n->c<n->Below wr.heap.size wr w'->Calls Tryz.prog 277 #[.pointer (some ⟨g,0,none⟩), .int .i64 a, .int .i64 c] w' fun e w''=>e= .returned (.bool ((en L' a).less (en L' c)))/\Below wr.heap.size wr w''):=hW_ (fun a c w' ha hc hb=>by
    have hl:=HI.out.rest.len;exact(dK a c w' (HI.out.pile.below hb) (by omega) (by omega)).mono fun e w'' ⟨h1,h2⟩=>⟨h1,hb.trans (h2.mono hb.size)⟩)
   by_cases hB:2*k+2<n
   ·have q6:J2<(n:Int):=by omega
    clear hJ1 hJ2;obtain⟨t2,ht2⟩:∃t2,(en L' (2*k+2)).less (en L' (2*k+1))=t2:=⟨_,rfl⟩;have HT2:=hW_ ht2;have HC2:Hid (∀w',Below wr.heap.size wr w'->Calls Tryz.prog 277 #[.pointer (some ⟨g,0,none⟩), .int .i64 J2, .int .i64 J1] w' fun e w''=>e= .returned (.bool t2)/\Below wr.heap.size wr w''):=hW_ (fun w' hb=>by
     have:=HLS.out (2*k+2) (2*k+1) w' (by omega) (by omega) hb;rw[ht2,show((2*k+2:Nat):Int)=J2 by have:=HJ1.out;have:=HJ2.out;omega,show((2*k+1:Nat):Int)=J1 by have:=HJ1.out;omega]at this;exact this)
    clear ht2
    cases t2 with
    | true=>
     obtain⟨t,ht⟩:∃t,(en L' (2*k+2)).less (en L' k)=t:=⟨_,rfl⟩;have HT:=hW_ ht;have HC:Hid (∀w',Below wr.heap.size wr w'->Calls Tryz.prog 277 #[.pointer (some ⟨g,0,none⟩), .int .i64 (J2), .int .i64 k] w' fun e w''=>e= .returned (.bool t)/\Below wr.heap.size wr w''):=hW_ (fun w' hb=>by
      have:=HLS.out (2*k+2) k w' (by omega) (by omega) hb;rw[ht,show(((2*k+2:Nat)):Int)=J2 by have:=HJ1.out;have:=HJ2.out;omega]at this;exact this)
     have HSW:Hid (∀w',Below wr.heap.size wr w'->Calls Tryz.prog 280 #[.pointer (some ⟨g,0,none⟩), .int .i64 k, .int .i64 (J2)] w' fun e w''=>e= .returned (.tuple #[])/\aB w'' base g mb v (swp L' k (2*k+2))/\Trod w' w'' g mb v v):=hW_ (fun w' hb=>by
      have hl:=HI.out.rest.len;have:=sC k (2*k+2) w' (HI.out.pile.below hb) (by omega) (by omega);rw[show(((2*k+2:Nat)):Int)=J2 by have:=HJ1.out;have:=HJ2.out;omega]at this;exact this)
     have HMN:Hid (∀c,0<c->c<n->par c=k->¬(en L' c).less (en L' (2*k+2))=true):=hW_ (fun c c0 hc hp=>by
      rcases(by unfold par at hp;omega:c=2*k+1\/c=2*k+2)with rfl | rfl
      ·exact Ent.less_asymm HT2.out
      ·exact Ent.not_self _)
     clear ht
     cases t with
     | false=>
      go_wp2_with (first
       | (go_at_call_of 277 (Value.int IntKind.i64 (k:Int));refine(HC.out _ (by first | exact Below.refl _ _ | assumption)).mono ?_;rintro e w1 ⟨rfl,hb1⟩)
       | (go_at_call 277;refine(HC2.out _ (Below.refl _ _)).mono ?_;rintro e w0 ⟨rfl,hb0⟩))
      go_ret;exact⟨_,L',rfl,HI.out.stop hb1 (fun c c0 hc hp hx=>by
       have h1:=HMN.out c c0 hc hp;have h2:¬(en L' (2*k+2)).less (en L' k)=true:=by rw[HT.out];simp
       exact Ent.ge_trans h1 h2 hx)⟩
     | true=>
      go_wp2_with (first
       | (go_at_call_of 277 (Value.int IntKind.i64 (k:Int));refine(HC.out _ (by first | exact Below.refl _ _ | assumption)).mono ?_;rintro e w1 ⟨rfl,hb1⟩)
       | (go_at_call 277;refine(HC2.out _ (Below.refl _ _)).mono ?_;rintro e w0 ⟨rfl,hb0⟩)
       | (go_at_call 280;refine(HSW.out _ (by assumption)).mono ?_;rintro e w2 ⟨rfl,hP2,hT2⟩))
      go_roundw
      case rel=>exact⟨2*k+2,swp L' k (2*k+2),by have:=HJ1.out;have:=HJ2.out;congr 1<;>omega,by omega,hW_ (HI.out.step hn (by omega) (by unfold par;omega) (by omega) HMN.out HT.out hb1 hP2 hT2)⟩
      case measure=>have:=HJ1.out;have:=HJ2.out;simp[intOf];omega
    | false=>
     obtain⟨t,ht⟩:∃t,(en L' (2*k+1)).less (en L' k)=t:=⟨_,rfl⟩;have HT:=hW_ ht;have HC:Hid (∀w',Below wr.heap.size wr w'->Calls Tryz.prog 277 #[.pointer (some ⟨g,0,none⟩), .int .i64 (J1), .int .i64 k] w' fun e w''=>e= .returned (.bool t)/\Below wr.heap.size wr w''):=hW_ (fun w' hb=>by
      have:=HLS.out (2*k+1) k w' (by omega) (by omega) hb;rw[ht,show(((2*k+1:Nat)):Int)=J1 by have:=HJ1.out;have:=HJ2.out;omega]at this;exact this)
     have HSW:Hid (∀w',Below wr.heap.size wr w'->Calls Tryz.prog 280 #[.pointer (some ⟨g,0,none⟩), .int .i64 k, .int .i64 (J1)] w' fun e w''=>e= .returned (.tuple #[])/\aB w'' base g mb v (swp L' k (2*k+1))/\Trod w' w'' g mb v v):=hW_ (fun w' hb=>by
      have hl:=HI.out.rest.len;have:=sC k (2*k+1) w' (HI.out.pile.below hb) (by omega) (by omega);rw[show(((2*k+1:Nat)):Int)=J1 by have:=HJ1.out;have:=HJ2.out;omega]at this;exact this)
     have HMN:Hid (∀c,0<c->c<n->par c=k->¬(en L' c).less (en L' (2*k+1))=true):=hW_ (fun c c0 hc hp=>by
      rcases(by unfold par at hp;omega:c=2*k+1\/c=2*k+2)with rfl | rfl
      ·exact Ent.not_self _
      ·rw[HT2.out];simp)
     clear ht
     cases t with
     | false=>
      go_wp2_with (first
       | (go_at_call_of 277 (Value.int IntKind.i64 (k:Int));refine(HC.out _ (by first | exact Below.refl _ _ | assumption)).mono ?_;rintro e w1 ⟨rfl,hb1⟩)
       | (go_at_call 277;refine(HC2.out _ (Below.refl _ _)).mono ?_;rintro e w0 ⟨rfl,hb0⟩))
      go_ret;exact⟨_,L',rfl,HI.out.stop hb1 (fun c c0 hc hp hx=>by
       have h1:=HMN.out c c0 hc hp;have h2:¬(en L' (2*k+1)).less (en L' k)=true:=by rw[HT.out];simp
       exact Ent.ge_trans h1 h2 hx)⟩
     | true=>
      go_wp2_with (first
       | (go_at_call_of 277 (Value.int IntKind.i64 (k:Int));refine(HC.out _ (by first | exact Below.refl _ _ | assumption)).mono ?_;rintro e w1 ⟨rfl,hb1⟩)
       | (go_at_call 277;refine(HC2.out _ (Below.refl _ _)).mono ?_;rintro e w0 ⟨rfl,hb0⟩)
       | (go_at_call 280;refine(HSW.out _ (by assumption)).mono ?_;rintro e w2 ⟨rfl,hP2,hT2⟩))
      go_roundw
      case rel=>exact⟨2*k+1,swp L' k (2*k+1),by have:=HJ1.out;have:=HJ2.out;congr 1<;>omega,by omega,hW_ (HI.out.step hn (by omega) (by unfold par;omega) (by omega) HMN.out HT.out hb1 hP2 hT2)⟩
      case measure=>have:=HJ1.out;have:=HJ2.out;simp[intOf];omega
   ·have q6:¬(J2<(n:Int)):=by omega
    clear hJ1 hJ2;obtain⟨t,ht⟩:∃t,(en L' (2*k+1)).less (en L' k)=t:=⟨_,rfl⟩;have HT:=hW_ ht;have HC:Hid (∀w',Below wr.heap.size wr w'->Calls Tryz.prog 277 #[.pointer (some ⟨g,0,none⟩), .int .i64 (J1), .int .i64 k] w' fun e w''=>e= .returned (.bool t)/\Below wr.heap.size wr w''):=hW_ (fun w' hb=>by
     have:=HLS.out (2*k+1) k w' (by omega) (by omega) hb;rw[ht,show(((2*k+1:Nat)):Int)=J1 by have:=HJ1.out;have:=HJ2.out;omega]at this;exact this)
    have HSW:Hid (∀w',Below wr.heap.size wr w'->Calls Tryz.prog 280 #[.pointer (some ⟨g,0,none⟩), .int .i64 k, .int .i64 (J1)] w' fun e w''=>e= .returned (.tuple #[])/\aB w'' base g mb v (swp L' k (2*k+1))/\Trod w' w'' g mb v v):=hW_ (fun w' hb=>by
     have hl:=HI.out.rest.len;have:=sC k (2*k+1) w' (HI.out.pile.below hb) (by omega) (by omega);rw[show(((2*k+1:Nat)):Int)=J1 by have:=HJ1.out;have:=HJ2.out;omega]at this;exact this)
    have HMN:Hid (∀c,0<c->c<n->par c=k->¬(en L' c).less (en L' (2*k+1))=true):=hW_ (fun c c0 hc hp=>by
     obtain rfl:c=2*k+1:=by unfold par at hp;omega
     exact Ent.not_self _)
    clear ht
    cases t with
    | false=>
     go_wp2_with (first
      | (go_at_call 277;refine(HC.out _ (Below.refl _ _)).mono ?_;rintro e w1 ⟨rfl,hb1⟩))
     go_ret;exact⟨_,L',rfl,HI.out.stop hb1 (fun c c0 hc hp hx=>by
      have h1:=HMN.out c c0 hc hp;have h2:¬(en L' (2*k+1)).less (en L' k)=true:=by rw[HT.out];simp
      exact Ent.ge_trans h1 h2 hx)⟩
    | true=>
     go_wp2_with (first
      | (go_at_call 277;refine(HC.out _ (Below.refl _ _)).mono ?_;rintro e w1 ⟨rfl,hb1⟩)
      | (go_at_call 280;refine(HSW.out _ (by assumption)).mono ?_;rintro e w2 ⟨rfl,hP2,hT2⟩))
     go_roundw
     case rel=>exact⟨2*k+1,swp L' k (2*k+1),by have:=HJ1.out;have:=HJ2.out;congr 1<;>omega,by omega,hW_ (HI.out.step hn (by omega) (by unfold par;omega) (by omega) HMN.out HT.out hb1 hP2 hT2)⟩
     case measure=>have:=HJ1.out;have:=HJ2.out;simp[intOf];omega
end Go.Proofs.YtahiballegpbgaaGreatDoor
