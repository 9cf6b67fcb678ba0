/- Plain law: code points as the document tells them (by their bytes again) are those by the table of first bytes. No program here. -/
import Derived.Test.YtimkkkdabmhedaaGreatDoorD27
import Derived.Test.YtimkkkdabmhedaaGreatDoorD36
import Derived.LoopN
import Derived.Test.YtimkkkdabmhedaaGreatDoorD35
import Derived.Test.YtimkkkdabmhedaaGreatDoorD28
import Derived.Test.YtimkkkdabmhedaaGreatDoorD40
import Derived.Test.YtimkkkdabmhedaaGreatDoorD37
set_option linter.unusedVariables false
set_option maxHeartbeats 2000000
set_option maxRecDepth 100000
namespace Go.Proofs.YtimkkkdabmhedaaGreatDoor
open Go
def longF (c:Int):Nat:=if c<128 then 1 else if 192≤c∧c<224 then 2 else if 224≤c∧c<240 then 3 else if 240≤c∧c<248 then 4 else 0
def bitsGo:Nat→Int→List Int→Int
 | 0,p,_=>p
 | _+1,_,[]=> -1
 | k+1,p,x::l=>if x<128∨191<x then -1 else bitsGo k (64*p+x-128) l
def bitsF (b:List Int) (n:Nat):Int:=match b with
 | []=> -1
 | c::l=>if n=1 then c else bitsGo (n-1) (c-(if n=4 then 240 else if n=3 then 224 else 192)) l
def encU (p:Int):Option (List Int):=
 if p<0∨1114111<p∨(55296≤p∧p≤57343)then none
 else if p<128 then some [p]
 else if p<2048 then some [192+p / 64,128+p % 64]
 else if p<65536 then some [224+p / 4096,128+p / 64 % 64,128+p % 64]
 else some [240+p / 262144,128+p / 4096 % 64,128+p / 64 % 64,128+p % 64]
def wholeF (b:List Int) (n:Nat):Int:=if encU (bitsF b n)=some (b.take n)then bitsF b n else -1
def leastF (n:Nat):Int:=if n=4 then 65536 else if n=3 then 2048 else 128
def mightG (a c m:Int):Prop:=0≤a∧0≤c∧max a m≤min c 1114111∧¬(55296≤max a m∧min c 1114111≤57343)
instance (a c m:Int):Decidable (mightG a c m):=by unfold mightG;infer_instance
def fillF (b:List Int) (n:Nat) (x:Int):List Int:=b++List.replicate (n-b.length) x
def mightF (b:List Int) (n:Nat):Prop:=mightG (bitsF (fillF b n 128) n) (bitsF (fillF b n 191) n) (leastF n)
instance (b:List Int) (n:Nat):Decidable (mightF b n):=by unfold mightF;infer_instance
def decR (final:Bool):List Int→Int×Int×Bool
 | []=>(-1,0,true)
 | c::l=>if 0<longF c∧longF c≤(c::l).length then(if 0≤wholeF (c::l) (longF c)then(wholeF (c::l) (longF c),longF c,false)else(-1,1,false))
  else if 0<longF c∧final=false∧mightF (c::l) (longF c)then(-1,0,true)else(-1,1,false)
theorem dec_two {final:Bool} {c:Int} {l:List Int} (h:194≤c∧c<224):dec final (c::l)=decGo final 2 1 (c % 32) 128 191 l:=by
 have:kindF c=(2,c % 32,128,191):=by unfold kindF;rw[if_neg (by omega),if_neg (by omega),if_pos (by omega)]
 simp only[dec,this];rfl
theorem dec_bad {final:Bool} {c:Int} {l:List Int} (h:(128≤c∧c<194)∨244<c):dec final (c::l)=(-1,1,false):=by
 have:kindF c=(0,0,0,0):=by unfold kindF;rw[if_neg (by omega),if_pos (by omega)]
 simp only[dec,this];rfl
theorem dec_one {final:Bool} {c:Int} {l:List Int} (h:c<128):dec final (c::l)=(c,1,false):=by
 have:kindF c=(1,c,0,0):=by unfold kindF;rw[if_pos h]
 simp only[dec,this];rfl
def lo3 (c:Int):Int:=if c=224 then 160 else 128
def hi3 (c:Int):Int:=if c=237 then 159 else 191
def lo4 (c:Int):Int:=if c=240 then 144 else 128
def hi4 (c:Int):Int:=if c=244 then 143 else 191
theorem dec_three {final:Bool} {c:Int} {l:List Int} (h:224≤c∧c<240):dec final (c::l)=decGo final 3 2 (c-224) (lo3 c) (hi3 c) l:=by
 have:kindF c=(3,c-224,lo3 c,hi3 c):=by
  unfold kindF lo3 hi3
  rw[if_neg (by omega),if_neg (by omega),if_neg (by omega)]
  by_cases h1:c=224
  ·subst h1;rfl
  by_cases h2:c=237
  ·subst h2;rfl
  rw[if_neg h1,if_neg h2,if_pos (by omega),if_neg h1,if_neg h2]
  simp only[Prod.mk.injEq,and_true,true_and];omega
 simp only[dec,this];rfl
theorem dec_four {final:Bool} {c:Int} {l:List Int} (h:240≤c∧c≤244):dec final (c::l)=decGo final 4 3 (c-240) (lo4 c) (hi4 c) l:=by
 have:kindF c=(4,c-240,lo4 c,hi4 c):=by
  unfold kindF lo4 hi4
  rw[if_neg (by omega),if_neg (by omega),if_neg (by omega),if_neg (by omega),if_neg (by omega),if_neg (by omega)]
  by_cases h1:c=240
  ·subst h1;rfl
  by_cases h2:c=244
  ·subst h2;rfl
  rw[if_neg h1,if_neg h2,if_neg h1,if_neg h2]
  simp only[Prod.mk.injEq,and_true,true_and];omega
 simp only[dec,this];rfl
theorem whole_no {b:List Int} {n:Nat} (h:encU (bitsF b n)≠some (b.take n)):wholeF b n= -1:=by unfold wholeF;rw[if_neg h]
theorem whole_yes {b:List Int} {n:Nat} (h:encU (bitsF b n)=some (b.take n)):wholeF b n=bitsF b n:=by unfold wholeF;rw[if_pos h]
theorem encU_none {p:Int} (h:p<0∨1114111<p∨(55296≤p∧p≤57343)):encU p=none:=by unfold encU;rw[if_pos h]
theorem encU1 {p:Int} (h:0≤p∧p<128):encU p=some [p]:=by unfold encU;rw[if_neg (by omega),if_pos h.2]
theorem encU2 {p:Int} (h:128≤p∧p<2048):encU p=some [192+p / 64,128+p % 64]:=by unfold encU;rw[if_neg (by omega),if_neg (by omega),if_pos h.2]
theorem encU3 {p:Int} (h:2048≤p∧p<65536) (h2:¬(55296≤p∧p≤57343)):encU p=some [224+p / 4096,128+p / 64 % 64,128+p % 64]:=by unfold encU;rw[if_neg (by omega),if_neg (by omega),if_neg (by omega),if_pos h.2]
theorem encU4 {p:Int} (h:65536≤p∧p≤1114111):encU p=some [240+p / 262144,128+p / 4096 % 64,128+p / 64 % 64,128+p % 64]:=by unfold encU;rw[if_neg (by omega),if_neg (by omega),if_neg (by omega),if_neg (by omega)]
theorem whole_one {c:Int} {l:List Int} (h:0≤c∧c<128):wholeF (c::l) 1=c:=whole_yes (encU1 h)
theorem whole_two {c x:Int} {l:List Int} (h:192≤c∧c<224) (hx:0≤x∧x<256):wholeF (c::x::l) 2=if x<128∨191<x then -1 else if c<194 then -1 else 64*(c-192)+x-128:=by
 have e:bitsF (c::x::l) 2=if x<128∨191<x then -1 else 64*(c-192)+x-128:=by
  unfold bitsF;simp[bitsGo]
 by_cases h1:x<128∨191<x
 ·rw[if_pos h1]at e ⊢
  exact whole_no (by rw[e,encU_none (.inl (by omega))];simp)
 ·rw[if_neg h1]at e ⊢
  by_cases h2:c<194
  ·rw[if_pos h2]
   exact whole_no (by rw[e,encU1 (by omega)];simp)
  ·rw[if_neg h2,whole_yes (by rw[e,encU2 (by omega)];simp only[List.take_succ_cons,List.take_zero,Option.some.injEq,List.cons.injEq,and_true];omega),e]
theorem whole_three {c x y:Int} {l:List Int} (h:224≤c∧c<240) (hx:0≤x∧x<256) (hy:0≤y∧y<256):wholeF (c::x::y::l) 3=if x<lo3 c∨hi3 c<x then -1 else if y<128∨191<y then -1 else 64*(64*(c-224)+x-128)+y-128:=by
 have e:bitsF (c::x::y::l) 3=if x<128∨191<x then -1 else if y<128∨191<y then -1 else 64*(64*(c-224)+x-128)+y-128:=by
  unfold bitsF;simp[bitsGo]
 by_cases h1:x<128∨191<x
 ·rw[if_pos h1]at e
  rw[if_pos (by unfold lo3 hi3;split<;>split<;>omega)]
  exact whole_no (by rw[e,encU_none (.inl (by omega))];simp)
 rw[if_neg h1]at e
 by_cases h3:y<128∨191<y
 ·rw[if_pos h3]at e ⊢
  rw[whole_no (by rw[e,encU_none (.inl (by omega))];simp)]
  split<;>rfl
 rw[if_neg h3]at e ⊢
 by_cases h2:x<lo3 c∨hi3 c<x
 ·rw[if_pos h2]
  unfold lo3 hi3 at h2
  refine whole_no ?_
  rw[e]
  by_cases h4:c=224
  ·rw[if_pos h4,if_neg (by omega)]at h2
   by_cases h7:64*(64*(c-224)+x-128)+y-128<128
   ·rw[encU1 (by omega)];simp
   ·rw[encU2 (by omega)];simp
  ·rw[if_neg h4]at h2
   by_cases h5:c=237
   ·rw[if_pos h5]at h2
    rw[encU_none (by omega)];simp
   ·rw[if_neg h5]at h2;omega
 ·rw[if_neg h2]
  unfold lo3 hi3 at h2
  rw[whole_yes (by
   rw[e,encU3 (by split at h2<;>omega) (by split at h2<;>split at h2<;>omega)]
   simp only[List.take_succ_cons,List.take_zero,Option.some.injEq,List.cons.injEq,and_true];omega),e]
theorem whole_four {c x y z:Int} {l:List Int} (h:240≤c∧c<248) (hx:0≤x∧x<256) (hy:0≤y∧y<256) (hz:0≤z∧z<256):wholeF (c::x::y::z::l) 4=if 244<c∨x<lo4 c∨hi4 c<x then -1 else if y<128∨191<y then -1 else if z<128∨191<z then -1 else 64*(64*(64*(c-240)+x-128)+y-128)+z-128:=by
 have e:bitsF (c::x::y::z::l) 4=if x<128∨191<x then -1 else if y<128∨191<y then -1 else if z<128∨191<z then -1 else 64*(64*(64*(c-240)+x-128)+y-128)+z-128:=by
  unfold bitsF;simp[bitsGo]
 by_cases h1:x<128∨191<x
 ·rw[if_pos h1]at e
  rw[if_pos (by unfold lo4 hi4;split<;>split<;>omega)]
  exact whole_no (by rw[e,encU_none (.inl (by omega))];simp)
 rw[if_neg h1]at e
 by_cases h3:y<128∨191<y
 ·rw[if_pos h3]at e ⊢
  rw[whole_no (by rw[e,encU_none (.inl (by omega))];simp)]
  split<;>rfl
 rw[if_neg h3]at e ⊢
 by_cases h6:z<128∨191<z
 ·rw[if_pos h6]at e ⊢
  rw[whole_no (by rw[e,encU_none (.inl (by omega))];simp)]
  split<;>rfl
 rw[if_neg h6]at e ⊢
 by_cases h2:244<c∨x<lo4 c∨hi4 c<x
 ·rw[if_pos h2]
  unfold lo4 hi4 at h2
  refine whole_no ?_
  rw[e]
  by_cases h4:c=240
  ·rw[if_pos h4,if_neg (by omega)]at h2
   by_cases h7:64*(64*(64*(c-240)+x-128)+y-128)+z-128<128
   ·rw[encU1 (by omega)];simp
   ·by_cases h8:64*(64*(64*(c-240)+x-128)+y-128)+z-128<2048
    ·rw[encU2 (by omega)];simp
    ·by_cases h9:55296≤64*(64*(64*(c-240)+x-128)+y-128)+z-128∧64*(64*(64*(c-240)+x-128)+y-128)+z-128≤57343
     ·rw[encU_none (.inr (.inr h9))];simp
     ·rw[encU3 (by omega) h9];simp
  ·rw[if_neg h4]at h2
   rw[encU_none (by split at h2<;>omega)];simp
 ·rw[if_neg h2]
  unfold lo4 hi4 at h2
  rw[whole_yes (by
   rw[e,encU4 (by split at h2<;>split at h2<;>omega)]
   simp only[List.take_succ_cons,List.take_zero,Option.some.injEq,List.cons.injEq,and_true];omega),e]
theorem decR_eq {final:Bool}:∀{b:List Int},(∀x∈b,0≤x∧x<256)→decR final b=dec final b
 | [],_=>rfl
 | c::l,hb=>by
  have hc:=hb c (by simp)
  have hl:∀x∈l,0≤x∧x<256:=fun x hx=>hb x (by simp[hx])
  by_cases r1:c<128
  ·have hn:longF c=1:=by unfold longF;rw[if_pos r1]
   simp only[decR,hn]
   rw[if_pos ⟨by omega,by simp⟩,whole_one ⟨hc.1,r1⟩,if_pos hc.1,dec_one r1];rfl
  by_cases r2:c<192
  ·have hn:longF c=0:=by unfold longF;rw[if_neg r1,if_neg (by omega),if_neg (by omega),if_neg (by omega)]
   simp only[decR,hn]
   rw[if_neg (by omega),if_neg (by omega),dec_bad (.inl ⟨by omega,by omega⟩)]
  by_cases r3:c<224
  ·have hn:longF c=2:=by unfold longF;rw[if_neg r1,if_pos ⟨by omega,r3⟩]
   simp only[decR,hn]
   match l,hl with
   | [],hl=>
    rw[if_neg (by simp)]
    have hm:mightF [c] 2↔194≤c:=by
     unfold mightF mightG leastF fillF bitsF
     simp[bitsGo]
     omega
    by_cases r4:c<194
    ·rw[if_neg (fun h=>by have:=hm.1 h.2.2;omega),dec_bad (.inl ⟨by omega,r4⟩)]
    ·rw[dec_two ⟨by omega,r3⟩]
     cases final with
     | true=>rw[if_neg (by simp)];simp[decGo]
     | false=>rw[if_pos ⟨by omega,rfl,hm.2 (by omega)⟩];simp[decGo]
   | x::l,hl=>
    have hx:=hl x (by simp)
    rw[if_pos ⟨by omega,by simp⟩,whole_two ⟨by omega,r3⟩ hx]
    by_cases r4:c<194
    ·rw[dec_bad (.inl ⟨by omega,r4⟩)]
     by_cases r5:x<128∨191<x
     ·rw[if_pos r5];rfl
     ·rw[if_neg r5,if_pos r4];rfl
    ·rw[dec_two ⟨by omega,r3⟩]
     simp only[decGo]
     by_cases r5:x<128∨191<x
     ·rw[if_pos r5,if_pos r5];rfl
     ·rw[if_neg r5,if_neg r5,if_neg r4,if_pos (by omega)]
      simp only[Prod.mk.injEq,and_true]
      exact⟨by omega,rfl⟩
  by_cases r4:c<240
  ·have hn:longF c=3:=by unfold longF;rw[if_neg r1,if_neg (by omega),if_pos ⟨by omega,r4⟩]
   simp only[decR,hn]
   rw[dec_three ⟨by omega,r4⟩]
   match l,hl with
   | [],hl=>
    rw[if_neg (by simp)]
    have hm:mightF [c] 3:=by
     unfold mightF mightG leastF fillF bitsF
     simp[bitsGo]
     omega
    cases final with
    | true=>rw[if_neg (by simp)];simp[decGo]
    | false=>rw[if_pos ⟨by omega,rfl,hm⟩];simp[decGo]
   | [x],hl=>
    have hx:=hl x (by simp)
    rw[if_neg (by simp)]
    have hm:mightF [c,x] 3↔¬(x<lo3 c∨hi3 c<x):=by
     unfold mightF mightG leastF fillF bitsF lo3 hi3
     by_cases r5:x<128∨191<x
     ·simp[bitsGo,r5];split<;>split<;>omega
     ·simp[bitsGo,r5];split<;>split<;>omega
    simp only[decGo]
    by_cases r5:x<lo3 c∨hi3 c<x
    ·rw[if_pos r5,if_neg (fun h=>hm.1 h.2.2 r5)]
    ·rw[if_neg r5]
     cases final with
     | true=>rw[if_neg (by simp)];rfl
     | false=>rw[if_pos ⟨by omega,rfl,hm.2 r5⟩];rfl
   | x::y::l,hl=>
    have hx:=hl x (by simp)
    have hy:=hl y (by simp)
    rw[if_pos ⟨by omega,by simp⟩,whole_three ⟨by omega,r4⟩ hx hy]
    simp only[decGo]
    by_cases r5:x<lo3 c∨hi3 c<x
    ·rw[if_pos r5,if_pos r5];rfl
    ·rw[if_neg r5,if_neg r5]
     have hx2:128≤x∧x≤191:=by unfold lo3 hi3 at r5;split at r5<;>split at r5<;>omega
     by_cases r6:y<128∨191<y
     ·rw[if_pos r6,if_pos r6];rfl
     ·rw[if_neg r6,if_neg r6,if_pos (by omega)]
      simp only[Prod.mk.injEq,and_true]
      exact⟨by omega,rfl⟩
  by_cases r5:c<248
  ·have hn:longF c=4:=by unfold longF;rw[if_neg r1,if_neg (by omega),if_neg (by omega),if_pos ⟨by omega,r5⟩]
   simp only[decR,hn]
   match l,hl with
   | [],hl=>
    rw[if_neg (by simp)]
    have hm:mightF [c] 4↔c≤244:=by
     unfold mightF mightG leastF fillF bitsF
     simp[bitsGo]
     omega
    by_cases r6:c≤244
    ·rw[dec_four ⟨by omega,r6⟩]
     cases final with
     | true=>rw[if_neg (by simp)];simp[decGo]
     | false=>rw[if_pos ⟨by omega,rfl,hm.2 r6⟩];simp[decGo]
    ·rw[if_neg (fun h=>r6 (hm.1 h.2.2)),dec_bad (.inr (by omega))]
   | [x],hl=>
    have hx:=hl x (by simp)
    rw[if_neg (by simp)]
    have hm:mightF [c,x] 4↔¬(244<c∨x<lo4 c∨hi4 c<x):=by
     unfold mightF mightG leastF fillF bitsF lo4 hi4
     by_cases r5:x<128∨191<x
     ·simp[bitsGo,r5];split<;>split<;>omega
     ·simp[bitsGo,r5];split<;>split<;>omega
    by_cases r6:244<c
    ·rw[if_neg (fun h=>hm.1 h.2.2 (.inl r6)),dec_bad (.inr r6)]
    ·rw[dec_four ⟨by omega,by omega⟩]
     simp only[decGo]
     by_cases r7:x<lo4 c∨hi4 c<x
     ·rw[if_pos r7,if_neg (fun h=>hm.1 h.2.2 (.inr r7))]
     ·rw[if_neg r7]
      cases final with
      | true=>rw[if_neg (by simp)];rfl
      | false=>rw[if_pos ⟨by omega,rfl,hm.2 (by omega)⟩];rfl
   | [x,y],hl=>
    have hx:=hl x (by simp)
    have hy:=hl y (by simp)
    rw[if_neg (by simp)]
    have hm:mightF [c,x,y] 4↔¬(244<c∨x<lo4 c∨hi4 c<x)∧¬(y<128∨191<y):=by
     unfold mightF mightG leastF fillF bitsF lo4 hi4
     by_cases r5:x<128∨191<x
     ·simp[bitsGo,r5];split<;>split<;>omega
     ·by_cases r6:y<128∨191<y
      ·simp[bitsGo,r5,r6];try omega
      ·simp[bitsGo,r5,r6];split<;>split<;>omega
    by_cases r6:244<c
    ·rw[if_neg (fun h=>(hm.1 h.2.2).1 (.inl r6)),dec_bad (.inr r6)]
    ·rw[dec_four ⟨by omega,by omega⟩]
     simp only[decGo]
     by_cases r7:x<lo4 c∨hi4 c<x
     ·rw[if_pos r7,if_neg (fun h=>(hm.1 h.2.2).1 (.inr r7))]
     ·rw[if_neg r7]
      by_cases r8:y<128∨191<y
      ·rw[if_pos r8,if_neg (fun h=>(hm.1 h.2.2).2 r8)]
      ·rw[if_neg r8]
       cases final with
       | true=>rw[if_neg (by simp)];rfl
       | false=>rw[if_pos ⟨by omega,rfl,hm.2 ⟨by omega,r8⟩⟩];rfl
   | x::y::z::l,hl=>
    have hx:=hl x (by simp)
    have hy:=hl y (by simp)
    have hz:=hl z (by simp)
    rw[if_pos ⟨by omega,by simp⟩,whole_four ⟨by omega,r5⟩ hx hy hz]
    by_cases r6:244<c
    ·have q:244<c∨x<lo4 c∨hi4 c<x:= .inl r6
     rw[if_pos q,dec_bad (.inr r6)];rfl
    ·rw[dec_four ⟨by omega,by omega⟩]
     simp only[decGo]
     by_cases r7:x<lo4 c∨hi4 c<x
     ·have q:244<c∨x<lo4 c∨hi4 c<x:= .inr r7
      rw[if_pos r7,if_pos q];rfl
     ·have q:¬(244<c∨x<lo4 c∨hi4 c<x):=by omega
      rw[if_neg r7,if_neg q]
      have hx2:128≤x∧x≤191:=by unfold lo4 hi4 at r7;split at r7<;>split at r7<;>omega
      by_cases r8:y<128∨191<y
      ·rw[if_pos r8,if_pos r8];rfl
      ·rw[if_neg r8,if_neg r8]
       by_cases r9:z<128∨191<z
       ·rw[if_pos r9,if_pos r9];rfl
       ·rw[if_neg r9,if_neg r9,if_pos (by omega)]
        simp only[Prod.mk.injEq,and_true]
        exact⟨by omega,rfl⟩
  ·have hn:longF c=0:=by unfold longF;rw[if_neg r1,if_neg (by omega),if_neg (by omega),if_neg (by omega)]
   simp only[decR,hn]
   rw[if_neg (by omega),if_neg (by omega),dec_bad (.inr (by omega))]
open Go.RowKit
theorem bytesI_drop {s:ByteArray} {i:Nat} (h:i<s.size):(bytesI s).drop i=(s[i].toNat:Int)::(bytesI s).drop (i+1):=by
 have hl:i<(bytesI s).length:=by rw[bytesI_len];exact h
 rw[List.drop_eq_getElem_cons hl]
 congr 1
 have:=bytesI_at h
 rw[List.getElem?_eq_getElem hl]at this
 exact Option.some.inj this
theorem rlong_calls (c:Int) (w:World) (h0:0≤c):Calls Tryz.prog 99 #[.int .u8 c] w fun e w'=>e= .returned (.int .i64 ((longF c:Nat):Int))∧w'=w:=by
 by_cases r128:c<128
 ·have l128:decide (c<128)=true:=by simp;omega
  have l224:decide (c<224)=true:=by simp;omega
  have l240:decide (c<240)=true:=by simp;omega
  have l248:decide (c<248)=true:=by simp;omega
  have g192:decide (192≤c)=false:=by simp;omega
  have g224:decide (224≤c)=false:=by simp;omega
  have g240:decide (240≤c)=false:=by simp;omega
  have hF:longF c=1:=by unfold longF;repeat' (first | rw[if_pos (by omega)] | rw[if_neg (by omega)])
  have HF:=Lib.hid hF
  clear hF
  have c1:c<128:=by omega
  go_enter Tryz.func99,Tryz.ntmps99
  go_wp2_with (fail)
  go_ret
  exact⟨by rw[HF.out];rfl,rfl⟩
 by_cases r192:c<192
 ·have l128:decide (c<128)=false:=by simp;omega
  have l224:decide (c<224)=true:=by simp;omega
  have l240:decide (c<240)=true:=by simp;omega
  have l248:decide (c<248)=true:=by simp;omega
  have g192:decide (192≤c)=false:=by simp;omega
  have g224:decide (224≤c)=false:=by simp;omega
  have g240:decide (240≤c)=false:=by simp;omega
  have hF:longF c=0:=by unfold longF;repeat' (first | rw[if_pos (by omega)] | rw[if_neg (by omega)])
  have HF:=Lib.hid hF
  clear hF
  have c1:¬c<128:=by omega
  go_enter Tryz.func99,Tryz.ntmps99
  go_wp2_with (fail)
  go_ret
  exact⟨by rw[HF.out];rfl,rfl⟩
 by_cases r224:c<224
 ·have l128:decide (c<128)=false:=by simp;omega
  have l224:decide (c<224)=true:=by simp;omega
  have l240:decide (c<240)=true:=by simp;omega
  have l248:decide (c<248)=true:=by simp;omega
  have g192:decide (192≤c)=true:=by simp;omega
  have g224:decide (224≤c)=false:=by simp;omega
  have g240:decide (240≤c)=false:=by simp;omega
  have hF:longF c=2:=by unfold longF;repeat' (first | rw[if_pos (by omega)] | rw[if_neg (by omega)])
  have HF:=Lib.hid hF
  clear hF
  have c1:¬c<128:=by omega
  go_enter Tryz.func99,Tryz.ntmps99
  go_wp2_with (fail)
  go_ret
  exact⟨by rw[HF.out];rfl,rfl⟩
 by_cases r240:c<240
 ·have l128:decide (c<128)=false:=by simp;omega
  have l224:decide (c<224)=false:=by simp;omega
  have l240:decide (c<240)=true:=by simp;omega
  have l248:decide (c<248)=true:=by simp;omega
  have g192:decide (192≤c)=true:=by simp;omega
  have g224:decide (224≤c)=true:=by simp;omega
  have g240:decide (240≤c)=false:=by simp;omega
  have hF:longF c=3:=by unfold longF;repeat' (first | rw[if_pos (by omega)] | rw[if_neg (by omega)])
  have HF:=Lib.hid hF
  clear hF
  have c1:¬c<128:=by omega
  go_enter Tryz.func99,Tryz.ntmps99
  go_wp2_with (fail)
  go_ret
  exact⟨by rw[HF.out];rfl,rfl⟩
 by_cases r248:c<248
 ·have l128:decide (c<128)=false:=by simp;omega
  have l224:decide (c<224)=false:=by simp;omega
  have l240:decide (c<240)=false:=by simp;omega
  have l248:decide (c<248)=true:=by simp;omega
  have g192:decide (192≤c)=true:=by simp;omega
  have g224:decide (224≤c)=true:=by simp;omega
  have g240:decide (240≤c)=true:=by simp;omega
  have hF:longF c=4:=by unfold longF;repeat' (first | rw[if_pos (by omega)] | rw[if_neg (by omega)])
  have HF:=Lib.hid hF
  clear hF
  have c1:¬c<128:=by omega
  go_enter Tryz.func99,Tryz.ntmps99
  go_wp2_with (fail)
  go_ret
  exact⟨by rw[HF.out];rfl,rfl⟩
 have l128:decide (c<128)=false:=by simp;omega
 have l224:decide (c<224)=false:=by simp;omega
 have l240:decide (c<240)=false:=by simp;omega
 have l248:decide (c<248)=false:=by simp;omega
 have g192:decide (192≤c)=true:=by simp;omega
 have g224:decide (224≤c)=true:=by simp;omega
 have g240:decide (240≤c)=true:=by simp;omega
 have hF:longF c=0:=by unfold longF;repeat' (first | rw[if_pos (by omega)] | rw[if_neg (by omega)])
 have HF:=Lib.hid hF
 clear hF
 have c1:¬c<128:=by omega
 go_enter Tryz.func99,Tryz.ntmps99
 go_wp2_with (fail)
 go_ret
 exact⟨by rw[HF.out];rfl,rfl⟩
def bd (i:Nat):Int:=if i≤1 then 300 else if i=2 then 20000 else if i=3 then 1300000 else 90000000
theorem bd_le (i:Nat):0≤bd i∧bd i≤90000000:=by unfold bd;split<;>(try split)<;>(try split)<;>omega
theorem bd_next {i:Nat} (h:i<4) (h1:1≤i):64*bd i+64≤bd (i+1):=by
 have:i=1∨i=2∨i=3:=by omega
 rcases this with rfl | rfl | rfl<;>decide
def baseF (n:Nat):Int:=if n=4 then 240 else if n=3 then 224 else 192
theorem bitsF_eq {s:ByteArray} {n:Nat} (h0:0<s.size) (hn:n≠1):bitsF (bytesI s) n=bitsGo (n-1) ((s[0].toNat:Int)-baseF n) ((bytesI s).drop 1):=by
 have e:bytesI s=(s[0].toNat:Int)::(bytesI s).drop 1:=by
  have:=bytesI_drop h0
  rwa [List.drop_zero]at this
 rw[e]
 unfold bitsF baseF
 simp only
 rw[if_neg hn]
 rfl
theorem bitsF_one {s:ByteArray} (h0:0<s.size):bitsF (bytesI s) 1=(s[0].toNat:Int):=by
 have e:bytesI s=(s[0].toNat:Int)::(bytesI s).drop 1:=by
  have:=bytesI_drop h0
  rwa [List.drop_zero]at this
 rw[e];rfl
theorem rbits_calls (s:ByteArray) (n:Nat) (w:World) (h1:1≤n) (h4:n≤4) (hs:n≤s.size):Calls Tryz.prog 132 #[.string s, .int .i64 n] w fun e w'=>e= .returned (.int .i64 (bitsF (bytesI s) n))∧w'=w:=by
 have h0:0<s.size:=by omega
 obtain⟨c,hc⟩:∃c:Int,(s[0].toNat:Int)=c:=⟨_,rfl⟩
 have hc8:=s[0].toNat_lt
 have hcw:IntKind.i64.wrap c=c:=by rw[IntKind.wrap_i64];omega
 have hcw2:wrap64 c=c:=by unfold wrap64;omega
 by_cases n1:n=1
 ·subst n1
  have HF:Hid (bitsF (bytesI s) 1=c):=Lib.hid (by rw[bitsF_one h0,hc])
  go_enter Tryz.func132,Tryz.ntmps132
  go_wp2_with (fail)
  go_ret
  exact⟨by rw[HF.out];rfl,rfl⟩
 have hbe:=bitsF_eq h0 n1
 rw[hc]at hbe
 obtain⟨R,hR⟩:∃R,bitsF (bytesI s) n=R:=⟨_,rfl⟩
 rw[hR]at hbe ⊢
 have hw1:IntKind.i64.wrap (c-192)=c-192:=by rw[IntKind.wrap_i64];omega
 have hw2:IntKind.i64.wrap (c-224)=c-224:=by rw[IntKind.wrap_i64];omega
 have hw3:IntKind.i64.wrap (c-240)=c-240:=by rw[IntKind.wrap_i64];omega
 have HBE:=Lib.hid hbe.symm
 have HP:Hid (-bd 1≤c-baseF n∧c-baseF n≤bd 1):=Lib.hid (by have e:bd 1=300:=rfl;rw[e];unfold baseF;split<;>(try split)<;>omega)
 clear hbe hR
 rcases(show n=2∨n=3∨n=4 by omega)with rfl | rfl | rfl
 ·go_enter Tryz.func132,Tryz.ntmps132
  go_wp2_with (fail)
  go_loopw [6,7] (fun p i wr=>∃(k:Nat) (q:Int),1≤k∧k≤2∧i= .int .i64 k∧p= .int .i64 q∧Hid (bitsGo (2-k) q ((bytesI s).drop k)=R)∧Hid (-bd k≤q∧q≤bd k)∧wr=w) (fun _ i _=>2-(intOf i).toNat)
  case atStart=>exact⟨1,c-baseF 2,Nat.le_refl _,by omega,rfl,rfl,HBE,HP,rfl⟩
  case round=>
   obtain⟨k,q,hk1,hk2,rfl,rfl,HQ,HD,rfl⟩:=hrel
   by_cases hlt:k<2
   ·have hks:k<s.size:=by omega
    have gk:(k:Int)<2:=by omega
    obtain⟨x,hx⟩:∃x:Int,(s[k].toNat:Int)=x:=⟨_,rfl⟩
    have hx8:=s[k].toNat_lt
    have hd:=bytesI_drop hks
    rw[hx]at hd
    obtain⟨j,hj⟩:∃j,2-k=j+1:=⟨2-k-1,by omega⟩
    have hq:=HQ.out
    rw[hj,hd]at hq
    simp only[bitsGo]at hq
    have hbn:=bd_next (show k<4 by omega) hk1
    have hbl:=bd_le k
    have hdd:=HD.out
    have m1:IntKind.i64.wrap (64*q)=64*q:=by rw[IntKind.wrap_i64];omega
    have m2:IntKind.i64.wrap (64*q+x)=64*q+x:=by rw[IntKind.wrap_i64];omega
    have m3:IntKind.i64.wrap (64*q+x-128)=64*q+x-128:=by rw[IntKind.wrap_i64];omega
    have hxw:IntKind.i64.wrap x=x:=by rw[IntKind.wrap_i64];omega
    have hxw2:wrap64 x=x:=by unfold wrap64;omega
    by_cases x1:x<128
    ·have g1:decide (x<128)=true:=by simpa using x1
     rw[if_pos (.inl x1)]at hq
     have HE:=Lib.hid hq
     clear hq hd hbn hbl hdd
     go_wp2_with (fail)
     refine bodyPost_ret (results_tmp rfl _ _ _) rfl ⟨by rw[←HE.out];rfl,rfl⟩
    have g1:decide (x<128)=false:=by simpa using x1
    by_cases x2:191<x
    ·have g2:decide (191<x)=true:=by simpa using x2
     rw[if_pos (.inr x2)]at hq
     have HE:=Lib.hid hq
     clear hq hd hbn hbl hdd
     go_wp2_with (fail)
     refine bodyPost_ret (results_tmp rfl _ _ _) rfl ⟨by rw[←HE.out];rfl,rfl⟩
    have g2:decide (191<x)=false:=by simpa using x2
    rw[if_neg (by omega)]at hq
    have HE:Hid (bitsGo (2-(k+1)) (64*q+x-128) ((bytesI s).drop (k+1))=R):=Lib.hid (by rw[show 2-(k+1)=j by omega];exact hq)
    have HD2:Hid (-bd (k+1)≤64*q+x-128∧64*q+x-128≤bd (k+1)):=Lib.hid (by omega)
    clear hq hd hbn hbl hdd x1 x2 hj
    go_wp2_with (fail)
    go_roundw
    case rel=>exact⟨k+1,64*q+x-128,by omega,by omega,by go_num,rfl,HE,HD2,by first | rfl | trivial⟩
    case measure=>simp[intOf];omega
   ·obtain rfl:k=2:=by omega
    have HE:Hid (q=R):=Lib.hid HQ.out
    go_wp2_with (fail)
    go_ret
    exact⟨by first | (rw[HE.out];rfl) | rfl,rfl⟩
 ·go_enter Tryz.func132,Tryz.ntmps132
  go_wp2_with (fail)
  go_loopw [6,7] (fun p i wr=>∃(k:Nat) (q:Int),1≤k∧k≤3∧i= .int .i64 k∧p= .int .i64 q∧Hid (bitsGo (3-k) q ((bytesI s).drop k)=R)∧Hid (-bd k≤q∧q≤bd k)∧wr=w) (fun _ i _=>3-(intOf i).toNat)
  case atStart=>exact⟨1,c-baseF 3,Nat.le_refl _,by omega,rfl,rfl,HBE,HP,rfl⟩
  case round=>
   obtain⟨k,q,hk1,hk2,rfl,rfl,HQ,HD,rfl⟩:=hrel
   by_cases hlt:k<3
   ·have hks:k<s.size:=by omega
    have gk:(k:Int)<3:=by omega
    obtain⟨x,hx⟩:∃x:Int,(s[k].toNat:Int)=x:=⟨_,rfl⟩
    have hx8:=s[k].toNat_lt
    have hd:=bytesI_drop hks
    rw[hx]at hd
    obtain⟨j,hj⟩:∃j,3-k=j+1:=⟨3-k-1,by omega⟩
    have hq:=HQ.out
    rw[hj,hd]at hq
    simp only[bitsGo]at hq
    have hbn:=bd_next (show k<4 by omega) hk1
    have hbl:=bd_le k
    have hdd:=HD.out
    have m1:IntKind.i64.wrap (64*q)=64*q:=by rw[IntKind.wrap_i64];omega
    have m2:IntKind.i64.wrap (64*q+x)=64*q+x:=by rw[IntKind.wrap_i64];omega
    have m3:IntKind.i64.wrap (64*q+x-128)=64*q+x-128:=by rw[IntKind.wrap_i64];omega
    have hxw:IntKind.i64.wrap x=x:=by rw[IntKind.wrap_i64];omega
    have hxw2:wrap64 x=x:=by unfold wrap64;omega
    by_cases x1:x<128
    ·have g1:decide (x<128)=true:=by simpa using x1
     rw[if_pos (.inl x1)]at hq
     have HE:=Lib.hid hq
     clear hq hd hbn hbl hdd
     go_wp2_with (fail)
     refine bodyPost_ret (results_tmp rfl _ _ _) rfl ⟨by rw[←HE.out];rfl,rfl⟩
    have g1:decide (x<128)=false:=by simpa using x1
    by_cases x2:191<x
    ·have g2:decide (191<x)=true:=by simpa using x2
     rw[if_pos (.inr x2)]at hq
     have HE:=Lib.hid hq
     clear hq hd hbn hbl hdd
     go_wp2_with (fail)
     refine bodyPost_ret (results_tmp rfl _ _ _) rfl ⟨by rw[←HE.out];rfl,rfl⟩
    have g2:decide (191<x)=false:=by simpa using x2
    rw[if_neg (by omega)]at hq
    have HE:Hid (bitsGo (3-(k+1)) (64*q+x-128) ((bytesI s).drop (k+1))=R):=Lib.hid (by rw[show 3-(k+1)=j by omega];exact hq)
    have HD2:Hid (-bd (k+1)≤64*q+x-128∧64*q+x-128≤bd (k+1)):=Lib.hid (by omega)
    clear hq hd hbn hbl hdd x1 x2 hj
    go_wp2_with (fail)
    go_roundw
    case rel=>exact⟨k+1,64*q+x-128,by omega,by omega,by go_num,rfl,HE,HD2,by first | rfl | trivial⟩
    case measure=>simp[intOf];omega
   ·obtain rfl:k=3:=by omega
    have HE:Hid (q=R):=Lib.hid HQ.out
    go_wp2_with (fail)
    go_ret
    exact⟨by first | (rw[HE.out];rfl) | rfl,rfl⟩
 ·go_enter Tryz.func132,Tryz.ntmps132
  go_wp2_with (fail)
  go_loopw [6,7] (fun p i wr=>∃(k:Nat) (q:Int),1≤k∧k≤4∧i= .int .i64 k∧p= .int .i64 q∧Hid (bitsGo (4-k) q ((bytesI s).drop k)=R)∧Hid (-bd k≤q∧q≤bd k)∧wr=w) (fun _ i _=>4-(intOf i).toNat)
  case atStart=>exact⟨1,c-baseF 4,Nat.le_refl _,by omega,rfl,rfl,HBE,HP,rfl⟩
  case round=>
   obtain⟨k,q,hk1,hk2,rfl,rfl,HQ,HD,rfl⟩:=hrel
   by_cases hlt:k<4
   ·have hks:k<s.size:=by omega
    have gk:(k:Int)<4:=by omega
    obtain⟨x,hx⟩:∃x:Int,(s[k].toNat:Int)=x:=⟨_,rfl⟩
    have hx8:=s[k].toNat_lt
    have hd:=bytesI_drop hks
    rw[hx]at hd
    obtain⟨j,hj⟩:∃j,4-k=j+1:=⟨4-k-1,by omega⟩
    have hq:=HQ.out
    rw[hj,hd]at hq
    simp only[bitsGo]at hq
    have hbn:=bd_next (show k<4 by omega) hk1
    have hbl:=bd_le k
    have hdd:=HD.out
    have m1:IntKind.i64.wrap (64*q)=64*q:=by rw[IntKind.wrap_i64];omega
    have m2:IntKind.i64.wrap (64*q+x)=64*q+x:=by rw[IntKind.wrap_i64];omega
    have m3:IntKind.i64.wrap (64*q+x-128)=64*q+x-128:=by rw[IntKind.wrap_i64];omega
    have hxw:IntKind.i64.wrap x=x:=by rw[IntKind.wrap_i64];omega
    have hxw2:wrap64 x=x:=by unfold wrap64;omega
    by_cases x1:x<128
    ·have g1:decide (x<128)=true:=by simpa using x1
     rw[if_pos (.inl x1)]at hq
     have HE:=Lib.hid hq
     clear hq hd hbn hbl hdd
     go_wp2_with (fail)
     refine bodyPost_ret (results_tmp rfl _ _ _) rfl ⟨by rw[←HE.out];rfl,rfl⟩
    have g1:decide (x<128)=false:=by simpa using x1
    by_cases x2:191<x
    ·have g2:decide (191<x)=true:=by simpa using x2
     rw[if_pos (.inr x2)]at hq
     have HE:=Lib.hid hq
     clear hq hd hbn hbl hdd
     go_wp2_with (fail)
     refine bodyPost_ret (results_tmp rfl _ _ _) rfl ⟨by rw[←HE.out];rfl,rfl⟩
    have g2:decide (191<x)=false:=by simpa using x2
    rw[if_neg (by omega)]at hq
    have HE:Hid (bitsGo (4-(k+1)) (64*q+x-128) ((bytesI s).drop (k+1))=R):=Lib.hid (by rw[show 4-(k+1)=j by omega];exact hq)
    have HD2:Hid (-bd (k+1)≤64*q+x-128∧64*q+x-128≤bd (k+1)):=Lib.hid (by omega)
    clear hq hd hbn hbl hdd x1 x2 hj
    go_wp2_with (fail)
    go_roundw
    case rel=>exact⟨k+1,64*q+x-128,by omega,by omega,by go_num,rfl,HE,HD2,by first | rfl | trivial⟩
    case measure=>simp[intOf];omega
   ·obtain rfl:k=4:=by omega
    have HE:Hid (q=R):=Lib.hid HQ.out
    go_wp2_with (fail)
    go_ret
    exact⟨by first | (rw[HE.out];rfl) | rfl,rfl⟩
def encR:Option (List Int)→Value
 | none=> .tuple #[.string ByteArray.empty, .bool false]
 | some L=> .tuple #[.string (keyB L), .bool true]
theorem Sl.lit8 (w:World) (vs:List Value) (cs:Array Value) (hcs:cs=vs.toArray) (n:Nat) (hn:n=vs.length) (hm:n≤100) (t:TypeId):Sl (w.alloc (.cells cs t)) (some ⟨w.heap.size,0, .none⟩) n n vs:=by
 subst hn hcs
 refine⟨rfl,Nat.le_refl _,by unfold maxLen;omega,fun h=>(by cases h),fun i u hu=>⟨_,_,rfl,?_⟩⟩
 simp[hu]
theorem slB_lit (w:World) (vs:List Int) (n:Nat) (hn:n=vs.length) (hm:n≤100) (cs:Array Value) (hcs:cs=(vs.map (.int .u8)).toArray) (t:TypeId):SlB (w.alloc (.cells cs t)) (some ⟨w.heap.size,0, .none⟩) n n vs:=
 Sl.lit8 w _ _ hcs _ (by simpa using hn) hm t
theorem rencode_calls (p:Int) (w:World) (hp: -100000000≤p∧p≤100000000):Calls Tryz.prog 133 #[.int .i64 p] w fun e w'=>e= .returned (encR (encU p))∧Below w.heap.size w w':=by
 by_cases r1:p<0
 ·have g1:decide (p<0)=true:=by simpa using r1
  have HE:=Lib.hid (encU_none (p:=p) (.inl r1))
  go_enter Tryz.func133,Tryz.ntmps133
  go_wp2_with (fail)
  refine bodyPost_ret (v:= .tuple #[.string ByteArray.empty, .bool false]) ?_ rfl ⟨by rw[HE.out];rfl,Below.refl _ _⟩
  simp[results,Tryz.results133,go_sem]
  try rfl
 have g1:decide (p<0)=false:=by simpa using r1
 by_cases r2:1114111<p
 ·have g2:decide (1114111<p)=true:=by simpa using r2
  have HE:=Lib.hid (encU_none (p:=p) (.inr (.inl r2)))
  go_enter Tryz.func133,Tryz.ntmps133
  go_wp2_with (fail)
  refine bodyPost_ret (v:= .tuple #[.string ByteArray.empty, .bool false]) ?_ rfl ⟨by rw[HE.out];rfl,Below.refl _ _⟩
  simp[results,Tryz.results133,go_sem]
  try rfl
 have g2:decide (1114111<p)=false:=by simpa using r2
 by_cases r3:55296≤p∧p≤57343
 ·have g3:decide (55296≤p)=true:=by simpa using r3.1
  have g4:decide (p≤57343)=true:=by simpa using r3.2
  have HE:=Lib.hid (encU_none (p:=p) (.inr (.inr r3)))
  go_enter Tryz.func133,Tryz.ntmps133
  go_wp2_with (fail)
  refine bodyPost_ret (v:= .tuple #[.string ByteArray.empty, .bool false]) ?_ rfl ⟨by rw[HE.out];rfl,Below.refl _ _⟩
  simp[results,Tryz.results133,go_sem]
  try rfl
 by_cases s1:p<128
 ·have HE:=Lib.hid (encU1 (p:=p) ⟨by omega,by omega⟩)
  have hbb:∀x∈([p]:List Int),(0:Int)≤x∧x<256:=by
   intro x hx
   simp only[List.mem_cons,List.not_mem_nil,or_false]at hx
   omega
  have u0:IntKind.u8.wrap (p)=p:=by rw[IntKind.wrap_u8];omega
  have d1:p.tdiv 64=p / 64:=Int.tdiv_eq_ediv_of_nonneg (by omega)
  have d2:p.tdiv 4096=p / 4096:=Int.tdiv_eq_ediv_of_nonneg (by omega)
  have d3:p.tdiv 262144=p / 262144:=Int.tdiv_eq_ediv_of_nonneg (by omega)
  have e1:p.tmod 64=p % 64:=Int.tmod_eq_emod_of_nonneg (by omega)
  have e2:(p / 64).tmod 64=p / 64 % 64:=Int.tmod_eq_emod_of_nonneg (by omega)
  have e3:(p / 4096).tmod 64=p / 4096 % 64:=Int.tmod_eq_emod_of_nonneg (by omega)
  have hcv:=conv_bytes (slB_lit w [p] 1 rfl (by omega) _ rfl 5) (by omega)
  simp only[List.map_cons,List.map_nil]at hcv
  have g3:(decide (55296≤p) && decide (p≤57343))=false:=by simp;omega
  clear hbb
  go_enter Tryz.func133,Tryz.ntmps133
  go_wp2_with (fail)
  all_goals(
   refine bodyPost_ret (v:= .tuple #[.string (keyB [p]), .bool true]) ?_ rfl ⟨by rw[HE.out];rfl,below_alloc w _⟩
   simp[results,Tryz.results133,go_sem])
 by_cases s2:p<2048
 ·have HE:=Lib.hid (encU2 (p:=p) ⟨by omega,by omega⟩)
  have hbb:∀x∈([192+p / 64,128+p % 64]:List Int),(0:Int)≤x∧x<256:=by
   intro x hx
   simp only[List.mem_cons,List.not_mem_nil,or_false]at hx
   omega
  have u0:IntKind.u8.wrap (192+p / 64)=192+p / 64:=by rw[IntKind.wrap_u8];omega
  have u1:IntKind.u8.wrap (128+p % 64)=128+p % 64:=by rw[IntKind.wrap_u8];omega
  have d1:p.tdiv 64=p / 64:=Int.tdiv_eq_ediv_of_nonneg (by omega)
  have d2:p.tdiv 4096=p / 4096:=Int.tdiv_eq_ediv_of_nonneg (by omega)
  have d3:p.tdiv 262144=p / 262144:=Int.tdiv_eq_ediv_of_nonneg (by omega)
  have e1:p.tmod 64=p % 64:=Int.tmod_eq_emod_of_nonneg (by omega)
  have e2:(p / 64).tmod 64=p / 64 % 64:=Int.tmod_eq_emod_of_nonneg (by omega)
  have e3:(p / 4096).tmod 64=p / 4096 % 64:=Int.tmod_eq_emod_of_nonneg (by omega)
  have hcv:=conv_bytes (slB_lit w [192+p / 64,128+p % 64] 2 rfl (by omega) _ rfl 5) (by omega)
  simp only[List.map_cons,List.map_nil]at hcv
  have g3:(decide (55296≤p) && decide (p≤57343))=false:=by simp;omega
  clear hbb
  go_enter Tryz.func133,Tryz.ntmps133
  go_wp2_with (fail)
  all_goals(
   refine bodyPost_ret (v:= .tuple #[.string (keyB [192+p / 64,128+p % 64]), .bool true]) ?_ rfl ⟨by rw[HE.out];rfl,below_alloc w _⟩
   simp[results,Tryz.results133,go_sem])
 by_cases s3:p<65536
 ·have HE:=Lib.hid (encU3 (p:=p) ⟨by omega,by omega⟩ r3)
  have hbb:∀x∈([224+p / 4096,128+p / 64 % 64,128+p % 64]:List Int),(0:Int)≤x∧x<256:=by
   intro x hx
   simp only[List.mem_cons,List.not_mem_nil,or_false]at hx
   omega
  have u0:IntKind.u8.wrap (224+p / 4096)=224+p / 4096:=by rw[IntKind.wrap_u8];omega
  have u1:IntKind.u8.wrap (128+p / 64 % 64)=128+p / 64 % 64:=by rw[IntKind.wrap_u8];omega
  have u2:IntKind.u8.wrap (128+p % 64)=128+p % 64:=by rw[IntKind.wrap_u8];omega
  have d1:p.tdiv 64=p / 64:=Int.tdiv_eq_ediv_of_nonneg (by omega)
  have d2:p.tdiv 4096=p / 4096:=Int.tdiv_eq_ediv_of_nonneg (by omega)
  have d3:p.tdiv 262144=p / 262144:=Int.tdiv_eq_ediv_of_nonneg (by omega)
  have e1:p.tmod 64=p % 64:=Int.tmod_eq_emod_of_nonneg (by omega)
  have e2:(p / 64).tmod 64=p / 64 % 64:=Int.tmod_eq_emod_of_nonneg (by omega)
  have e3:(p / 4096).tmod 64=p / 4096 % 64:=Int.tmod_eq_emod_of_nonneg (by omega)
  have hcv:=conv_bytes (slB_lit w [224+p / 4096,128+p / 64 % 64,128+p % 64] 3 rfl (by omega) _ rfl 5) (by omega)
  simp only[List.map_cons,List.map_nil]at hcv
  have g3:(decide (55296≤p) && decide (p≤57343))=false:=by simp;omega
  clear hbb
  go_enter Tryz.func133,Tryz.ntmps133
  go_wp2_with (fail)
  all_goals(
   refine bodyPost_ret (v:= .tuple #[.string (keyB [224+p / 4096,128+p / 64 % 64,128+p % 64]), .bool true]) ?_ rfl ⟨by rw[HE.out];rfl,below_alloc w _⟩
   simp[results,Tryz.results133,go_sem])
 have HE:=Lib.hid (encU4 (p:=p) ⟨by omega,by omega⟩)
 have hbb:∀x∈([240+p / 262144,128+p / 4096 % 64,128+p / 64 % 64,128+p % 64]:List Int),(0:Int)≤x∧x<256:=by
  intro x hx
  simp only[List.mem_cons,List.not_mem_nil,or_false]at hx
  omega
 have u0:IntKind.u8.wrap (240+p / 262144)=240+p / 262144:=by rw[IntKind.wrap_u8];omega
 have u1:IntKind.u8.wrap (128+p / 4096 % 64)=128+p / 4096 % 64:=by rw[IntKind.wrap_u8];omega
 have u2:IntKind.u8.wrap (128+p / 64 % 64)=128+p / 64 % 64:=by rw[IntKind.wrap_u8];omega
 have u3:IntKind.u8.wrap (128+p % 64)=128+p % 64:=by rw[IntKind.wrap_u8];omega
 have d1:p.tdiv 64=p / 64:=Int.tdiv_eq_ediv_of_nonneg (by omega)
 have d2:p.tdiv 4096=p / 4096:=Int.tdiv_eq_ediv_of_nonneg (by omega)
 have d3:p.tdiv 262144=p / 262144:=Int.tdiv_eq_ediv_of_nonneg (by omega)
 have e1:p.tmod 64=p % 64:=Int.tmod_eq_emod_of_nonneg (by omega)
 have e2:(p / 64).tmod 64=p / 64 % 64:=Int.tmod_eq_emod_of_nonneg (by omega)
 have e3:(p / 4096).tmod 64=p / 4096 % 64:=Int.tmod_eq_emod_of_nonneg (by omega)
 have hcv:=conv_bytes (slB_lit w [240+p / 262144,128+p / 4096 % 64,128+p / 64 % 64,128+p % 64] 4 rfl (by omega) _ rfl 5) (by omega)
 simp only[List.map_cons,List.map_nil]at hcv
 have g3:(decide (55296≤p) && decide (p≤57343))=false:=by simp;omega
 clear hbb
 go_enter Tryz.func133,Tryz.ntmps133
 go_wp2_with (fail)
 all_goals(
  refine bodyPost_ret (v:= .tuple #[.string (keyB [240+p / 262144,128+p / 4096 % 64,128+p / 64 % 64,128+p % 64]), .bool true]) ?_ rfl ⟨by rw[HE.out];rfl,below_alloc w _⟩
  simp[results,Tryz.results133,go_sem])
theorem bytesI_take (s:ByteArray) (n:Nat):bytesI (s.extract 0 n)=(bytesI s).take n:=by
 unfold bytesI
 rw[←List.map_take]
 congr 1
 simp[ByteArray.data_extract]
theorem bytesI_skip (s:ByteArray) (n:Nat):bytesI (s.extract n s.size)=(bytesI s).drop n:=by
 unfold bytesI
 rw[←List.map_drop]
 congr 1
 simp only[ByteArray.data_extract,Array.toList_extract,List.extract_eq_take_drop]
 exact List.take_of_length_le (by simp)
theorem bytesI_app (s t:ByteArray):bytesI (s++t)=bytesI s++bytesI t:=by unfold bytesI;simp
theorem encU_bytes {p:Int} {L:List Int} (h:encU p=some L):∀x∈L,0≤x∧x<256:=by
 unfold encU at h
 intro x hx
 repeat' split at h
 all_goals(first | cases h | skip)
 all_goals(simp only[List.mem_cons,List.not_mem_nil,or_false]at hx;omega)
theorem bitsF_small {s:ByteArray} {n:Nat} (h1:1≤n) (h4:n≤4) (hs:n≤s.size): -100000000≤bitsF (bytesI s) n∧bitsF (bytesI s) n≤100000000:=by
 have h0:0<s.size:=by omega
 have hc8:=s[0].toNat_lt
 by_cases n1:n=1
 ·subst n1;rw[bitsF_one h0];omega
 ·rw[bitsF_eq h0 n1]
  have key:∀(k i:Nat) (q:Int) (l:List Int),k+i≤4→1≤i→(∀x∈l,(0:Int)≤x∧x<256)→ -bd i≤q→q≤bd i→ -100000000≤bitsGo k q l∧bitsGo k q l≤100000000:=by
   intro k
   induction k with
   | zero=>intro i q l _ _ _ h1 h2;have:=bd_le i;simp only[bitsGo];omega
   | succ k ih=>
    intro i q l hk hi hl h1 h2
    cases l with
    | nil=>simp only[bitsGo];omega
    | cons x l=>
     simp only[bitsGo]
     split
     ·omega
     ·have:=bd_next (show i<4 by omega) hi
      have hx:=hl x (by simp)
      exact ih (i+1) _ l (by omega) (by omega) (fun y hy=>hl y (by simp[hy])) (by omega) (by omega)
  have e:bd 1=300:=rfl
  refine key (n-1) 1 _ _ (by omega) (by omega) (fun x hx=>bytesI_lt x (List.mem_of_mem_drop hx)) ?_ ?_<;>rw[e]<;>unfold baseF<;>split<;>(try split)<;>omega
theorem rwhole_calls (s:ByteArray) (n:Nat) (w:World) (h1:1≤n) (h4:n≤4) (hs:n≤s.size):Calls Tryz.prog 100 #[.string s, .int .i64 n] w fun e w'=>e= .returned (.int .i64 (wholeF (bytesI s) n))∧Below w.heap.size w w':=by
 obtain⟨p,hp⟩:∃p,bitsF (bytesI s) n=p:=⟨_,rfl⟩
 have hb:=rbits_calls s n w h1 h4 hs
 have hsm:=bitsF_small h1 h4 hs
 rw[hp]at hb hsm
 have he:=rencode_calls p w hsm
 have HB:=Lib.hid hb
 have gn:(n:Int)≤(s.size:Int):=by omega
 cases hen:encU p with
 | none=>
  have HW:Hid (wholeF (bytesI s) n= -1):=Lib.hid (whole_no (by rw[hp,hen];simp))
  rw[hen]at he
  have HE:=Lib.hid he
  clear hb he hp hen
  go_enter Tryz.func100,Tryz.ntmps100
  go_wp2_with (first
   | (go_at_call 132;refine HB.out.mono ?_;rintro e w1 ⟨rfl,rfl⟩)
   | (go_at_call 133;refine HE.out.mono ?_;rintro e w1 ⟨rfl,hb1⟩;unfold encR;have HB1:=Lib.hid hb1;clear hb1))
  go_ret
  exact⟨by rw[HW.out];rfl,HB1.out⟩
 | some L=>
  rw[hen]at he
  have HE:=Lib.hid he
  have hL:=encU_bytes hen
  by_cases heq:keyB L=s.extract 0 n
  ·have HW:Hid (wholeF (bytesI s) n=p):=Lib.hid (by
    rw[whole_yes,hp]
    rw[hp,hen,←bytesI_take,←heq,keyB_bytes hL])
   have gb:=beqS_yes heq
   clear hb he hp hen
   go_enter Tryz.func100,Tryz.ntmps100
   go_wp2_with (first
    | (go_at_call 132;refine HB.out.mono ?_;rintro e w1 ⟨rfl,rfl⟩)
    | (go_at_call 133;refine HE.out.mono ?_;rintro e w1 ⟨rfl,hb1⟩;unfold encR;have HB1:=Lib.hid hb1;clear hb1))
   go_ret
   exact⟨by rw[HW.out];rfl,HB1.out⟩
  ·have HW:Hid (wholeF (bytesI s) n= -1):=Lib.hid (whole_no (by
    rw[hp,hen,←bytesI_take]
    intro e
    apply heq
    apply bytesI_inj
    rw[keyB_bytes hL]
    exact Option.some.inj e))
   have gb:=beqS_no heq
   clear hb he hp hen
   go_enter Tryz.func100,Tryz.ntmps100
   go_wp2_with (first
    | (go_at_call 132;refine HB.out.mono ?_;rintro e w1 ⟨rfl,rfl⟩)
    | (go_at_call 133;refine HE.out.mono ?_;rintro e w1 ⟨rfl,hb1⟩;unfold encR;have HB1:=Lib.hid hb1;clear hb1))
   go_ret
   exact⟨by rw[HW.out];rfl,HB1.out⟩
theorem bytes_80:bytesI ⟨#[128]⟩= [128]:=by decide +kernel
theorem bytes_bf:bytesI ⟨#[191]⟩= [191]:=by decide +kernel
theorem rmight_calls (s:ByteArray) (n:Nat) (w:World) (h1:2≤n) (h4:n≤4) (h0:0<s.size) (hs:s.size<n):Calls Tryz.prog 101 #[.string s, .int .i64 n] w fun e w'=>e= .returned (.bool (decide (mightF (bytesI s) n)))∧w'=w:=by
 go_enter Tryz.func101,Tryz.ntmps101
 go_wp2_with (fail)
 go_loopw [5,6] (fun a b wr=>∃(k:Nat) (lo hi:ByteArray),s.size+k≤n∧a= .string lo∧b= .string hi∧lo.size=s.size+k∧hi.size=s.size+k∧Hid (bytesI lo=bytesI s++List.replicate k 128∧bytesI hi=bytesI s++List.replicate k 191)∧wr=w) (fun a _ _=>n-(match a with | .string x=>x.size | _=>0))
 case atStart=>exact⟨0,s,s,by omega,rfl,rfl,rfl,rfl,Lib.hid (by simp),rfl⟩
 case round=>
  obtain⟨k,lo,hi,hk,rfl,rfl,hl,hh,HB,rfl⟩:=hrel
  by_cases hlt:s.size+k<n
  ·have g1:((lo.size:Nat):Int)<(n:Int):=by omega
   have HB2:Hid (bytesI (lo++⟨#[128]⟩)=bytesI s++List.replicate (k+1) 128∧bytesI (hi++⟨#[191]⟩)=bytesI s++List.replicate (k+1) 191):=Lib.hid (by
    obtain⟨e1,e2⟩:=HB.out
    rw[bytesI_app,bytesI_app,e1,e2,bytes_80,bytes_bf]
    simp[List.replicate_succ'])
   have z1:(lo++⟨#[128]⟩:ByteArray).size=s.size+(k+1):=by rw[ByteArray.size_append,hl];rfl
   have z2:(hi++⟨#[191]⟩:ByteArray).size=s.size+(k+1):=by rw[ByteArray.size_append,hh];rfl
   have HZ:=Lib.hid (And.intro z1 z2)
   clear z1 z2
   go_wp2_with (fail)
   go_roundw
   case rel=>exact⟨k+1,_,_,by omega,rfl,rfl,HZ.out.1,HZ.out.2,HB2,by first | rfl | trivial⟩
   case measure=>
    have:=HZ.out.1
    simp only
    omega
  ·have hkn:s.size+k=n:=by omega
   obtain⟨a,ha⟩:∃a,bitsF (fillF (bytesI s) n 128) n=a:=⟨_,rfl⟩
   obtain⟨c,hc⟩:∃c,bitsF (fillF (bytesI s) n 191) n=c:=⟨_,rfl⟩
   have hfl:bytesI lo=fillF (bytesI s) n 128∧bytesI hi=fillF (bytesI s) n 191:=by
    obtain⟨e1,e2⟩:=HB.out
    unfold fillF
    rw[bytesI_len,show n-s.size=k by omega]
    exact⟨e1,e2⟩
   have b1:=rbits_calls lo n wr (by omega) h4 (by omega)
   have b2:=rbits_calls hi n wr (by omega) h4 (by omega)
   have sa:=bitsF_small (s:=lo) (n:=n) (by omega) h4 (by omega)
   have sc:=bitsF_small (s:=hi) (n:=n) (by omega) h4 (by omega)
   rw[hfl.1,ha]at b1 sa
   rw[hfl.2,hc]at b2 sc
   have hmt:mightF (bytesI s) n=mightG a c (leastF n):=by unfold mightF;rw[ha,hc]
   have HB1:=Lib.hid b1
   have HB2:=Lib.hid b2
   have HMT:Hid (decide (mightF (bytesI s) n)=decide (mightG a c (leastF n))):=Lib.hid (by simp only[hmt])
   obtain⟨mm,hmm⟩:∃m,leastF n=m:=⟨_,rfl⟩
   rw[hmm]at HMT
   have HMM:=Lib.hid hmm
   clear b1 b2 hfl ha hc hmt hmm
   go_wp2_with (fail)
   go_at_call 132
   refine HB1.out.mono ?_
   rintro e w1 ⟨rfl,rfl⟩
   go_wp2_with (fail)
   go_at_call 132
   refine HB2.out.mono ?_
   rintro e w1 ⟨rfl,rfl⟩
   by_cases ra:a<0
   ·have g1:decide (a<0)=true:=by simpa using ra
    have HN:Hid (decide (mightG a c mm)=false):=Lib.hid (by unfold mightG;simp;omega)
    go_wp2_with (fail)
    go_ret
    exact⟨by rw[HMT.out,HN.out];rfl,rfl⟩
   have g1:decide (a<0)=false:=by simpa using ra
   by_cases rc:c<0
   ·have g2:decide (c<0)=true:=by simpa using rc
    have HN:Hid (decide (mightG a c mm)=false):=Lib.hid (by unfold mightG;simp;omega)
    go_wp2_with (fail)
    go_ret
    exact⟨by rw[HMT.out,HN.out];rfl,rfl⟩
   have g2:decide (c<0)=false:=by simpa using rc
   have hmm:=HMM.out
   rcases(show n=2∨n=3∨n=4 by omega)with rfl | rfl | rfl
   ·obtain rfl:mm=128:=hmm.symm
    clear hmm
    go_wp2_with (fail)
    all_goals(
     refine bodyPost_ret (results_tmp rfl _ _ _) rfl ⟨?_,rfl⟩
     rw[HMT.out]
     refine congrArg (fun b=>Ending.returned (.bool b)) ?_
     rw[Bool.eq_iff_iff]
     simp[mightG]
     omega)
   ·obtain rfl:mm=2048:=hmm.symm
    clear hmm
    go_wp2_with (fail)
    all_goals(
     refine bodyPost_ret (results_tmp rfl _ _ _) rfl ⟨?_,rfl⟩
     rw[HMT.out]
     refine congrArg (fun b=>Ending.returned (.bool b)) ?_
     rw[Bool.eq_iff_iff]
     simp[mightG]
     omega)
   ·obtain rfl:mm=65536:=hmm.symm
    clear hmm
    go_wp2_with (fail)
    all_goals(
     refine bodyPost_ret (results_tmp rfl _ _ _) rfl ⟨?_,rfl⟩
     rw[HMT.out]
     refine congrArg (fun b=>Ending.returned (.bool b)) ?_
     rw[Bool.eq_iff_iff]
     simp[mightG]
     omega)
theorem below_set3 {B:Nat} {a w:World} {g:Nat} (h:Below B a w) (hg:B≤g) (x y z:Value):Below B a (((w.setCell ⟨g,0,none⟩ x).setCell ⟨g,1,none⟩ y).setCell ⟨g,2,none⟩ z):=
 ((h.setCell (p:=⟨g,0,none⟩) hg x).setCell (p:=⟨g,1,none⟩) hg y).setCell (p:=⟨g,2,none⟩) hg z
def dVal (r:Int×Int×Bool):Value:= .agg #[.int .i64 r.1, .int .i64 r.2.1, .bool r.2.2]
theorem rdec_calls (s : ByteArray) (final : Bool) (w : World) (hsz : s.size ≤ 1000000) : Calls Tryz.prog 68 #[.string s, .bool final] w fun e w' => e = .returned (dVal (decR final (bytesI s))) ∧ Below w.heap.size w w' := by
  by_cases h0 : s.size = 0
  · have hs : s = ByteArray.empty := by
      apply bytesI_inj
      apply List.eq_nil_of_length_eq_zero
      rw [bytesI_len]; exact h0
    subst hs
    go_enter Tryz.func68, Tryz.ntmps68
    go_wp2_with (fail)
    refine bodyPost_ret (v := dVal (-1, 0, true)) ?_ rfl ⟨rfl, below_alloc w _⟩
    simp [results, Tryz.results68, go_sem, dVal]
  have h0' : 0 < s.size := by omega
  obtain ⟨hem1, hem2, hem3⟩ := strE_no h0
  obtain ⟨x, hx⟩ : ∃ x : Int, (s[0].toNat : Int) = x := ⟨_, rfl⟩
  have hx8 := s[0].toNat_lt
  have hxw : IntKind.u8.wrap x = x := by rw [IntKind.wrap_u8]; omega
  have hl := rlong_calls x
  obtain ⟨n, hn⟩ : ∃ n, longF x = n := ⟨_, rfl⟩
  rw [hn] at hl
  have hn4 : n ≤ 4 := by rw [← hn]; unfold longF; repeat' split
                         all_goals omega
  have hbl : bytesI s = x :: (bytesI s).drop 1 := by
    have := bytesI_drop h0'
    rwa [List.drop_zero, hx] at this
  have hdr : decR final (bytesI s) = if 0 < n ∧ n ≤ s.size then (if 0 ≤ wholeF (bytesI s) n then (wholeF (bytesI s) n, (n : Int), false) else (-1, 1, false))
      else if 0 < n ∧ final = false ∧ mightF (bytesI s) n then (-1, 0, true) else (-1, 1, false) := by
    rw [hbl]
    unfold decR
    simp only [hn, ← hbl, bytesI_len]
  obtain ⟨w0, hw0⟩ : ∃ w0, w.alloc (.cells #[.int .i64 0, .int .i64 0, .bool false] 113) = w0 := ⟨_, rfl⟩
  have hb0 : Below w.heap.size w w0 := hw0 ▸ below_alloc w _
  have hx0 : w0.heap[w.heap.size]? = some (.cells #[.int .i64 0, .int .i64 0, .bool false] 113) := by rw [← hw0]; exact heap_alloc_new w _
  have hz0 : w.heap.size < w0.heap.size := by rw [← hw0]; simp
  have hcl := hl w0 (by omega)
  have HL := Lib.hid hcl
  have HB0 := Lib.hid hb0
  have HX0 := Lib.hid hx0
  have HZ0 := Lib.hid hz0
  have HW0 := Lib.hid hw0
  by_cases n0 : n = 0
  · subst n0
    have HR : Hid (decR final (bytesI s) = (-1, 1, false)) := Lib.hid (by rw [hdr, if_neg (by omega), if_neg (by omega)])
    obtain ⟨z0, z1, z2⟩ := box3v hx0
    have zf := boxf hx0
    clear hdr hbl hb0 hx0 hz0 hw0 hcl hl
    go_enter Tryz.func68, Tryz.ntmps68
    go_wp2_with (fail)
    rw [HW0.out]
    go_at_call 99
    refine HL.out.mono ?_
    rintro e w1 ⟨rfl, rfl⟩
    go_wp2_with (fail)
    refine bodyPost_ret (v := dVal (-1, 1, false)) ?_ rfl ⟨by rw [HR.out], below_set3 HB0.out (Nat.le_refl _) _ _ _⟩
    simp [results, Tryz.results68, go_sem, dVal, z0, z1, z2]
  have gn0 : decide ((0 : Int) < (n : Int)) = true := by simp; omega
  by_cases hns : n ≤ s.size
  · have gns : decide ((n : Int) ≤ ((s.size : Nat) : Int)) = true := by simp; omega
    have hwh := rwhole_calls s n w0 (by omega) hn4 hns
    obtain ⟨p, hp⟩ : ∃ p, wholeF (bytesI s) n = p := ⟨_, rfl⟩
    rw [hp] at hwh hdr
    rw [if_pos ⟨by omega, hns⟩] at hdr
    have HWH := Lib.hid hwh
    by_cases hp0 : 0 ≤ p
    · rw [if_pos hp0] at hdr
      have HR := Lib.hid hdr
      have gp : decide ((0 : Int) ≤ p) = true := by simpa using hp0
      clear hdr hbl hb0 hx0 hz0 hw0 hcl hl hwh hp
      go_enter Tryz.func68, Tryz.ntmps68
      go_wp2_with (fail)
      rw [HW0.out]
      go_at_call 99
      refine HL.out.mono ?_
      rintro e w1 ⟨rfl, rfl⟩
      go_wp2_with (fail)
      go_at_call 100
      refine HWH.out.mono ?_
      rintro e w2 ⟨rfl, hb2⟩
      have hx2 := (hb2.block _ HZ0.out).trans HX0.out
      obtain ⟨z0, z1, z2⟩ := box3v hx2
      have zf := boxf hx2
      have HB2 := Lib.hid (HB0.out.trans (hb2.mono HB0.out.size))
      clear hb2 hx2
      go_wp2_with (fail)
      refine bodyPost_ret (v := dVal (p, n, false)) ?_ rfl ⟨by rw [HR.out], below_set3 HB2.out (Nat.le_refl _) _ _ _⟩
      simp [results, Tryz.results68, go_sem, dVal, z0, z1, z2]
    · rw [if_neg hp0] at hdr
      have HR := Lib.hid hdr
      have gp : decide ((0 : Int) ≤ p) = false := by simpa using hp0
      clear hdr hbl hb0 hx0 hz0 hw0 hcl hl hwh hp
      go_enter Tryz.func68, Tryz.ntmps68
      go_wp2_with (fail)
      rw [HW0.out]
      go_at_call 99
      refine HL.out.mono ?_
      rintro e w1 ⟨rfl, rfl⟩
      go_wp2_with (fail)
      go_at_call 100
      refine HWH.out.mono ?_
      rintro e w2 ⟨rfl, hb2⟩
      have hx2 := (hb2.block _ HZ0.out).trans HX0.out
      obtain ⟨z0, z1, z2⟩ := box3v hx2
      have zf := boxf hx2
      have HB2 := Lib.hid (HB0.out.trans (hb2.mono HB0.out.size))
      clear hb2 hx2
      go_wp2_with (fail)
      refine bodyPost_ret (v := dVal (-1, 1, false)) ?_ rfl ⟨by rw [HR.out], below_set3 HB2.out (Nat.le_refl _) _ _ _⟩
      simp [results, Tryz.results68, go_sem, dVal, z0, z1, z2]
  have gns : decide ((n : Int) ≤ ((s.size : Nat) : Int)) = false := by simp; omega
  rw [if_neg (by omega)] at hdr
  cases final with
  | true =>
    have HR : Hid (decR true (bytesI s) = (-1, 1, false)) := Lib.hid (by rw [hdr, if_neg (by simp)])
    obtain ⟨z0, z1, z2⟩ := box3v hx0
    have zf := boxf hx0
    clear hdr hbl hb0 hx0 hz0 hw0 hcl hl
    go_enter Tryz.func68, Tryz.ntmps68
    go_wp2_with (fail)
    rw [HW0.out]
    go_at_call 99
    refine HL.out.mono ?_
    rintro e w1 ⟨rfl, rfl⟩
    go_wp2_with (fail)
    refine bodyPost_ret (v := dVal (-1, 1, false)) ?_ rfl ⟨by rw [HR.out], below_set3 HB0.out (Nat.le_refl _) _ _ _⟩
    simp [results, Tryz.results68, go_sem, dVal, z0, z1, z2]
  | false =>
    have hmt := rmight_calls s n w0 (by omega) hn4 h0' (by omega)
    by_cases hm : mightF (bytesI s) n
    · rw [decide_eq_true hm] at hmt
      have HMT := Lib.hid hmt
      have HR : Hid (decR false (bytesI s) = (-1, 0, true)) := Lib.hid (by rw [hdr, if_pos ⟨by omega, rfl, hm⟩])
      obtain ⟨z0, z1, z2⟩ := box3v hx0
      have zf := boxf hx0
      clear hdr hbl hb0 hx0 hz0 hw0 hcl hl hmt hm
      go_enter Tryz.func68, Tryz.ntmps68
      go_wp2_with (fail)
      rw [HW0.out]
      go_at_call 99
      refine HL.out.mono ?_
      rintro e w1 ⟨rfl, rfl⟩
      go_wp2_with (fail)
      go_at_call 101
      refine HMT.out.mono ?_
      rintro e w1 ⟨rfl, rfl⟩
      go_wp2_with (fail)
      refine bodyPost_ret (v := dVal (-1, 0, true)) ?_ rfl ⟨by rw [HR.out], below_set3 HB0.out (Nat.le_refl _) _ _ _⟩
      simp [results, Tryz.results68, go_sem, dVal, z0, z1, z2]
    · rw [decide_eq_false hm] at hmt
      have HMT := Lib.hid hmt
      have HR : Hid (decR false (bytesI s) = (-1, 1, false)) := Lib.hid (by rw [hdr, if_neg (fun h => hm h.2.2)])
      obtain ⟨z0, z1, z2⟩ := box3v hx0
      have zf := boxf hx0
      clear hdr hbl hb0 hx0 hz0 hw0 hcl hl hmt hm
      go_enter Tryz.func68, Tryz.ntmps68
      go_wp2_with (fail)
      rw [HW0.out]
      go_at_call 99
      refine HL.out.mono ?_
      rintro e w1 ⟨rfl, rfl⟩
      go_wp2_with (fail)
      go_at_call 101
      refine HMT.out.mono ?_
      rintro e w1 ⟨rfl, rfl⟩
      go_wp2_with (fail)
      refine bodyPost_ret (v := dVal (-1, 1, false)) ?_ rfl ⟨by rw [HR.out], below_set3 HB0.out (Nat.le_refl _) _ _ _⟩
      simp [results, Tryz.results68, go_sem, dVal, z0, z1, z2]
def restF (b:List Int):Nat:=(pts [] b).length-sureN (pts [] b)
theorem restF_open {b:List Int} (h:b≠[]) (hm:(dec false b).2.2=true):restF b=b.length:=by
 unfold restF
 rw[pts_open [] h hm]
 have:sureN (b.map (fun _=>unsurePt))=0:=by
  unfold sureN
  cases b<;>simp[unsurePt]
 rw[this,List.length_map];rfl
theorem restF_next {b:List Int} (h:b≠[]) (hm:(dec false b).2.2=false):restF b=restF (b.drop (dec false b).2.1.toNat):=by
 unfold restF
 rw[pts_cons [] h hm]
 have:∀(q:Pt) (L:List Pt),q.sure=true→sureN (q::L)=sureN L+1:=fun q L h=>by unfold sureN;simp[h]
 rw[this _ _ rfl,List.length_cons]
 omega
theorem rrest_calls (s:ByteArray) (w:World) (hsz:s.size≤1000000):Calls Tryz.prog 29 #[.string s] w fun e w'=>e= .returned (.int .i64 ((restF (bytesI s):Nat):Int))∧Below w.heap.size w w':=by
 go_enter Tryz.func29,Tryz.ntmps29
 go_wp2_with (fail)
 go_loopw [0] (fun a wr=>∃s':ByteArray,a= .string s'∧s'.size≤s.size∧Hid (restF (bytesI s')=restF (bytesI s))∧Hid (Below w.heap.size w wr)) (fun a _=>(match a with | .string x=>x.size | _=>0))
 case atStart=>exact⟨s,rfl,Nat.le_refl _,Lib.hid rfl,Lib.hid (Below.refl _ _)⟩
 case round=>
  obtain⟨s',rfl,hs',HR,HB⟩:=hrel
  by_cases h0:s'.size=0
  ·obtain⟨he1,he2,he3⟩:=strE_yes h0
   have HE:Hid (restF (bytesI s)=0):=Lib.hid (by
    rw[←HR.out]
    have:bytesI s'= []:=List.eq_nil_of_length_eq_zero (by rw[bytesI_len];exact h0)
    rw[this];rfl)
   go_wp2_with (fail)
   go_ret
   exact⟨by rw[HE.out];rfl,HB.out⟩
  ·obtain⟨he1,he2,he3⟩:=strE_no h0
   have hne:bytesI s'≠[]:=fun e=>h0 (by rw[←bytesI_len,e];rfl)
   have hd:=rdec_calls s' false wr (by omega)
   rw[decR_eq (fun x hx=>bytesI_lt x hx)]at hd
   have hn:=dec_n (final:=false) hne
   have hro:=restF_open hne
   have hrn:=restF_next hne
   obtain⟨⟨p,n,more⟩,hr⟩:∃r,dec false (bytesI s')=r:=⟨_,rfl⟩
   rw[hr]at hd hn hro hrn
   unfold dVal at hd
   simp only at hd hn hro hrn
   have HD:=Lib.hid hd
   cases more with
   | true=>
    have HE:Hid (restF (bytesI s)=s'.size):=Lib.hid (by rw[←HR.out,hro rfl,bytesI_len])
    clear hd hn hro hrn hr hne
    go_wp2_with (fail)
    go_at_call 68
    refine HD.out.mono ?_
    rintro e w1 ⟨rfl,hb1⟩
    have HB1:=Lib.hid ((HB.out.trans (hb1.mono HB.out.size)).alloc (Nat.le_trans HB.out.size hb1.size) (.cells #[.int .i64 p, .int .i64 n, .bool true] 113))
    clear hb1
    go_wp2_with (fail)
    refine bodyPost_ret (results_tmp rfl _ _ _) rfl ⟨by rw[HE.out];rfl,HB1.out⟩
   | false=>
    obtain⟨hn1,hn2,hn3⟩:=hn.2 rfl
    obtain⟨j,rfl⟩:∃j:Nat,n=j:=⟨n.toNat,by omega⟩
    rw[bytesI_len]at hn2
    have HE:Hid (restF (bytesI (s'.extract j s'.size))=restF (bytesI s)):=Lib.hid (by
     rw[bytesI_skip,←HR.out,hrn rfl];rfl)
    have hj:j≤s'.size:=by omega
    have HSZ:Hid ((s'.extract j s'.size).size=s'.size-j):=Lib.hid (by rw[ByteArray.size_extract];omega)
    have HJ1:1≤j:=by omega
    clear hd hn hro hrn hr hne
    go_wp2_with (fail)
    go_at_call 68
    refine HD.out.mono ?_
    rintro e w1 ⟨rfl,hb1⟩
    have HB1:=Lib.hid ((HB.out.trans (hb1.mono HB.out.size)).alloc (Nat.le_trans HB.out.size hb1.size) (.cells #[.int .i64 p, .int .i64 j, .bool false] 113))
    clear hb1
    go_wp2_with (fail)
    go_roundw
    case rel=>exact⟨_,rfl,by rw[HSZ.out];omega,HE,HB1⟩
    case measure=>
     have:=HSZ.out
     simp only
     omega
theorem conv_bytes0 {w:World} (g c:Nat):(convert 121 9 (.slice (some ⟨g,0,none⟩) 0 c)).run Tryz.prog w= .ok (.string (keyB [])) w:=by
 rw[run_convert_bytes_string (P:=Tryz.prog) _ 121 9 5 _ _ _ Tryz.underlying121 Tryz.underlying5 Tryz.underlying9]
 rw[run_bytesToString _ _ _ _ [] (by
  have:=run_loadCells_list (w:=w) (P:=Tryz.prog) ⟨g,0,none⟩ [] (fun j v hj=>by simp at hj)
  exact this)]
 rfl
theorem conv_row {w:World} {base:Nat} {A:List Int} {v:Value} (h:w.ownsRow base 5 1 v A.length (A.map (.int .u8))) (hv:∃g c,v= .slice (some ⟨g,0,none⟩) A.length c):(convert 121 9 v).run Tryz.prog w= .ok (.string (keyB A)) w:=by
 obtain⟨g,c,rfl⟩:=hv
 cases A with
 | nil=>exact conv_bytes0 g c
 | cons a l=>
  obtain⟨gb,cap,e,_,_,hs⟩:=ownB_at0 h (by simp)
  obtain⟨e1,-,rfl⟩:=Value.slice.inj e
  rw[e1]
  exact conv_bytes hs (by simp)
theorem runOf_take {A:List Int} {j:Nat} (h:∀x∈A.take j,isB x=true) (hm:∀m,A[j]?=some m→isB m=false):runOf A=A.take j:=by
 have e:=List.take_append_drop j A
 unfold runOf
 conv=>lhs;rw[←e]
 rw[List.takeWhile_append_of_pos h]
 cases hd:A.drop j with
 | nil=>simp
 | cons m l=>
  have:A[j]?=some m:=by
   have h2:=congrArg (fun x=>x[0]?) hd
   simpa using h2
  rw[List.takeWhile_cons,hm m this]
  simp
theorem rrun_calls {A:List Int} {ao:Option Addr} {n c:Nat} (f:Nat) (w:World) (hA:SlI w ao n c A) (hf:f≤n) (hsz:n≤100000):
  Calls Tryz.prog 69 #[.slice ao n c, .int .i64 f] w fun e w'=>e= .returned (.string (keyB (runOf (A.drop f))))∧Below w.heap.size w w':=by
 obtain⟨i0,hi,hz0,hz1,hz2⟩:=info_parts infoB
 have HA:=Lib.hid hA
 have HAL:=Lib.hid hA.len
 have HOM:Hid ((w.alloc (.cells #[] 5)).ownsRow w.heap.size 5 1 (.slice (some ⟨w.heap.size,0,none⟩) 0 0) 0 []):=Lib.hid (World.ownsRow_made w #[] 0 (Nat.le_refl _) (by unfold maxLen;omega) rfl)
 clear hA
 go_enter Tryz.func69,Tryz.ntmps69
 go_wp2_with (fail)
 go_loopw [5,6] (fun v i wr=>∃j:Nat,i= .int .i64 ((f+j:Nat):Int)∧f+j≤n∧Hid (∀x∈(A.drop f).take j,isB x=true)∧Hid (∃g cap,v= .slice (some ⟨g,0,none⟩) j cap)∧Hid (wr.ownsRow w.heap.size 5 1 v j (((A.drop f).take j).map (.int .u8)))∧Hid (Below w.heap.size w wr)) (fun _ i _=>n-(intOf i).toNat)
 case atStart=>exact⟨0,rfl,by omega,Lib.hid (by simp),Lib.hid ⟨_,_,rfl⟩,Lib.hid (by simpa using HOM.out),Lib.hid (below_alloc w _)⟩
 case round=>
  obtain⟨j,rfl,hj,HBY,HV,HOW,HB⟩:=hrel
  have hlj:((A.drop f).take j).length=j:=by rw[List.length_take,List.length_drop];have:=HAL.out;omega
  have hcv:(convert 121 9 u5).run Tryz.prog wr= .ok (.string (keyB ((A.drop f).take j))) wr:=conv_row (by rw[hlj];exact HOW.out) (by rw[hlj];exact HV.out)
  by_cases hjt:f+j<n
  ·have gj:((f+j:Nat):Int)<(n:Int):=by omega
   obtain⟨b1,o1,hao,hc1⟩:=(SlI.below HA.out HB.out).at_ hjt
   subst hao
   have hix:=ix_eq (A:=A) (i:=f+j) (by have:=HAL.out;omega)
   have hix2:(A.drop f)[j]?=some (ix A (f+j)):=by rw[List.getElem?_drop];exact hix
   obtain⟨s,hs⟩:∃s,ix A (f+j)=s:=⟨_,rfl⟩
   rw[hs]at hc1 hix2
   have gj1:(0:Int)≤((f+j:Nat):Int):=by omega
   by_cases h1:s<0
   ·have g1:decide (s<0)=true:=by simpa using h1
    have HE:Hid (runOf (A.drop f)=(A.drop f).take j):=Lib.hid (runOf_take HBY.out (fun m hm=>by
     obtain rfl:=Option.some.inj (hix2.symm.trans hm)
     cases hb:isB s with
     | false=>rfl
     | true=>have:=isB_iff.1 hb;omega))
    clear hix hix2 hs hlj
    go_wp2_with (fail)
    refine bodyPost_ret (results_tmp rfl _ _ _) rfl ⟨by rw[HE.out];rfl,HB.out⟩
   have g1:decide (s<0)=false:=by simpa using h1
   by_cases h2:255<s
   ·have g2:decide (255<s)=true:=by simpa using h2
    have HE:Hid (runOf (A.drop f)=(A.drop f).take j):=Lib.hid (runOf_take HBY.out (fun m hm=>by
     obtain rfl:=Option.some.inj (hix2.symm.trans hm)
     cases hb:isB s with
     | false=>rfl
     | true=>have:=isB_iff.1 hb;omega))
    clear hix hix2 hs hlj
    go_wp2_with (fail)
    refine bodyPost_ret (results_tmp rfl _ _ _) rfl ⟨by rw[HE.out];rfl,HB.out⟩
   have g2:decide (255<s)=false:=by simpa using h2
   have hw8:IntKind.u8.wrap s=s:=by rw[IntKind.wrap_u8];omega
   have HTK:Hid ((A.drop f).take (j+1)=(A.drop f).take j++ [s]):=Lib.hid (by rw[List.take_add_one,hix2];rfl)
   have HBY2:Hid (∀x∈(A.drop f).take (j+1),isB x=true):=Lib.hid (fun x hx=>by
    rw[HTK.out]at hx
    rcases List.mem_append.1 hx with h | h
    ·exact HBY.out x h
    ·obtain rfl:=List.mem_singleton.1 h
     exact isB_iff.2 (by omega))
   have HLO:=Lib.hid (World.ownsRow.lt HOW.out)
   have hsW:w.heap.size≤wr.heap.size:=HB.out.size
   clear hix hix2 hs hcv hlj
   go_wp2_with (at_builtin;refine wpList_append_own _ rfl _ _ 121 rfl w.heap.size 5 i0 (.int .u8 0) 1 1 Tryz.underlying121 hi hz0 hz1 hz2 rfl (by decide) _ _ _ rfl (HOW.out.alloc _) ⟨wr.heap.size,0,none⟩ 1 1 [.int .u8 s] rfl rfl (cell_one_new _ _ _) (by simp[Value.oneCell']) (by unfold maxLen;omega) (by omega) (by simp;omega) ?_;intro v' w2 hown' hgrow _)
   have hown2:w2.ownsRow w.heap.size 5 1 v' (j+1) (((A.drop f).take (j+1)).map (.int .u8)):=by rw[HTK.out,List.map_append];exact hown'
   have HOW2:=Lib.hid hown2
   have HV2:Hid (∃g cap,v'= .slice (some ⟨g,0,none⟩) (j+1) cap):=Lib.hid (by
    have hl:((A.drop f).take (j+1)).length=j+1:=by rw[List.length_take,List.length_drop];have:=HAL.out;omega
    have h3:w2.ownsRow w.heap.size 5 1 v' ((A.drop f).take (j+1)).length (((A.drop f).take (j+1)).map (.int .u8)):=by rw[hl];exact hown2
    obtain⟨gb,cap,e,_⟩:=ownB_at0 h3 (by omega)
    rw[hl]at e
    exact⟨gb,cap,e⟩)
   have HB2:Hid (Below w.heap.size w w2):=Lib.hid ((HB.out.alloc hsW _).trans ((Below.refl _ _).grown hgrow (by simp;omega) (fun k hk=>(HLO.out k hk).1)))
   clear hown' hgrow hown2
   go_wp2_with (fail)
   go_roundw
   case rel=>exact⟨j+1,by go_num,by omega,HBY2,HV2,HOW2,HB2⟩
   case measure=>simp[intOf];omega
  ·have hjn:f+j=n:=by omega
   have HE:Hid (runOf (A.drop f)=(A.drop f).take j):=Lib.hid (runOf_take HBY.out (fun m hm=>by
    have:=(List.getElem?_eq_some_iff.1 hm).1
    rw[List.length_drop]at this
    have:=HAL.out
    omega))
   clear hlj
   go_wp2_with (fail)
   go_ret
   exact⟨by rw[HE.out];rfl,HB.out⟩
def lastRun:List Int→List Int
 | []=>[]
 | x::l=>if(x::l).all isB=true then x::l else lastRun l
theorem lastRun_all {A:List Int} (h:∀x∈A,isB x=true):lastRun A=A:=by
 cases A with
 | nil=>rfl
 | cons x l=>unfold lastRun;rw[if_pos (List.all_eq_true.2 h)]
theorem lastRun_not {x:Int} {l:List Int} {m:Int} (h:m∈x::l) (hm:isB m=false):lastRun (x::l)=lastRun l:=by
 show(if _ then _ else _)=_
 rw[if_neg (fun g=>by rw[List.all_eq_true.1 g m h]at hm;cases hm)]
theorem lastRun_drop:∀{n:Nat} {A:List Int} {i:Nat} {m:Int},n≤i→A[i]?=some m→isB m=false→lastRun (A.drop n)=lastRun A
 | 0,A,i,m,_,_,_=>rfl
 | n+1,[],i,m,_,h,_=>by simp at h
 | n+1,x::l,i,m,hi,h,hm=>by
  obtain⟨j,rfl⟩:∃j,i=j+1:=⟨i-1,by omega⟩
  rw[List.getElem?_cons_succ]at h
  rw[List.drop_succ_cons,lastRun_drop (by omega) h hm]
  exact(lastRun_not (List.mem_cons_of_mem _ (List.mem_of_getElem? h)) hm).symm
theorem lastRun_of {A:List Int} {f:Nat} (h:∀x∈A.drop f,isB x=true) (hf:f=0∨∃g m,f=g+1∧A[g]?=some m∧isB m=false):lastRun A=A.drop f:=by
 rcases hf with rfl | ⟨g,m,rfl,hm,hb⟩
 ·exact lastRun_all h
 ·rw[←lastRun_drop (n:=g) (Nat.le_refl _) hm hb]
  have hg:=(List.getElem?_eq_some_iff.1 hm).1
  have hd:A.drop g=m::A.drop (g+1):=by
   rw[List.drop_eq_getElem_cons hg]
   congr 1
   exact(List.getElem?_eq_some_iff.1 hm).2
  rw[hd,lastRun_not (m:=m) (by simp) hb]
  exact lastRun_all h
theorem rlast_calls {A:List Int} {ao:Option Addr} {n c:Nat} (w:World) (hA:SlI w ao n c A) (hsz:n≤100000):
  Calls Tryz.prog 30 #[.slice ao n c] w fun e w'=>e= .returned (.string (keyB (lastRun A)))∧Below w.heap.size w w':=by
 have HA:=Lib.hid hA
 have HAL:=Lib.hid hA.len
 clear hA
 go_enter Tryz.func30,Tryz.ntmps30
 go_wp2_with (fail)
 go_loopw [3,7] (fun v i wr=>∃k f:Nat,i= .int .i64 k∧k≤n∧v= .int .i64 f∧f≤k∧Hid (∀x∈(A.take k).drop f,isB x=true)∧Hid (f=0∨∃g m,f=g+1∧A[g]?=some m∧isB m=false)∧wr=w) (fun _ i _=>n-(intOf i).toNat)
 case atStart=>exact⟨0,0,rfl,Nat.zero_le _,rfl,Nat.le_refl _,Lib.hid (by simp),Lib.hid (.inl rfl),rfl⟩
 case round=>
  obtain⟨k,f,rfl,hk,rfl,hf,HBY,HF,rfl⟩:=hrel
  by_cases hlt:k<n
  ·have gk:(k:Int)<(n:Int):=by omega
   obtain⟨b1,o1,hao,hc1⟩:=HA.out.at_ hlt
   subst hao
   have hix:=ix_eq (A:=A) (i:=k) (by have:=HAL.out;omega)
   obtain⟨s,hs⟩:∃s,ix A k=s:=⟨_,rfl⟩
   rw[hs]at hc1 hix
   have HIX:=Lib.hid hix
   have HNB:Hid (isB s=false→∀x∈(A.take (k+1)).drop (k+1),isB x=true):=Lib.hid (fun _ x hx=>by
    rw[List.drop_eq_nil_of_le (by rw[List.length_take];omega)]at hx
    cases hx)
   have e1:IntKind.i64.wrap ((k:Int)+1)=((k+1:Nat):Int):=by rw[IntKind.wrap_i64];omega
   clear hix hs
   by_cases h1:s<0
   ·have g1:decide (s<0)=true:=by simpa using h1
    have HNO:Hid (isB s=false):=Lib.hid (by
     cases hb:isB s with
     | false=>rfl
     | true=>have:=isB_iff.1 hb;omega)
    go_wp2_with (fail)
    go_roundw
    case rel=>exact⟨k+1,k+1,by go_num,by omega,by go_num,Nat.le_refl _,Lib.hid (HNB.out HNO.out),Lib.hid (.inr ⟨k,s,rfl,HIX.out,HNO.out⟩),by first | rfl | trivial⟩
    case measure=>simp[intOf];omega
   have g1:decide (s<0)=false:=by simpa using h1
   by_cases h2:255<s
   ·have g2:decide (255<s)=true:=by simpa using h2
    have HNO:Hid (isB s=false):=Lib.hid (by
     cases hb:isB s with
     | false=>rfl
     | true=>have:=isB_iff.1 hb;omega)
    go_wp2_with (fail)
    go_roundw
    case rel=>exact⟨k+1,k+1,by go_num,by omega,by go_num,Nat.le_refl _,Lib.hid (HNB.out HNO.out),Lib.hid (.inr ⟨k,s,rfl,HIX.out,HNO.out⟩),by first | rfl | trivial⟩
    case measure=>simp[intOf];omega
   have g2:decide (255<s)=false:=by simpa using h2
   have HBY2:Hid (∀x∈(A.take (k+1)).drop f,isB x=true):=Lib.hid (fun x hx=>by
    rw[List.take_add_one,HIX.out,List.drop_append_of_le_length (by rw[List.length_take];have:=HAL.out;omega)]at hx
    rcases List.mem_append.1 hx with h | h
    ·exact HBY.out x h
    ·simp only[Option.toList_some,List.mem_singleton]at h
     subst h
     exact isB_iff.2 (by omega))
   go_wp2_with (fail)
   go_roundw
   case rel=>exact⟨k+1,f,by go_num,by omega,rfl,by omega,HBY2,HF,by first | rfl | trivial⟩
   case measure=>simp[intOf];omega
  ·obtain rfl:k=n:=by omega
   have hall:∀x∈A.drop f,isB x=true:=by
    have h:=HBY.out
    rw[List.take_of_length_le (by have:=HAL.out;omega)]at h
    exact h
   have HE:Hid (runOf (A.drop f)=lastRun A):=Lib.hid (by
    rw[lastRun_of hall HF.out]
    exact runOf_bytes (fun x hx=>isB_iff.1 (hall x hx)))
   have HR:=Lib.hid (rrun_calls f wr HA.out hf hsz)
   clear hall
   go_wp2_with (fail)
   go_at_call 69
   refine HR.out.mono ?_
   rintro e w1 ⟨rfl,hb1⟩
   have HB1:=Lib.hid hb1
   clear hb1
   go_wp2_with (fail)
   go_ret
   exact⟨by rw[HE.out];rfl,HB1.out⟩
theorem sureN_no {b:List Int}:sureN (b.map (fun _=>unsurePt))=0:=by
 unfold sureN
 cases b<;>simp[unsurePt]
theorem pts_drop {t:List Rg}:∀{k:Nat} {b:List Int},k≤sureN (pts t b)→pts t (b.drop (sumN (pts t b) k).toNat)=(pts t b).drop k
 | 0,b,_=>by simp[sumN]
 | k+1,b,h=>by
  by_cases hb:b= []
  ·subst hb;simp[pts_nil,sureN]at h
  ·cases hm:(dec false b).2.2 with
   | true=>rw[pts_open t hb hm,sureN_no]at h;omega
   | false=>
    have hn:=(dec_n (final:=false) hb).2 hm
    rw[pts_cons t hb hm]at h ⊢
    rw[sureN_cons rfl]at h
    have hs:=sumN_le (t:=t) (b.drop (dec false b).2.1.toNat) k
    have e:sumN (⟨(dec false b).1,clsOf t (dec false b).1,(dec false b).2.1,true⟩::pts t (b.drop (dec false b).2.1.toNat)) (k+1)=(dec false b).2.1+sumN (pts t (b.drop (dec false b).2.1.toNat)) k:=by
     unfold sumN
     rw[List.take_succ_cons,List.map_cons,List.sum_cons]
    rw[e,Int.toNat_add (by omega) (by omega),←List.drop_drop,pts_drop (by omega),List.drop_succ_cons]
theorem sureN_drop {L:List Pt}:∀{k:Nat},k≤sureN L→sureN (L.drop k)=sureN L-k:=by
 induction L with
 | nil=>intro k h;simp[sureN]at h ⊢
 | cons p L ih=>
  intro k h
  cases k with
  | zero=>rfl
  | succ k=>
   cases hs:p.sure with
   | false=>
    have:sureN (p::L)=0:=by unfold sureN;simp[hs]
    omega
   | true=>
    rw[sureN_cons hs]at h ⊢
    rw[List.drop_succ_cons,ih (by omega)]
    omega
theorem restF_any (t:List Rg) (b:List Int):(pts t b).length-sureN (pts t b)=restF b:=by
 refine pts_ind (t:=t) (P:=fun b L=>L.length-sureN L=restF b) rfl ?_ ?_ b
 ·intro b hb hm
  rw[sureN_no,List.length_map,restF_open hb hm];rfl
 ·intro b hb hm ih
  rw[pts_cons t hb hm,sureN_cons rfl,restF_next hb hm,←ih,List.length_cons]
  omega
theorem restF_drop {t:List Rg} {b:List Int} {k:Nat} (h:k≤sureN (pts t b)):restF (b.drop (sumN (pts t b) k).toNat)=restF b:=by
 have hl:=sureN_le (pts t b)
 rw[←restF_any t,←restF_any t,pts_drop h,sureN_drop h,List.length_drop]
 omega
structure Us (L:List Pt) (s:Nat):Prop where
 tl:∀(i:Nat) (p:Pt),s≤i→L[i]?=some p→p.code= -1
 le:s≤L.length
 cl:∀p∈L,p.cls=clsOf usR p.code
theorem us_neg:clsOf usR (-1)=0:=by decide +kernel
theorem us_39:clsOf usR 39=0:=by decide +kernel
section
variable {L:List Pt} {s:Nat} {kind:Int}
theorem Us.drop (h:Us L s) {k:Nat} (hk:k≤s):Us (L.drop k) (s-k):=
 ⟨fun i p hi hp=>h.tl (k+i) p (by omega) (by rw[←List.getElem?_drop];exact hp),by rw[List.length_drop];have:=h.le;omega,fun p hp=>h.cl p (List.mem_of_mem_drop hp)⟩
theorem Us.lt (h:Us L s) {i:Nat} {p:Pt} (hp:L[i]?=some p) (hc:p.cls≠0):i<s:=by
 rcases Nat.lt_or_ge i s with g | g
 ·exact g
 ·have h1:=h.tl i p g hp
  have h2:=h.cl p (List.mem_of_getElem? hp)
  rw[h1,us_neg]at h2
  exact absurd h2 hc
theorem Us.isC (h:Us L s) {i:Nat} {c:Int} (hc:c≠0) (hi:isC L i c=true):i<s:=by
 unfold Go.Proofs.YtimkkkdabmhedaaGreatDoor.isC at hi
 cases hp:L[i]? with
 | none=>rw[hp]at hi;cases hi
 | some p=>
  rw[hp]at hi
  exact h.lt hp (by have:p.cls=c:=of_decide_eq_true hi;omega)
theorem Us.spC (h:Us L s) {i:Nat} (hi:spC L i=true):i<s:=by
 unfold Go.Proofs.YtimkkkdabmhedaaGreatDoor.spC at hi
 cases hp:L[i]? with
 | none=>rw[hp]at hi;cases hi
 | some p=>
  rw[hp]at hi
  refine h.lt hp (fun e=> ?_)
  simp[isSp,e]at hi
theorem Us.cd (h:Us L s) {w:Bool} {i:Nat} (hi:cdC L w i≠ -1):i<s:=by
 unfold cdC at hi
 cases hp:L[i]? with
 | none=>rw[hp]at hi;exact absurd rfl hi
 | some p=>
  rw[hp]at hi
  rcases Nat.lt_or_ge i s with g | g
  ·exact g
  ·have h1:=h.tl i p g hp
   refine absurd ?_ hi
   simp only
   unfold cdOf
   rw[if_neg (by omega),h1]
theorem rowC_at:∀{n i:Nat} {c:Int},rowN L i c=n→∀j,i≤j→j<i+n→isC L j c=true
 | 0,i,c,_,j,h1,h2=>by omega
 | n+1,i,c,e,j,h1,h2=>by
  cases hi:isC L i c with
  | false=>rw[rowN_no hi]at e;cases e
  | true=>
   have h:=(rowN_yes hi).1
   by_cases hj:j=i
   ·subst hj;exact hi
   ·exact rowC_at (n:=n) (i:=i+1) (by omega) j (by omega) (by omega)
theorem row_end:∀{n i:Nat} {c:Int},rowN L i c=n→isC L (i+n) c=false
 | 0,i,c,e=>by
  by_cases hi:isC L i c=true
  ·have:=(rowN_yes hi).1;omega
  ·simpa using hi
 | n+1,i,c,e=>by
  cases hi:isC L i c with
  | false=>rw[rowN_no hi]at e;cases e
  | true=>
   have h:=(rowN_yes hi).1
   have:=row_end (n:=n) (i:=i+1) (c:=c) (by omega)
   rw[show i+(n+1)=i+1+n by omega]
   exact this
theorem sp_at:∀{n i:Nat},spN L i=n→∀j,i≤j→j<i+n→spC L j=true
 | 0,i,_,j,h1,h2=>by omega
 | n+1,i,e,j,h1,h2=>by
  cases hi:spC L i with
  | false=>rw[spN_no hi]at e;cases e
  | true=>
   have h:=(spN_yes hi).1
   by_cases hj:j=i
   ·subst hj;exact hi
   ·exact sp_at (n:=n) (i:=i+1) (by omega) j (by omega) (by omega)
theorem sp_run:∀{n i:Nat},(∀j,i≤j→j<i+n→spC L j=true)→spC L (i+n)=false→spN L i=n
 | 0,i,_,h=>spN_no h
 | n+1,i,h,he=>by
  rw[(spN_yes (h i (Nat.le_refl _) (by omega))).1,sp_run (n:=n) (i:=i+1) (fun j h1 h2=>h j (by omega) (by omega)) (by rw[show i+1+n=i+(n+1) by omega];exact he)]
theorem ns_end:∀{n i:Nat},nsN L i=n→i+n<L.length→spC L (i+n)=true
 | 0,i,e,hl=>by
  by_cases hi:spC L i=true
  ·simpa using hi
  ·have:=nsN_yes (L:=L) (i:=i) (by omega) (by simpa using hi);omega
 | n+1,i,e,hl=>by
  cases hi:spC L i with
  | true=>rw[nsN_no (.inr hi)]at e;cases e
  | false=>
   have h:=nsN_yes (L:=L) (i:=i) (by omega) hi
   have:=ns_end (n:=n) (i:=i+1) (by omega) (by omega)
   rw[show i+(n+1)=i+1+n by omega]
   exact this
theorem Us.row (h:Us L s) {i:Nat} {c:Int} (hc:c≠0) (hi:i≤s):i+rowN L i c≤s:=by
 cases hn:rowN L i c with
 | zero=>omega
 | succ n=>have:=h.isC hc (rowC_at hn (i+n) (by omega) (by omega));omega
theorem Us.sp (h:Us L s):spN L 0≤s:=by
 cases hn:spN L 0 with
 | zero=>omega
 | succ n=>have:=h.spC (sp_at hn n (by omega) (by omega));omega
theorem Us.row0 (h:Us L s) {i:Nat} (hi:i≤L.length):i+rowN L i 0<s∨i+rowN L i 0=L.length:=by
 have hl:=rowN_le L i 0
 have he:=row_end (L:=L) (i:=i) (c:=0) rfl
 rcases Nat.lt_or_ge (i+rowN L i 0) L.length with g | g
 ·obtain⟨p,hp⟩:∃p,L[i+rowN L i 0]?=some p:=⟨_,List.getElem?_eq_getElem g⟩
  unfold Go.Proofs.YtimkkkdabmhedaaGreatDoor.isC at he
  rw[hp]at he
  exact .inl (h.lt hp (by simpa using he))
 ·exact .inr (by omega)
theorem Us.led0 (h:Us L s) (hne:0<L.length):ledN L 0<s∨ledN L 0=L.length:=by
 unfold ledN
 split
 ·have:=h.row0 (i:=1) (by omega);exact this
 ·have:=h.row0 (i:=0) (by omega);simpa using this
theorem Us.led (h:Us L s) {c:Int} (hc:c≠0):ledN L c≤s:=by
 unfold ledN
 split
 ·next g=>have h1:=h.isC hc g.2;have:=h.row (i:=1) hc (by omega);exact this
 ·have:=h.row (i:=0) hc (by omega);omega
theorem Us.end_ (h:Us L s) {w:Bool}:endN L w≤s:=by
 unfold endN
 split
 ·omega
 ·split
  ·next g=>have:=h.cd (w:=w) (i:=1) (by unfold oneE at g;omega);omega
  ·split
   ·next g=>have:=h.cd (w:=w) (i:=2) (by unfold twoE at g;omega);omega
   ·omega
theorem Us.spaces (h:Us L s):(spacesF L).1≤s:=by
 have:=h.sp
 unfold spacesF
 split<;>simp only<;>omega
theorem Us.cut (h:Us L s) (hne:0<L.length) (hk:kind=1∨kind=2∨kind=3):(cutF kind L).1≤s∨(cutF kind L).1=L.length:=by
 have hs:=h.sp
 unfold cutF
 split
 ·unfold wordF
  simp only
  have hl:=nsN_le L (spN L 0)
  have hl2:=spN_le L 0
  rcases Nat.lt_or_ge (spN L 0+nsN L (spN L 0)) L.length with g | g
  ·have:=h.spC (ns_end rfl g);omega
  ·omega
 ·split
  ·unfold plainF
   repeat' split
   ·have:=h.end_ (w:=false);simp only;omega
   ·have:=h.led (c:=1) (by omega);simp only;omega
   ·have:=h.led (c:=2) (by omega);simp only;omega
   ·have:=h.led0 hne;simp only;omega
   ·exact .inl h.spaces
  ·unfold wideF
   repeat' split
   ·have:=h.end_ (w:=true);simp only;omega
   ·have:=h.row (i:=0) (c:=1) (by omega) (by omega);simp only;omega
   ·next g=>have h1:=h.isC (by omega) g.2;have:=h.row (i:=1) (c:=1) (by omega) (by omega);simp only;omega
   ·have:=h.row (i:=0) (c:=2) (by omega) (by omega);simp only;omega
   ·rcases h.led0 hne with g | g
    ·have:=h.row (i:=ledN L 0) (c:=4) (by omega) (by omega);simp only;omega
    ·have:=rowN_le L (ledN L 0) 4;simp only;omega
   ·have:=lineN_le L (spN L 0);simp only;omega
   ·exact .inl h.spaces
def nL (kind:Int):Nat→List Pt→Nat
 | 0,_=>0
 | k+1,L=>if L= []then 0 else 1+nL kind k (L.drop (cutF kind L).1)
theorem nL_nil (k:Nat):nL kind k []=0:=by cases k<;>simp[nL]
theorem good_of (h:Us L s):∀p∈L,0≤p.cls∧p.cls≤4:=fun p hp=>by rw[h.cl p hp];exact clsOf_le mayTab_us _
theorem Us.pos (h:Us L s) (hne:0<L.length):1≤(cutF kind L).1:=by
 have key:∀{L:List Pt},0<L.length→(∀p∈L,0≤p.cls∧p.cls≤4)→1≤(cutF kind L).1:=by
  intro L h hg
  have h0:0≤(ptC L 0).cls∧(ptC L 0).cls≤4:=by
   unfold ptC
   rw[List.getElem?_eq_getElem h]
   exact hg _ (List.getElem_mem h)
  have hm:∀p∈L.map (fun p=>(⟨0,p.cls,1,true⟩:Pt)),PtGood p:=fun p hp=>by
   obtain⟨q,hq,rfl⟩:=List.mem_map.1 hp
   have:=hg q hq
   exact⟨by simp,by simp,this.1,this.2⟩
  unfold cutF
  split
  ·unfold wordF
   cases hs:Go.Proofs.YtimkkkdabmhedaaGreatDoor.spC L 0 with
   | true=>have:=(spN_yes hs).1;simp only;omega
   | false=>
    have e:=spN_no hs
    rw[e]
    have:=nsN_pos h hs
    simp only
    omega
  ·split
   ·unfold plainF
    repeat' split
    all_goals first
     | (simp only;omega)
     | skip
    next h1 h2 h3 h4=>
     refine spacesF_pos (spN_pos h ?_)
     have a1:(ptC L 0).cls≠1:=fun e=>h2 (ledN_pos h e)
     have a2:(ptC L 0).cls≠2:=fun e=>h3 (ledN_pos h e)
     have a0:(ptC L 0).cls≠0:=fun e=>h4 (ledN_pos h e)
     omega
   ·unfold wideF
    repeat' split
    all_goals first
     | (simp only;omega)
     | skip
    next h1 h2 h3 h4 h5 h6=>
     refine spacesF_pos (spN_pos h ?_)
     have a1:(ptC L 0).cls≠1:=fun e=>h2 (rowN_pos h e)
     have a2:(ptC L 0).cls≠2:=fun e=>h4 (rowN_pos h e)
     have a0:(ptC L 0).cls≠0:=fun e=>h5 (ledN_pos h e)
     omega
 exact key hne (good_of h)
end
theorem nL_le {kind:Int} (hk:kind=1∨kind=2∨kind=3):∀{k:Nat} {L:List Pt} {s:Nat},Us L s→nL kind k L≤s+1∧(s=L.length→nL kind k L≤s)
 | 0,L,s,h=>by simp[nL]
 | k+1,L,s,h=>by
  by_cases h0:L= []
  ·subst h0;rw[nL_nil];exact⟨by omega,fun _=>by omega⟩
  ·have hne:=List.length_pos_iff.2 h0
   simp only[nL]
   rw[if_neg h0]
   have hp:=h.pos (kind:=kind) hne
   rcases h.cut hne hk with g | g
   ·have ih:=nL_le hk (k:=k) (h.drop g)
    rw[List.length_drop]at ih
    have hl:=h.le
    exact⟨by omega,fun e=>by have:=ih.2 (by omega);omega⟩
   ·rw[g,List.drop_length,nL_nil]
    exact⟨by omega,fun e=>by omega⟩
theorem nL_two {kind:Int} (hk:kind=1∨kind=2∨kind=3) {k:Nat} {L:List Pt} {s:Nat} (h:Us L s) (hN:s≤(cutF kind L).1):nL kind (k+1) L≤2:=by
 by_cases h0:L= []
 ·subst h0;rw[nL_nil];omega
 ·have hne:=List.length_pos_iff.2 h0
  simp only[nL]
  rw[if_neg h0]
  rcases h.cut hne hk with g | g
  ·have:=(nL_le hk (k:=k) (h.drop g)).1
   omega
  ·rw[g,List.drop_length,nL_nil];omega
theorem line_none {L:List Pt}:∀{n:Nat},(∀j,j<n→isC L j 4=false)→lineN L n=0
 | 0,_=>rfl
 | n+1,h=>by
  simp only[lineN]
  rw[if_neg (by rw[h n (by omega)];simp)]
  exact line_none fun j hj=>h j (by omega)
theorem line_last {L:List Pt}:∀{n j:Nat},lineN L n≤j→j<n→isC L j 4=false
 | 0,j,_,h=>by omega
 | n+1,j,h1,h2=>by
  simp only[lineN]at h1
  split at h1
  ·omega
  ·next g=>
   by_cases e:j=n
   ·subst e;simpa using g
   ·exact line_last (n:=n) h1 (by omega)
theorem isC_other {L:List Pt} {i:Nat} {c d:Int} (h:isC L i c=true) (hn:c≠d):isC L i d=false:=by
 unfold isC at h ⊢
 cases hp:L[i]? with
 | none=>rfl
 | some p=>
  rw[hp]at h
  have:p.cls=c:=of_decide_eq_true h
  simp[this,hn]
theorem isC_three {L:List Pt} {i:Nat} (h:spC L i=true) (h4:isC L i 4=false):isC L i 3=true:=by
 unfold spC at h
 unfold isC at h4 ⊢
 cases hp:L[i]? with
 | none=>rw[hp]at h;cases h
 | some p=>
  rw[hp]at h h4
  simp only at h h4 ⊢
  simp[isSp]at h
  simp at h4
  simp
  exact h.resolve_right h4
theorem spC_three {L:List Pt} {i:Nat} (h:isC L i 3=true):spC L i=true:=by
 unfold isC at h
 unfold spC
 cases hp:L[i]? with
 | none=>rw[hp]at h;cases h
 | some p=>
  rw[hp]at h
  have:p.cls=3:=of_decide_eq_true h
  simp[isSp,this]
theorem three_row {k:Nat} {L:List Pt} {m:Nat} (h:Us L m) (hm:1≤m) (h3:∀j,j<m→isC L j 3=true):nL 3 (k+1) L≤3∧(m=L.length→nL 3 (k+1) L≤1):=by
 have hle:=h.le
 by_cases m1:m=1
 ·have:=nL_le (kind:=3) (by omega) (k:=k+1) h
  exact⟨by omega,fun e=>by have:=this.2 e;omega⟩
 ·have hsp:spN L 0=m:=sp_run (fun j _ hj=>spC_three (h3 j (by omega))) (by
   cases hs:spC L (0+m)with
   | false=>rfl
   | true=>have:=h.spC hs;omega)
  have e0:endN L true=0:=by
   unfold endN
   rw[if_pos (fun e=> ?_)]
   have hi:=h3 0 (by omega)
   unfold cdC at e
   unfold isC at hi
   cases hp:L[0]? with
   | none=>rw[hp]at e;simp at e
   | some p=>
    rw[hp]at e hi
    have hc:p.cls=3:=of_decide_eq_true hi
    have hk:=h.cl p (List.mem_of_getElem? hp)
    simp only at e
    unfold cdOf at e
    split at e
    ·omega
    ·rw[e,us_39]at hk;omega
  have r1:rowN L 0 1=0:=rowN_no (isC_other (h3 0 (by omega)) (by omega))
  have r2:rowN L 0 2=0:=rowN_no (isC_other (h3 0 (by omega)) (by omega))
  have r0:rowN L 0 0=0:=rowN_no (isC_other (h3 0 (by omega)) (by omega))
  have i1:isC L 1 1=false:=isC_other (h3 1 (by omega)) (by omega)
  have i0:isC L 1 0=false:=isC_other (h3 1 (by omega)) (by omega)
  have l0:ledN L 0=0:=by unfold ledN;rw[i0,if_neg (by simp),r0]
  have ln:lineN L (spN L 0)=0:=by rw[hsp];exact line_none fun j hj=>isC_other (h3 j hj) (by omega)
  have hw:cutF 3 L=spacesF L:=by
   unfold cutF
   rw[if_neg (by omega),if_neg (by omega)]
   unfold wideF
   rw[e0,r1,i1,r2,l0,ln]
   simp
  have h0:L≠[]:=fun e=>by rw[e]at hle;simp at hle;omega
  have key:nL 3 (k+1) L=1+nL 3 k (L.drop (spacesF L).1):=by simp only[nL];rw[if_neg h0,hw]
  rw[key]
  unfold spacesF
  rw[hsp]
  by_cases g:m<L.length
  ·rw[if_pos ⟨g,by omega⟩]
   have:=(nL_le (kind:=3) (by omega) (k:=k) (h.drop (k:=m-1) (by omega))).1
   exact⟨by simp only;omega,fun e=>by omega⟩
  ·rw[if_neg (fun x=>g x.1)]
   simp only
   rw[show m=L.length by omega,List.drop_length,nL_nil]
   exact⟨by omega,fun _=>by omega⟩
theorem reach_gap {kind:Int} (hk:kind=1∨kind=2∨kind=3) {L:List Pt} (h:(cutF kind L).1+1<(cutF kind L).2):
  (spN L 0<L.length∧1<spN L 0∧(cutF kind L).1=spN L 0-1∧(cutF kind L).2=spN L 0+1)∨(kind=3∧(cutF kind L).1=lineN L (spN L 0)∧(cutF kind L).2=spN L 0+1):=by
 have hsp:(spacesF L).1+1<(spacesF L).2→spN L 0<L.length∧1<spN L 0∧(spacesF L).1=spN L 0-1∧(spacesF L).2=spN L 0+1:=by
  unfold spacesF
  by_cases g:spN L 0<L.length∧1<spN L 0
  ·rw[if_pos g];exact fun _=>⟨g.1,g.2,rfl,rfl⟩
  ·rw[if_neg g];intro x;simp only at x;omega
 unfold cutF at h ⊢
 by_cases k1:kind=1
 ·rw[if_pos k1]at h;unfold wordF at h;simp only at h;omega
 rw[if_neg k1]at h ⊢
 by_cases k2:kind=2
 ·rw[if_pos k2]at h ⊢
  unfold plainF at h ⊢
  by_cases g0:0<endN L false
  ·rw[if_pos g0]at h;simp only at h;omega
  rw[if_neg g0]at h ⊢
  by_cases g1:0<ledN L 1
  ·rw[if_pos g1]at h;simp only at h;omega
  rw[if_neg g1]at h ⊢
  by_cases g2:0<ledN L 2
  ·rw[if_pos g2]at h;simp only at h;omega
  rw[if_neg g2]at h ⊢
  by_cases g3:0<ledN L 0
  ·rw[if_pos g3]at h;simp only at h;omega
  rw[if_neg g3]at h ⊢
  exact .inl (hsp h)
 ·rw[if_neg k2]at h ⊢
  unfold wideF at h ⊢
  by_cases g0:0<endN L true
  ·rw[if_pos g0]at h;simp only at h;omega
  rw[if_neg g0]at h ⊢
  by_cases g1:0<rowN L 0 1
  ·rw[if_pos g1]at h;simp only at h;omega
  rw[if_neg g1]at h ⊢
  by_cases g2:leadsC L=true∧isC L 1 1=true
  ·rw[if_pos g2]at h;simp only at h;omega
  rw[if_neg g2]at h ⊢
  by_cases g3:0<rowN L 0 2
  ·rw[if_pos g3]at h;simp only at h;omega
  rw[if_neg g3]at h ⊢
  by_cases g4:0<ledN L 0
  ·rw[if_pos g4]at h;simp only at h;omega
  rw[if_neg g4]at h ⊢
  by_cases g5:0<lineN L (spN L 0)
  ·rw[if_pos g5];exact .inr ⟨by omega,rfl,rfl⟩
  rw[if_neg g5]at h ⊢
  exact .inl (hsp h)
theorem nL_few {kind:Int} (hk:kind=1∨kind=2∨kind=3) {k:Nat} {L:List Pt} (h:Us L (sureN L)) (hu:¬((cutF kind L).2≤sureN L∧(kind=1∨¬pendF L (decide (kind=3))))):
  nL kind (k+1+1) L≤4∧(sureN L=L.length→nL kind (k+1+1) L≤2):=by
 have hle:=nL_le hk (k:=k+1+1) h
 by_cases hp:kind≠1∧pendF L (decide (kind=3))
 ·have:=hp.2.2.1
  exact⟨by omega,fun e=>by have:=hle.2 e;omega⟩
 ·have hr:sureN L<(cutF kind L).2:=by
   rcases Nat.lt_or_ge (sureN L) (cutF kind L).2 with g | g
   ·exact g
   ·refine absurd ⟨g,?_⟩ hu
    by_cases k1:kind=1
    ·exact .inl k1
    ·exact .inr fun q=>hp ⟨k1,q⟩
  by_cases hN:sureN L≤(cutF kind L).1
  ·have:=nL_two hk (k:=k+1) h hN
   exact⟨by omega,fun _=>this⟩
  ·have h0:L≠[]:=fun e=>by
    rw[e]at hN
    simp[sureN]at hN
   have key:nL kind (k+1+1) L=1+nL kind (k+1) (L.drop (cutF kind L).1):=by
    show(if L= []then 0 else 1+nL kind (k+1) (L.drop (cutF kind L).1))=_
    rw[if_neg h0]
   have hspl:=h.sp
   rcases reach_gap hk (L:=L) (by omega)with⟨g1,g2,g3,g4⟩ | ⟨g1,g2,g3⟩
   ·rw[key]
    have:=(nL_le hk (k:=k+1) (h.drop (k:=(cutF kind L).1) (by omega))).1
    exact⟨by omega,fun e=>by omega⟩
   ·subst g1
    rw[key]
    have ht:=three_row (k:=k) (h.drop (k:=(cutF 3 L).1) (by omega)) (by omega) (fun j hj=>by
     have e1:isC (L.drop (cutF 3 L).1) j 3=isC L ((cutF 3 L).1+j) 3:=by unfold isC;rw[List.getElem?_drop]
     rw[e1]
     exact isC_three (sp_at (n:=spN L 0) (i:=0) rfl _ (by omega) (by omega)) (line_last (n:=spN L 0) (by omega) (by omega)))
    rw[List.length_drop]at ht
    exact⟨by have:=ht.1;omega,fun e=>by have:=ht.2 (by omega);omega⟩
theorem us_pts {b:List Int} (hb:∀x∈b,0≤x∧x<256):Us (pts usR b) (sureN (pts usR b)):=by
 have hg:=pts_good mayTab_us hb
 have hc:∀p∈pts usR b,p.cls=clsOf usR p.code:=by
  refine pts_ind (t:=usR) (P:=fun b L=>∀p∈L,p.cls=clsOf usR p.code) (by simp) ?_ ?_ b
  ·intro b _ _ p hp
   obtain⟨_,_,rfl⟩:=List.mem_map.1 hp
   exact us_neg.symm
  ·intro b hb hm ih p hp
   rw[pts_cons usR hb hm]at hp
   rcases List.mem_cons.1 hp with rfl | h
   ·rfl
   ·exact ih p h
 refine⟨fun i p hi hp=> ?_,sureN_le _,hc⟩
 have hs:=pts_sure b i p hp
 have:p.sure=false:=by
  cases h:p.sure with
  | false=>rfl
  | true=>have:=hs.1 h;omega
 exact((hg p (List.mem_of_getElem? hp)).1 this).1
theorem split_count {kind:Int} (hk:kind=1∨kind=2∨kind=3):∀{k:Nat} {b:List Int} {op:Bool},(∀x∈b,0≤x∧x<256)→(splitGo kind usR false k b op).length=nL kind k (pts usR b)
 | 0,b,op,_=>rfl
 | k+1,b,op,hb=>by
  by_cases h0:b= []
  ·subst h0;rw[splitGo_nil,pts_nil,nL_nil];rfl
  ·have hr:=runOf_bytes hb
   have hlp:=pts_pos (t:=usR) h0
   have hu:=us_pts hb
   obtain⟨⟨n,d⟩,hn⟩:∃x,nextF kind usR (runOf b) (false || decide ((runOf b).length<b.length))=x:=⟨_,rfl⟩
   have hn1:n=sumN (pts usR b) (cutF kind (pts usR b)).1:=by
    have h:=congrArg Prod.fst hn
    simp only at h
    rw[←h,hr]
    unfold nextF
    rw[if_neg (by omega)]
   rw[splitGo_run (by rw[hr];exact h0) hn,List.length_cons,split_count hk (fun x hx=>hb x (List.mem_of_mem_drop hx))]
   have hne:pts usR b≠[]:=fun e=>by rw[e]at hlp;simp at hlp
   simp only[nL]
   rw[if_neg hne]
   rcases hu.cut hlp hk with g | g
   ·rw[hn1,pts_drop g];omega
   ·have hs:sumN (pts usR b) (cutF kind (pts usR b)).1=b.length:=by
     rw[g]
     unfold sumN
     rw[List.take_length]
     exact pts_sum b
    rw[hn1,hs,g,List.drop_length,Int.toNat_natCast,List.drop_length,pts_nil,nL_nil]
theorem run_mark {A:List Int} (h:(runOf A).length<A.length):∃m,A[(runOf A).length]?=some m∧isB m=false:=by
 refine⟨A[(runOf A).length],List.getElem?_eq_getElem h,?_⟩
 induction A with
 | nil=>simp at h
 | cons x l ih=>
  cases hx:isB x with
  | false=>
   have:runOf (x::l)= []:=by simp[runOf,hx]
   simp only[this,List.length_nil,List.getElem_cons_zero]
   exact hx
  | true=>
   have e:runOf (x::l)=x::runOf l:=by simp[runOf,hx]
   simp only[e,List.length_cons,List.getElem_cons_succ]
   rw[e]at h
   exact ih (by simpa using h)
theorem left_go {kind:Int} (hk:0≤kind∧kind≤3):∀{k:Nat} {text:List Int},text.length≤k→(∀y∈text,0≤y)→
  text.drop (sumP (decd (splitGo kind usR false k text false)))= []∨((∀x∈text.drop (sumP (decd (splitGo kind usR false k text false))),isB x=true)∧
   restF (text.drop (sumP (decd (splitGo kind usR false k text false))))=restF (lastRun text)∧(nextF kind usR (text.drop (sumP (decd (splitGo kind usR false k text false)))) false).2=false)
 | 0,text,h,_=>by
  obtain rfl:text= []:=List.eq_nil_of_length_eq_zero (by omega)
  exact .inl rfl
 | k+1,text,h,hp=>by
  by_cases h0:text= []
  ·subst h0;exact .inl (by simp)
  ·have hl:=List.length_pos_iff.2 h0
   by_cases hr:runOf text= []
   ·cases text with
    | nil=>exact absurd rfl h0
    | cons x l=>
     have hx:isB x=false:=by
      cases hb:isB x with
      | false=>rfl
      | true=>simp[runOf,hb]at hr
     simp only[List.length_cons]at h
     rw[splitGo_mark hx,decd_yes rfl,sumP_cons,show(1:Int).toNat=1 from rfl,Nat.add_comm,List.drop_succ_cons,lastRun_not (m:=x) (by simp) hx]
     exact left_go hk (by omega) (fun y hy=>hp y (by simp[hy]))
   ·obtain⟨⟨n,d⟩,hn⟩:∃x,nextF kind usR (runOf text) (false || decide ((runOf text).length<text.length))=x:=⟨_,rfl⟩
    have hle:=nextF_le (kind:=kind) mayTab_us runOf_b hr (false || decide ((runOf text).length<text.length))
    rw[hn]at hle
    simp only at hle
    have hrl:=runOf_le text
    rw[splitGo_run (text:=text) hr hn]
    cases d with
    | false=>
     rw[decd_no rfl,sumP_nil,List.drop_zero]
     have hf:decide ((runOf text).length<text.length)=false:=by
      cases hd:decide ((runOf text).length<text.length)with
      | false=>rfl
      | true=>
       rw[hd,Bool.or_true]at hn
       have:=nextF_final kind usR (runOf text)
       rw[hn]at this
       cases this
     have hrt:runOf text=text:=(List.takeWhile_prefix isB (l:=text)).eq_of_length (show(runOf text).length=text.length by simp at hf;omega)
     have hall:∀x∈text,isB x=true:=fun x hx=>by rw[←hrt]at hx;exact isB_iff.2 (runOf_b x hx)
     rw[hf,Bool.or_false,hrt]at hn
     exact .inr ⟨hall,by rw[lastRun_all hall],by rw[hn]⟩
    | true=>
     rw[decd_yes rfl,sumP_cons]
     simp only[Bool.false_or,Bool.not_true]
     rw[←List.drop_drop]
     have ih:=left_go hk (k:=k) (text:=text.drop n.toNat) (by simp only[List.length_drop];omega) (fun y hy=>hp y (List.mem_of_mem_drop hy))
     have hlast:restF (lastRun (text.drop n.toNat))=restF (lastRun text):=by
      by_cases hf:(runOf text).length<text.length
      ·obtain⟨m,hm1,hm2⟩:=run_mark hf
       rw[lastRun_drop (by omega) hm1 hm2]
      ·have hrt:runOf text=text:=(List.takeWhile_prefix isB (l:=text)).eq_of_length (show(runOf text).length=text.length by omega)
       have hall:∀x∈text,isB x=true:=fun x hx=>by rw[←hrt]at hx;exact isB_iff.2 (runOf_b x hx)
       rw[lastRun_all hall,lastRun_all (fun x hx=>hall x (List.mem_of_mem_drop hx))]
       rw[show(false || decide ((runOf text).length<text.length))=false by simp[hf],hrt]at hn
       by_cases k0:kind=0
       ·unfold nextF at hn
        rw[if_pos k0]at hn
        have:=congrArg Prod.snd hn
        cases this
       ·unfold nextF at hn
        rw[if_neg k0]at hn
        have h1:=congrArg Prod.fst hn
        have h2:=congrArg Prod.snd hn
        simp only[Bool.false_or,Bool.and_eq_true,decide_eq_true_eq]at h1 h2
        have hcr:=cut_reach kind (pts usR text)
        rw[←h1]
        exact restF_drop (by omega)
     rcases ih with g | ⟨g1,g2,g3⟩
     ·exact .inl g
     ·exact .inr ⟨g1,g2.trans hlast,g3⟩
theorem few_open {V:Vc} {N:List ByteArray} {kind:Int} (hk:0≤kind∧kind≤3) {A:List Int} (hc:checkF V N A=0):
  (splitF kind usR (A.drop (comN kind usR A false)) false).length≤4∧(restF (lastRun A)=0→(splitF kind usR (A.drop (comN kind usR A false)) false).length≤2):=by
 have h:=left_go hk (k:=A.length) (text:=A) (Nat.le_refl _) (fun y hy=>(faultF_pos (checkF_all.1 hc y hy)).1)
 have e:sumP (decd (splitGo kind usR false A.length A false))=comN kind usR A false:=rfl
 rw[e]at h
 generalize A.drop (comN kind usR A false)=R at h ⊢
 rcases h with rfl | ⟨hb,hre,hd⟩
 ·simp[splitF,splitGo]
 ·by_cases h0:R= []
  ·subst h0;simp[splitF,splitGo]
  have hbb:∀x∈R,0≤x∧x<256:=fun x hx=>isB_iff.1 (hb x hx)
  by_cases k0:kind=0
  ·have hlen:=List.length_pos_iff.2 h0
   have:(splitF kind usR R false).length=1:=by
    unfold splitF
    obtain⟨j,hj⟩:∃j,R.length=j+1:=⟨R.length-1,by omega⟩
    have hn:nextF kind usR (runOf R) (false || decide ((runOf R).length<R.length))=((R.length:Int),false):=by
     rw[runOf_bytes hbb]
     unfold nextF
     rw[if_pos k0]
     simp
    rw[hj,splitGo_run (by rw[runOf_bytes hbb];exact h0) hn,Int.toNat_natCast,List.drop_length,splitGo_nil];rfl
   omega
  ·have hk3:kind=1∨kind=2∨kind=3:=by omega
   unfold nextF at hd
   rw[if_neg k0]at hd
   have hu:=us_pts hbb
   have hf:=nL_few hk3 (k:=R.length) hu (fun q=>by
    simp only[Bool.false_or]at hd
    rw[decide_eq_true q.1,Bool.true_and]at hd
    rcases q.2 with g | g
    ·simp[g]at hd
    ·simp[g]at hd)
   have hcn:(splitF kind usR R false).length=nL kind (R.length+1+1) (pts usR R):=by
    rw[←split_count hk3 hbb (op:=false)]
    unfold splitF
    rw[splitGo_more mayTab_us (Nat.le_refl _) (show R.length≤R.length+1+1 by omega)]
   rw[hcn]
   refine⟨hf.1,fun hz=>hf.2 ?_⟩
   have h2:=restF_any usR R
   have h3:=sureN_le (pts usR R)
   omega
end Go.Proofs.YtimkkkdabmhedaaGreatDoor
