/- Walks: may names be, may a table of classes be? (Printed by gClass.py.) -/
import Derived.Test.YtimkkkdabmhedaaGreatDoorD9
import Derived.Test.YtimkkkdabmhedaaGreatDoorD7
import Derived.Test.YtimkkkdabmhedaaGreatDoorD4
import Derived.Test.YtimkkkdabmhedaaGreatDoorD2
set_option linter.unusedVariables false
set_option maxHeartbeats 2000000
set_option maxRecDepth 100000
namespace Go.Proofs.YtimkkkdabmhedaaGreatDoor
open Go.RowKit
def TabPost1 (t:List Rg) (w:World) (e:Ending) (w':World):Prop:=(∃b,e= .returned (.bool b)∧(b=true↔MayTab t))∧Below w.heap.size w w'
def NamesPost (N:List ByteArray) (w:World) (e:Ending) (w':World):Prop:=(∃b,e= .returned (.bool b)∧(b=true↔MayNames N))∧Below w.heap.size w w'
theorem bx3 {w:World} {g:Nat} {x y z:Value} {t:TypeId} (h:w.heap[g]?=some (.cells #[x,y,z] t)):w.cell? ⟨g,0,none⟩=some x∧w.cell? ⟨g,1,none⟩=some y∧w.cell? ⟨g,2,none⟩=some z:=by
 simp[World.cell?,h]
theorem tmayName_calls (s:ByteArray) (hs:s.size≤maxLen) (w:World):Calls Tryz.prog 79 #[.string s] w (NamePost s w):=by
 unfold maxLen at hs
 go_enter Tryz.func79,Tryz.ntmps79
 go_wp2_with (fail)
 go_loop [3,7] (fun _ i=>∃k:Nat,k≤s.size∧i= .int .i64 k∧Hid (SignTo s k)) (fun _ i=>s.size-(intOf i).toNat)
 case atStart=>exact⟨0,Nat.zero_le _,rfl,Lib.hid (SignTo.zero s)⟩
 case round=>
  obtain⟨k,hk,rfl,HS⟩:=hrel
  by_cases hlt:k<s.size
  ·have hsd:sign s[k]=((decide (97≤s[k].toNat) && decide (s[k].toNat≤122)) || (decide (48≤s[k].toNat) && decide (s[k].toNat≤57)) || decide (s[k].toNat=95)):=rfl
   have HSD:=Lib.hid hsd
   have hc256:=s[k].toNat_lt
   clear hsd
   by_cases r0:(s[k].toNat:Int)<48
   ·have g0:decide ((s[k].toNat:Int)<97)=true:=by simp;omega
    have g1:decide ((122:Int)<(s[k].toNat:Int))=false:=by simp;omega
    have g2:decide ((s[k].toNat:Int)<48)=true:=by simp;omega
    have g3:decide ((57:Int)<(s[k].toNat:Int))=false:=by simp;omega
    have g4:((s[k].toNat:Int) != 95)=true:=by simp;omega
    have HF:=Lib.hid (notName_sign hlt (by rw[HSD.out];simp;omega))
    clear r0
    go_wp2_with (fail)
    go_ret
    exact⟨⟨_,rfl,HF.out⟩,rfl⟩
   by_cases r1:(s[k].toNat:Int)≤57
   ·have g0:decide ((s[k].toNat:Int)<97)=true:=by simp;omega
    have g1:decide ((122:Int)<(s[k].toNat:Int))=false:=by simp;omega
    have g2:decide ((s[k].toNat:Int)<48)=false:=by simp;omega
    have g3:decide ((57:Int)<(s[k].toNat:Int))=false:=by simp;omega
    have g4:((s[k].toNat:Int) != 95)=true:=by simp;omega
    have HS2:=Lib.hid (HS.out.next hlt (by rw[HSD.out];simp;omega))
    clear r0 r1
    go_wp2_with (fail)
    go_round
    case rel=>exact⟨k+1,by omega,by go_num,HS2⟩
    case measure=>simp[intOf];omega
   by_cases r2:(s[k].toNat:Int)<95
   ·have g0:decide ((s[k].toNat:Int)<97)=true:=by simp;omega
    have g1:decide ((122:Int)<(s[k].toNat:Int))=false:=by simp;omega
    have g2:decide ((s[k].toNat:Int)<48)=false:=by simp;omega
    have g3:decide ((57:Int)<(s[k].toNat:Int))=true:=by simp;omega
    have g4:((s[k].toNat:Int) != 95)=true:=by simp;omega
    have HF:=Lib.hid (notName_sign hlt (by rw[HSD.out];simp;omega))
    clear r0 r1 r2
    go_wp2_with (fail)
    go_ret
    exact⟨⟨_,rfl,HF.out⟩,rfl⟩
   by_cases r3:(s[k].toNat:Int)=95
   ·have g0:decide ((s[k].toNat:Int)<97)=true:=by simp;omega
    have g1:decide ((122:Int)<(s[k].toNat:Int))=false:=by simp;omega
    have g2:decide ((s[k].toNat:Int)<48)=false:=by simp;omega
    have g3:decide ((57:Int)<(s[k].toNat:Int))=true:=by simp;omega
    have g4:((s[k].toNat:Int) != 95)=false:=by simp;omega
    have HS2:=Lib.hid (HS.out.next hlt (by rw[HSD.out];simp;omega))
    clear r0 r1 r2 r3
    go_wp2_with (fail)
    go_round
    case rel=>exact⟨k+1,by omega,by go_num,HS2⟩
    case measure=>simp[intOf];omega
   by_cases r4:(s[k].toNat:Int)<97
   ·have g0:decide ((s[k].toNat:Int)<97)=true:=by simp;omega
    have g1:decide ((122:Int)<(s[k].toNat:Int))=false:=by simp;omega
    have g2:decide ((s[k].toNat:Int)<48)=false:=by simp;omega
    have g3:decide ((57:Int)<(s[k].toNat:Int))=true:=by simp;omega
    have g4:((s[k].toNat:Int) != 95)=true:=by simp;omega
    have HF:=Lib.hid (notName_sign hlt (by rw[HSD.out];simp;omega))
    clear r0 r1 r2 r3 r4
    go_wp2_with (fail)
    go_ret
    exact⟨⟨_,rfl,HF.out⟩,rfl⟩
   by_cases r5:(s[k].toNat:Int)≤122
   ·have g0:decide ((s[k].toNat:Int)<97)=false:=by simp;omega
    have g1:decide ((122:Int)<(s[k].toNat:Int))=false:=by simp;omega
    have g2:decide ((s[k].toNat:Int)<48)=false:=by simp;omega
    have g3:decide ((57:Int)<(s[k].toNat:Int))=true:=by simp;omega
    have g4:((s[k].toNat:Int) != 95)=true:=by simp;omega
    have HS2:=Lib.hid (HS.out.next hlt (by rw[HSD.out];simp;omega))
    clear r0 r1 r2 r3 r4 r5
    go_wp2_with (fail)
    go_round
    case rel=>exact⟨k+1,by omega,by go_num,HS2⟩
    case measure=>simp[intOf];omega
   have g0:decide ((s[k].toNat:Int)<97)=false:=by simp;omega
   have g1:decide ((122:Int)<(s[k].toNat:Int))=true:=by simp;omega
   have g2:decide ((s[k].toNat:Int)<48)=false:=by simp;omega
   have g3:decide ((57:Int)<(s[k].toNat:Int))=true:=by simp;omega
   have g4:((s[k].toNat:Int) != 95)=true:=by simp;omega
   have HF:=Lib.hid (notName_sign hlt (by rw[HSD.out];simp;omega))
   clear r0 r1 r2 r3 r4 r5
   go_wp2_with (fail)
   go_ret
   exact⟨⟨_,rfl,HF.out⟩,rfl⟩
  ·have HA:=Lib.hid (HS.out.all hlt)
   by_cases hz:s.size=0
   ·obtain⟨e1,e2,e3⟩:=strE_yes hz
    have HF:=Lib.hid (notName_size (s:=s) (by omega))
    go_wp2_with (fail)
    go_ret
    exact⟨⟨_,rfl,HF.out⟩,rfl⟩
   ·obtain⟨e1,e2,e3⟩:=strE_no hz
    by_cases h24:(s.size:Int)≤24
    ·have HF:Hid (MayName s):=Lib.hid ⟨HA.out,by omega,by omega⟩
     have h24':s.size≤24:=by omega
     go_wp2_with (fail)
     go_ret
     exact⟨⟨_,rfl,(fun _=>HF.out),(fun _=>by simp<;>omega)⟩,rfl⟩
    ·have HF:=Lib.hid (notName_size (s:=s) (by omega))
     have h24':¬s.size≤24:=by omega
     go_wp2_with (fail)
     go_ret
     exact⟨⟨_,rfl,by simpa[h24']using HF.out⟩,rfl⟩
theorem classMay_calls {t:List Rg} {to_:Option Addr} {tn tc:Nat} (w:World) (hR:SlF 3 w to_ tn tc (flat Rg.enc t)):
  Calls Tryz.prog 51 #[.slice to_ tn tc] w (TabPost1 t w):=by
 have hm:=Nat.le_trans hR.le hR.max
 unfold maxLen at hm
 have HL:=Lib.hid (hR.count Rg.enc_len (by omega))
 have HR:=Lib.hid hR
 clear hR
 go_enter Tryz.func51,Tryz.ntmps51
 go_wp2_with (fail)
 go_loopw [7] (fun i wr=>∃k:Nat,k≤tn∧i= .int .i64 k∧Hid (TabTo t k)∧Below w.heap.size w wr) (fun i _=>tn-(intOf i).toNat)
 case atStart=>exact⟨0,Nat.zero_le _,rfl,Lib.hid (TabTo.zero t),Below.refl _ _⟩
 case round=>
  obtain⟨k,hk,rfl,HT,hb⟩:=hrel
  have HB:=Lib.hid hb
  clear hb
  by_cases hlt:k<tn
  ·have hkT:k<t.length:=by have:=HL.out;omega
   obtain⟨b,of,rfl,hce⟩:=(HR.out.below HB.out).elem Rg.enc_len (by omega) (rg_eq hkT)
   obtain⟨⟨lo,hi,cl⟩,hseq⟩:∃m,rg t k=m:=⟨_,rfl⟩
   rw[hseq]at hce
   have d0:=hce 0 _ rfl
   have d1:=hce 1 _ rfl
   have d2:=hce 2 _ rfl
   rw[Nat.add_zero]at d0
   simp only at d0 d1 d2
   have HRK:=Lib.hid hseq
   obtain⟨wx,hwx⟩:∃wx,wr.alloc (.cells #[.int .i64 lo, .int .i64 hi, .int .i64 cl] 93)=wx:=⟨_,rfl⟩
   have HBX:Hid (Below w.heap.size w wx):=Lib.hid (by rw[←hwx];exact HB.out.alloc HB.out.size _)
   have hxx:wx.heap[wr.heap.size]?=some (.cells #[.int .i64 lo, .int .i64 hi, .int .i64 cl] 93):=by rw[←hwx];exact heap_alloc_new wr _
   obtain⟨x0,x1,x2⟩:=bx3 hxx
   have HWX:=Lib.hid hwx
   clear hce hseq hwx hxx
   by_cases r0:lo<0
   ·have g0:decide (lo<0)=true:=by simpa using r0
    have HF:=Lib.hid (notTab_ok hkT (by rw[HRK.out];unfold OkRg;simp only;omega))
    clear r0
    go_wp2_with (fail)
    rw[HWX.out]
    go_quiet (fail)
    go_wp2_with (fail)
    go_ret
    exact⟨⟨_,rfl,HF.out⟩,below_drewN HBX.out _⟩
   have g0:decide (lo<0)=false:=by simpa using r0
   by_cases r1:hi<lo
   ·have g1:decide (hi<lo)=true:=by simpa using r1
    have HF:=Lib.hid (notTab_ok hkT (by rw[HRK.out];unfold OkRg;simp only;omega))
    clear r0 r1
    go_wp2_with (fail)
    rw[HWX.out]
    go_quiet (fail)
    go_wp2_with (fail)
    go_ret
    exact⟨⟨_,rfl,HF.out⟩,below_drewN HBX.out _⟩
   have g1:decide (hi<lo)=false:=by simpa using r1
   by_cases r2:1114111<hi
   ·have g2:decide (1114111<hi)=true:=by simpa using r2
    have HF:=Lib.hid (notTab_ok hkT (by rw[HRK.out];unfold OkRg;simp only;omega))
    clear r0 r1 r2
    go_wp2_with (fail)
    rw[HWX.out]
    go_quiet (fail)
    go_wp2_with (fail)
    go_ret
    exact⟨⟨_,rfl,HF.out⟩,below_drewN HBX.out _⟩
   have g2:decide (1114111<hi)=false:=by simpa using r2
   by_cases r3:cl<1
   ·have g3:decide (cl<1)=true:=by simpa using r3
    have HF:=Lib.hid (notTab_ok hkT (by rw[HRK.out];unfold OkRg;simp only;omega))
    clear r0 r1 r2 r3
    go_wp2_with (fail)
    rw[HWX.out]
    go_quiet (fail)
    go_wp2_with (fail)
    go_ret
    exact⟨⟨_,rfl,HF.out⟩,below_drewN HBX.out _⟩
   have g3:decide (cl<1)=false:=by simpa using r3
   by_cases r4:4<cl
   ·have g4:decide (4<cl)=true:=by simpa using r4
    have HF:=Lib.hid (notTab_ok hkT (by rw[HRK.out];unfold OkRg;simp only;omega))
    clear r0 r1 r2 r3 r4
    go_wp2_with (fail)
    rw[HWX.out]
    go_quiet (fail)
    go_wp2_with (fail)
    go_ret
    exact⟨⟨_,rfl,HF.out⟩,below_drewN HBX.out _⟩
   have g4:decide (4<cl)=false:=by simpa using r4
   have HOK:Hid (OkRg (rg t k)):=Lib.hid (by rw[HRK.out];unfold OkRg;simp only;omega)
   clear r0 r1 r2 r3 r4
   by_cases hk0:k=0
   ·have HT2:=Lib.hid (HT.out.next HOK.out (fun h=>by omega))
    have q0:decide ((0:Int)<(k:Int))=false:=by simp;omega
    have q1:decide (0<k)=false:=by simp;omega
    clear hk0
    go_wp2_with (fail)
    rw[HWX.out]
    go_quiet (fail)
    go_wp2_with (fail)
    go_roundw
    case rel=>exact⟨k+1,by omega,by go_num,HT2,below_drewN HBX.out _⟩
    case measure=>simp[intOf];omega
   obtain⟨q,rfl⟩:∃q,k=q+1:=⟨k-1,by omega⟩
   obtain⟨b',of',hao,hcp⟩:=(HR.out.below HBX.out).elem Rg.enc_len (by omega) (rg_eq (t:=t) (i:=q) (by omega))
   simp only[Option.some.injEq,Addr.mk.injEq,and_true]at hao
   obtain⟨rfl,rfl⟩:=hao
   obtain⟨⟨plo,phi,pcl⟩,hpeq⟩:∃m,rg t q=m:=⟨_,rfl⟩
   rw[hpeq]at hcp
   have p1:=hcp 1 _ rfl
   simp only at p1
   have HPK:=Lib.hid hpeq
   have q0:decide ((0:Int)<((q+1:Nat):Int))=true:=by simp
   have q1:decide (0<q+1)=true:=by simp
   have q2:IntKind.i64.wrap (((q+1:Nat):Int)-1)=(q:Int):=by rw[IntKind.wrap_i64];omega
   have q3:((q+1:Nat):Int)-1=(q:Int):=by omega
   have q4:(q:Int)<(tn:Int):=by omega
   have q5:((q:Int)+1-1).toNat=q:=by omega
   have q6:(q:Int)+1-1=(q:Int):=by omega
   clear hcp hpeq hk0
   by_cases hph:lo≤phi
   ·have g9:decide (lo≤phi)=true:=by simpa using hph
    have HF:=Lib.hid (notTab_rise (t:=t) (k:=q+1) (by omega) hkT (by rw[HRK.out,show q+1-1=q by omega,HPK.out];simp only;omega))
    clear hph
    go_wp2_with (fail)
    rw[HWX.out]
    go_quiet (fail)
    go_wp2_with (fail)
    go_ret
    exact⟨⟨_,rfl,HF.out⟩,below_drewN HBX.out _⟩
   have g9:decide (lo≤phi)=false:=by simpa using hph
   have HT2:=Lib.hid (HT.out.next HOK.out (fun _=>by rw[HRK.out,show q+1-1=q by omega,HPK.out];simp only;omega))
   clear hph
   go_wp2_with (fail)
   rw[HWX.out]
   go_quiet (fail)
   go_wp2_with (fail)
   go_roundw
   case rel=>exact⟨q+1+1,by omega,by go_num,HT2,below_drewN HBX.out _⟩
   case measure=>simp[intOf];omega
  ·by_cases h2:(tn:Int)≤200
   ·have HF:Hid (MayTab t):=Lib.hid (HT.out.all (by have:=HL.out;omega) (by have:=HL.out;omega))
    have h2':tn≤200:=by omega
    go_wp2_with (fail)
    go_ret
    exact⟨⟨_,rfl,(fun _=>HF.out),(fun _=>by simp<;>omega)⟩,HB.out⟩
   ·have HF:Hid (¬MayTab t):=Lib.hid (fun h=>by have:=h.1;have:=HL.out;omega)
    have h2':¬tn≤200:=by omega
    go_wp2_with (fail)
    go_ret
    exact⟨⟨false,by simp<;>omega,(fun h=>by cases h),(fun h=>absurd h HF.out)⟩,HB.out⟩
theorem bool_eq {b c:Bool} {p:Prop} (h1:b=true↔p) (h2:c=true↔p):b=c:=by
 cases b<;>cases c<;>simp_all
theorem tmayNames_calls {N:List ByteArray} {no:Option Addr} {nn nc:Nat} (w:World) (hN:SlS w no nn nc N) (hsz:∀s∈N,s.size≤maxLen):
  Calls Tryz.prog 50 #[.slice no nn nc] w (NamesPost N w):=by
 have hm:=Nat.le_trans (Sl.le hN) (Sl.max hN)
 unfold maxLen at hm
 have HL:=Lib.hid hN.count
 have HN:=Lib.hid hN
 have HSZ:=Lib.hid hsz
 clear hN hsz
 go_enter Tryz.func50,Tryz.ntmps50
 go_wp2_with (fail)
 go_loop [7] (fun i=>∃k:Nat,k≤nn∧i= .int .i64 k∧Hid (NamesTo N k)) (fun i=>nn-(intOf i).toNat)
 case atStart=>exact⟨0,Nat.zero_le _,rfl,Lib.hid (NamesTo.zero N)⟩
 case round=>
  obtain⟨k,hk,rfl,HT⟩:=hrel
  by_cases hlt:k<nn
  ·have hkN:k<N.length:=by have:=HL.out;omega
   obtain⟨b,o,rfl,hc⟩:=HN.out.cell (tk_eq hkN)
   have HS1:=Lib.hid (HSZ.out _ (tk_mem hkN))
   obtain⟨s,hs⟩:∃s,tk N k=s:=⟨_,rfl⟩
   rw[hs]at hc HS1
   have HSE:=Lib.hid hs
   clear hs
   go_wp2_with (fail)
   refine(tmayName_calls s HS1.out w).mono ?_
   rintro e w' ⟨⟨bb,rfl,hbb⟩,rfl⟩
   cases bb with
   | false=>
    have HF:=Lib.hid (notNames_name hkN (by rw[HSE.out];intro h;have:=hbb.2 h;cases this))
    clear hbb
    go_wp2_with (fail)
    go_ret
    exact⟨⟨_,rfl,HF.out⟩,Below.refl _ _⟩
   | true=>
    have HM:=Lib.hid (hbb.1 rfl)
    clear hbb
    by_cases hk0:k=0
    ·have HT2:=Lib.hid (HT.out.next (by rw[HSE.out];exact HM.out) (fun h=>by omega))
     have q0:decide ((0:Int)<(k:Int))=false:=by simp;omega
     have q1:decide (0<k)=false:=by simp;omega
     clear hk0
     go_wp2_with (fail)
     go_round
     case rel=>exact⟨k+1,by omega,by go_num,HT2⟩
     case measure=>simp[intOf];omega
    obtain⟨q,rfl⟩:∃q,k=q+1:=⟨k-1,by omega⟩
    obtain⟨b',o',hao,hp⟩:=HN.out.cell (tk_eq (T:=N) (i:=q) (by omega))
    simp only[Option.some.injEq,Addr.mk.injEq,and_true]at hao
    obtain⟨rfl,rfl⟩:=hao
    obtain⟨p,hpq⟩:∃p,tk N q=p:=⟨_,rfl⟩
    rw[hpq]at hp
    have HPE:=Lib.hid hpq
    have q0:decide ((0:Int)<((q+1:Nat):Int))=true:=by simp
    have q1:decide (0<q+1)=true:=by simp
    have q2:IntKind.i64.wrap (((q+1:Nat):Int)-1)=(q:Int):=by rw[IntKind.wrap_i64];omega
    have q3:((q+1:Nat):Int)-1=(q:Int):=by omega
    have q4:(q:Int)<(nn:Int):=by omega
    have q6:(q:Int)+1-1=(q:Int):=by omega
    clear hpq hk0
    cases hbl:Op.bytesLess p.toList s.toList with
    | false=>
     have HF:=Lib.hid (notNames_rise (N:=N) (k:=q+1) (by omega) hkN (by rw[HSE.out,show q+1-1=q by omega,HPE.out];exact hbl))
     go_wp2_with (fail)
     go_ret
     exact⟨⟨_,rfl,HF.out⟩,Below.refl _ _⟩
    | true=>
     have HT2:=Lib.hid (HT.out.next (by rw[HSE.out];exact HM.out) (fun _=>by rw[HSE.out,show q+1-1=q by omega,HPE.out];exact hbl))
     go_wp2_with (fail)
     go_round
     case rel=>exact⟨q+1+1,by omega,by go_num,HT2⟩
     case measure=>simp[intOf];omega
  ·by_cases h2:(nn:Int)≤16
   ·have HF:Hid (MayNames N):=Lib.hid (HT.out.all (by have:=HL.out;omega) (by have:=HL.out;omega))
    have h2':nn≤16:=by omega
    go_wp2_with (fail)
    go_ret
    exact⟨⟨_,rfl,(fun _=>HF.out),(fun _=>by simp<;>omega)⟩,Below.refl _ _⟩
   ·have HF:Hid (¬MayNames N):=Lib.hid (fun h=>by have:=h.1;have:=HL.out;omega)
    have h2':¬nn≤16:=by omega
    go_wp2_with (fail)
    go_ret
    exact⟨⟨false,by simp<;>omega,(fun h=>by cases h),(fun h=>absurd h HF.out)⟩,Below.refl _ _⟩
end Go.Proofs.YtimkkkdabmhedaaGreatDoor
