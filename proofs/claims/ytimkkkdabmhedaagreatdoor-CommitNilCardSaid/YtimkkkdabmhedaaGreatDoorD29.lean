/- Walk: class.Of. (Printed by gCls.py.) -/
import Derived.Test.YtimkkkdabmhedaaGreatDoorD28
import Derived.Test.YtimkkkdabmhedaaGreatDoorD10
import Derived.Test.YtimkkkdabmhedaaGreatDoorD3
set_option linter.unusedVariables false
set_option maxHeartbeats 1000000
set_option maxRecDepth 100000
namespace Go.Proofs.YtimkkkdabmhedaaGreatDoor
open Go.RowKit
theorem cmpI_neg {a b:Int}:cmpI a b<0↔a<b:=by
 unfold cmpI;repeat' split
 all_goals omega
theorem cmpI_eq0 {a b:Int}:cmpI a b=0↔a=b:=by
 unfold cmpI;repeat' split
 all_goals omega
theorem ofCmp_calls (p:Rg) (q:Int) (w:World):
  Calls Tryz.prog 191 #[.agg #[.int .i64 p.lo, .int .i64 p.hi, .int .i64 p.cls], .int .i64 q] w fun e w'=>e= .returned (.int .i64 (cmpI p.hi q))∧Below w.heap.size w w':=by
 have HB:=Lib.hid (below_alloc w (.cells #[.int .i64 p.lo, .int .i64 p.hi, .int .i64 p.cls] 93))
 have hcmp:=compareI_calls p.hi q (w.alloc (.cells #[.int .i64 p.lo, .int .i64 p.hi, .int .i64 p.cls] 93))
 go_enter Tryz.func191,Tryz.ntmps191
 go_wp2_with (fail)
 refine hcmp.mono ?_
 rintro e w' ⟨rfl,rfl⟩
 clear hcmp
 go_wp2
 go_ret
 exact⟨rfl,HB.out⟩
theorem binR_calls {P:List Rg} {q:Int} {ro:Option Addr} {rc:Nat} (w:World) (hr:SlF 3 w ro P.length rc (flat Rg.enc P)) (hN:P.length≤1048576)
  {k0:Nat} (hk:k0≤P.length) (hk2:∀t,t<P.length→((rg P t).hi<q↔t<k0)) {bb:Bool} (hbb:bb=true↔(k0<P.length∧(rg P k0).hi=q)):
  Calls Tryz.prog 190 #[.slice ro P.length rc, .int .i64 q, .func (.func 191) #[] #[]] w fun e w'=>e= .returned (.tuple #[.int .i64 (k0:Int), .bool bb])∧Below w.heap.size w w':=by
 have HR:=Lib.hid hr
 have HK:=Lib.hid hk
 have HK2:=Lib.hid hk2
 have HBB:=Lib.hid hbb
 obtain⟨N,hNN⟩:∃N,P.length=N:=⟨_,rfl⟩
 rw[hNN]at HR HK hN ⊢
 have HNN:=Lib.hid hNN
 clear hr hk hk2 hbb hNN
 go_enter Tryz.func190,Tryz.ntmps190
 go_wp2_with (fail)
 go_loopw [9,10] (fun a b wr=>∃lo hi:Nat,a= .int .i64 lo∧b= .int .i64 hi∧Hid (lo≤k0)∧Hid (k0≤hi)∧lo≤hi∧hi≤N∧Below w.heap.size w wr) (fun a b _=>(intOf b).toNat-(intOf a).toNat)
 case atStart=>exact⟨0,N,rfl,rfl,Lib.hid (by omega),HK,by omega,by omega,Below.refl _ _⟩
 case round=>
  obtain⟨lo,hi,rfl,rfl,Hlo,Hhi,hlh,hhn,hb⟩:=hrel
  have HB:=Lib.hid hb
  clear hb
  by_cases hlt:lo<hi
  ·obtain⟨m,hm⟩:∃m,(lo+hi) / 2=m:=⟨_,rfl⟩
   have hmN:m<P.length:=by have:=HNN.out;omega
   obtain⟨b,of,hao,hce⟩:=(HR.out.below HB.out).elem Rg.enc_len (by omega) (rg_eq hmN)
   subst hao
   obtain⟨p,hp⟩:∃p,rg P m=p:=⟨_,rfl⟩
   rw[hp]at hce
   have hcall:=ofCmp_calls p q wr
   have d0:=hce 0 _ rfl
   have d1:=hce 1 _ rfl
   have d2:=hce 2 _ rfl
   rw[Nat.add_zero]at d0
   have hlm:(p.hi<q↔m<k0):=by rw[←hp];exact HK2.out m hmN
   have hmi:((lo:Int)+(hi:Int)) / 2=(m:Int):=by omega
   have hml:lo≤m:=by omega
   have hmh:m<hi:=by omega
   have gm:(m:Int)<(N:Int):=by omega
   clear hm hce hp hmN
   obtain⟨z,hz⟩:∃z,cmpI p.hi q=z:=⟨_,rfl⟩
   have hzl:z<0↔m<k0:=by rw[←hz,cmpI_neg];exact hlm
   rw[hz]at hcall
   clear hlm hz
   by_cases hz0:z<0
   ·have HKM:=Lib.hid (show m+1≤k0 by have:=hzl.1 hz0;omega)
    clear hzl
    go_wp2_with (go_at_call 191;refine hcall.mono ?_;rintro e w' ⟨rfl,hbx⟩)
    go_roundw
    case rel=>exact⟨m+1,hi,by first | go_num | (rw[hmi];rfl),rfl,HKM,Hhi,by omega,hhn,HB.out.trans (hbx.mono HB.out.size)⟩
    case measure=>simp[intOf];omega
   ·have HKM:=Lib.hid (show k0≤m by rcases Nat.lt_or_ge m k0 with h | h;exact absurd (hzl.2 h) hz0;exact h)
    clear hzl
    go_wp2_with (go_at_call 191;refine hcall.mono ?_;rintro e w' ⟨rfl,hbx⟩)
    go_roundw
    case rel=>exact⟨lo,m,rfl,by first | rfl | rw[hmi],Hlo,HKM,hml,by omega,HB.out.trans (hbx.mono HB.out.size)⟩
    case measure=>simp[intOf];omega
  ·have hE:lo=k0:=by have:=Hlo.out;have:=Hhi.out;omega
   subst hE
   by_cases hn:lo<N
   ·have hmN:lo<P.length:=by have:=HNN.out;omega
    obtain⟨b,of,hao,hce⟩:=(HR.out.below HB.out).elem Rg.enc_len (by omega) (rg_eq hmN)
    subst hao
    obtain⟨p,hp⟩:∃p,rg P lo=p:=⟨_,rfl⟩
    rw[hp]at hce HBB
    have hcall:=ofCmp_calls p q wr
    have d0:=hce 0 _ rfl
    have d1:=hce 1 _ rfl
    have d2:=hce 2 _ rfl
    rw[Nat.add_zero]at d0
    have gm:(lo:Int)<(N:Int):=by omega
    have HMN:=Lib.hid hmN
    clear hce hp hmN
    obtain⟨z,hz⟩:∃z,cmpI p.hi q=z:=⟨_,rfl⟩
    have hzl:z=0↔p.hi=q:=by rw[←hz,cmpI_eq0]
    rw[hz]at hcall
    clear hz
    by_cases hz0:z=0
    ·obtain rfl:bb=true:=HBB.out.2 ⟨HMN.out,hzl.1 hz0⟩
     have hb2:(z==0)=true:=by simpa using hz0
     clear hzl hz0
     go_wp2_with (go_at_call 191;refine hcall.mono ?_;rintro e w' ⟨rfl,hbx⟩)
     refine bodyPost_ret (v:= .tuple #[.int .i64 lo, .bool true]) ?_ rfl ⟨rfl,HB.out.trans (hbx.mono HB.out.size)⟩
     simp[results,Tryz.results190,go_sem]
    ·obtain rfl:bb=false:=by
      cases bb with
      | false=>rfl
      | true=>exact absurd (hzl.2 (HBB.out.1 rfl).2) hz0
     have hb2:(z==0)=false:=by simpa using hz0
     clear hzl hz0
     go_wp2_with (go_at_call 191;refine hcall.mono ?_;rintro e w' ⟨rfl,hbx⟩)
     refine bodyPost_ret (v:= .tuple #[.int .i64 lo, .bool false]) ?_ rfl ⟨rfl,HB.out.trans (hbx.mono HB.out.size)⟩
     simp[results,Tryz.results190,go_sem]
   ·obtain rfl:bb=false:=by
     cases bb with
     | false=>rfl
     | true=>exact absurd (HBB.out.1 rfl).1 (by have:=HNN.out;omega)
    go_wp2_with (fail)
    refine bodyPost_ret (v:= .tuple #[.int .i64 lo, .bool false]) ?_ rfl ⟨rfl,HB.out⟩
    simp[results,Tryz.results190,go_sem]
theorem classOf_calls {t:List Rg} {p:Int} {to_:Option Addr} {tn tc:Nat} (w:World) (hR:SlF 3 w to_ tn tc (flat Rg.enc t)) (ht:MayTab t):
  Calls Tryz.prog 185 #[.slice to_ tn tc, .int .i64 p] w fun e w'=>e= .returned (.int .i64 (clsOf t p))∧Below w.heap.size w w':=by
 have hln:t.length=tn:=hR.count Rg.enc_len (by omega)
 subst hln
 have h200:=ht.1
 have hm:=classMay_calls w hR
 have HR:=Lib.hid hR
 have HT:=Lib.hid ht
 obtain⟨bb,hbb⟩:∃bb:Bool,bb=true↔(cutR t p<t.length∧(rg t (cutR t p)).hi=p):=⟨decide (cutR t p<t.length∧(rg t (cutR t p)).hi=p),by simp⟩
 have HBB:=Lib.hid hbb
 have HQ:Hid (∀W,Below w.heap.size w W→Calls Tryz.prog 190 #[.slice to_ t.length tc, .int .i64 p, .func (.func 191) #[] #[]] W fun e w'=>e= .returned (.tuple #[.int .i64 (cutR t p:Int), .bool bb])∧Below W.heap.size W w'):=
  Lib.hid (fun W hb=>binR_calls W (HR.out.below hb) (by omega) (cutR_le t p) (fun i hi=>cutR_iff HT.out p hi) HBB.out)
 obtain⟨k0,hk0⟩:∃k0,cutR t p=k0:=⟨_,rfl⟩
 have HYES:=Lib.hid (clsOf_yes ht (p:=p))
 have HNO:=Lib.hid (clsOf_no ht (p:=p))
 have HLE:=Lib.hid (cutR_le t p)
 rw[hk0]at HQ HYES HNO HLE
 obtain⟨N,hNN⟩:∃N,t.length=N:=⟨_,rfl⟩
 have HNN:=Lib.hid hNN
 rw[hNN]at HQ HYES HNO HLE hm h200 ⊢
 obtain⟨c,hc⟩:∃c,clsOf t p=c:=⟨_,rfl⟩
 rw[hc]at HYES HNO ⊢
 clear hR ht hbb hk0 hNN hc
 go_enter Tryz.func185,Tryz.ntmps185
 go_wp2_with (fail)
 refine hm.mono ?_
 rintro e w1 ⟨⟨b,rfl,hb⟩,hb1⟩
 obtain rfl:b=true:=hb.2 HT.out
 have HB1:=Lib.hid hb1
 clear hb hb1 hm
 go_wp2_with (fail)
 refine(HQ.out w1 HB1.out).mono ?_
 rintro e w2 ⟨rfl,hb2⟩
 have HB2:=Lib.hid (HB1.out.trans (hb2.mono HB1.out.size))
 clear hb2
 by_cases hlt:k0<N
 ·have gk:(k0:Int)<(N:Int):=by omega
  have ge:((k0:Int)==(N:Int))=false:=by simp;omega
  obtain⟨b,of,hao,hce⟩:=(HR.out.below HB2.out).elem Rg.enc_len (by omega) (rg_eq (show k0<t.length by have:=HNN.out;omega))
  subst hao
  have d0:=hce 0 _ rfl
  have d2:=hce 2 _ rfl
  rw[Nat.add_zero]at d0
  obtain⟨x,hx⟩:∃x,rg t k0=x:=⟨_,rfl⟩
  rw[hx]at d0 d2 HYES HNO
  clear hx hce
  by_cases hl:p<x.lo
  ·have hc:=HNO.out (by omega)
   subst hc
   go_wp2_with (fail)
   go_ret
   exact⟨rfl,HB2.out⟩
  ·have hc:=HYES.out hlt (by omega)
   subst hc
   go_wp2_with (fail)
   go_ret
   exact⟨rfl,HB2.out⟩
 ·have hE:k0=N:=by have:=HLE.out;omega
  subst hE
  have hc:=HNO.out (by omega)
  subst hc
  go_wp2_with (fail)
  go_ret
  exact⟨rfl,HB2.out⟩
end Go.Proofs.YtimkkkdabmhedaaGreatDoor
