/- Walks of the reader: letters, endings, what leads. -/
import Derived.Test.YtahiballegpbgaaGreatDoorR24
set_option linter.unusedVariables false
set_option maxHeartbeats 2000000
set_option maxRecDepth 100000
namespace Go.Proofs.YtahiballegpbgaaGreatDoor
open Go.RowKit
def xN (s:ByteArray) (c:Int):Int:=if c<0\/127<c then -1 else Lib.indexByte s.data.toList c.toNat.toUInt8
theorem ones_dec:∀n<128,(0<=Lib.indexByte [115,116,109,100] (Nat.toUInt8 n)↔R7 (n:Int)):=by decide +kernel
theorem rvl_dec:∀n<128,Lib.indexByte [114,118,108] (Nat.toUInt8 n)=if n=114 then 0 else if n=118 then 1 else if n=108 then 2 else -1:=by decide +kernel
theorem let_ones (c:Int):0<=xN ⟨#[115,116,109,100]⟩ c↔R7 c:=by
 unfold xN;split
 ·unfold R7;omega
 ·obtain⟨n,rfl⟩:=Int.eq_ofNat_of_zero_le (show 0<=c by omega);exact ones_dec n (by omega)
theorem aCq (c:Int):xN ⟨#[114,118,108]⟩ c=if c=114 then 0 else if c=118 then 1 else if c=108 then 2 else -1:=by
 unfold xN;split
 ·rw[if_neg (by omega),if_neg (by omega),if_neg (by omega)]
 ·obtain⟨n,rfl⟩:=Int.eq_ofNat_of_zero_le (show 0<=c by omega);refine(rvl_dec n (by omega)).trans ?_
  simp only[show(((n:Int)=114)↔n=114) by omega,show(((n:Int)=118)↔n=118) by omega,show(((n:Int)=108)↔n=108) by omega]
theorem let_fst (c:Int):0<=xN ⟨#[114,118,108]⟩ c↔N8 c:=by
 rw[aCq];unfold N8
 repeat' split
 all_goals omega
theorem jJ (s:ByteArray) (c:Int) (w:World):
  Calls Tryz.prog 236 #[.string s, .int .i64 c] w fun e w'=>e= .returned (.int .i64 (xN s c))/\w=w':=by
 by_cases h1:c<0
 ·have HL:Hid (xN s c= -1):=hW_ (by unfold xN;rw[if_pos (.inl h1)]);go_enter Tryz.func236,Tryz.ntmps236;go_wp2_with (fail);go_ret;exact⟨by rw[HL.out];rfl,rfl⟩
 by_cases h2:127<c
 ·have HL:Hid (xN s c= -1):=hW_ (by unfold xN;rw[if_pos (.inr h2)]);go_enter Tryz.func236,Tryz.ntmps236;go_wp2_with (fail);go_ret;exact⟨by rw[HL.out];rfl,rfl⟩
 have HL:Hid (xN s c=Lib.indexByte s.data.toList c.toNat.toUInt8):=hW_ (by unfold xN;rw[if_neg (by omega)]);have hw8:IntKind.u8.wrap c=c:=by rw[IntKind.wrap_u8];omega
 go_enter Tryz.func236,Tryz.ntmps236;go_wp2_with (fail);refine(xJ s c w).mono ?_
 rintro e w' ⟨rfl,rfl⟩;rw[<-HL.out];go_wp2_with (fail);go_ret;exact⟨rfl,rfl⟩
section
variable {w0:World} {g:Nat} {T:List Rg} {wide:Bool} {L:List Pt} {k:Nat}
theorem Y3 (w:World) (h:RdS w0 w g T wide L k) (hT:oA T):
  Calls Tryz.prog 233 #[.pointer (some ⟨g,0,none⟩)] w fun e w'=>e= .returned (.bool (E6 L))/\oB w0 w' g T wide L k 1:=by
 have hat:=F3 0 w h hT (by omega);clear h;go_enter Tryz.func233,Tryz.ntmps233;go_wp2_with (fail);refine hat.mono ?_
 rintro e w1 ⟨rfl,hr⟩;have hr2:=hr.stay (aA w1 (.cells #[.int .i64 (ptC L 0).code, .int .i64 (ptC L 0).cls, .int .i64 (ptC L 0).n, .bool (ptC L 0).sure] 273));have HR:=hW_ hr2;have HI:Hid (E6 L=(decide ((ptC L 0).cls=0) || decide ((ptC L 0).cls=3))):=hW_ rfl;unfold ptV;obtain⟨p,hp⟩:∃p,ptC L 0=p:=⟨_,rfl⟩;rw[hp]at HR HI |-;clear hr hr2 hat hp
 by_cases h0:p.cls=0
 ·have hb:(p.cls==0)=true:=by simpa using h0
  have HI2:Hid (E6 L=true):=hW_ (by rw[HI.out];simp[h0]);clear h0;go_wp2_with (fail);go_ret;exact⟨sA HI2.out.symm,HR.out⟩
 ·have hb:(p.cls==0)=false:=by simpa using h0
  by_cases h3:p.cls=3
  ·have hb3:(p.cls==3)=true:=by simpa using h3
   have HI2:Hid (E6 L=true):=hW_ (by rw[HI.out];simp[h3]);clear h0 h3;go_wp2_with (fail);go_ret;exact⟨sA HI2.out.symm,HR.out⟩
  ·have hb3:(p.cls==3)=false:=by simpa using h3
   have HI2:Hid (E6 L=false):=hW_ (by rw[HI.out];simp[h0,h3]);clear h0 h3;go_wp2_with (fail);go_ret;exact⟨sA HI2.out.symm,HR.out⟩
def iX (w0:World) (g:Nat) (T:List Rg) (wide:Bool) (L:List Pt) (k:Nat) (e:Ending) (w':World):Prop:=e= .returned (.int .i64 (kD L wide:Nat))/\oB w0 w' g T wide L k (kD L wide)
theorem N9 (w:World) (h:RdS w0 w g T wide L k) (hT:oA T):
  Calls Tryz.prog 229 #[.pointer (some ⟨g,0,none⟩)] w (iX w0 g T wide L k):=by
 have hs0:=qH 0 w h hT (by omega);have hsm:∀(i:Nat) (W:World) (k':Nat),i<=3->RdS w0 W g T wide L k'->Calls Tryz.prog 235 #[.pointer (some ⟨g,0,none⟩), .int .i64 i] W fun e w'=>e= .returned (.int .i64 (cdC L wide i))/\oB w0 w' g T wide L k' (i+1):=
  fun i W k' hi h=>qH i W h hT (by omega)
 have HE:Hid (kD L wide=if cdC L wide 0≠39 then 0 else if R7 (cdC L wide 1)then 2 else if rO (cdC L wide 1) (cdC L wide 2)then 3 else 0):=hW_ rfl;obtain⟨c0,hc0⟩:∃c,cdC L wide 0=c:=⟨_,rfl⟩;have hsm1:=fun W k' h=>hsm 1 W k' (by omega) h
 have hsm2:=fun W k' h=>hsm 2 W k' (by omega) h
 obtain⟨c1,hc1⟩:∃c,cdC L wide 1=c:=⟨_,rfl⟩;obtain⟨c2,hc2⟩:∃c,cdC L wide 2=c:=⟨_,rfl⟩;rw[hc0]at hs0 HE;rw[hc1]at hsm1 HE;rw[hc2]at hsm2 HE;clear h hsm hc0 hc1 hc2
 by_cases h39:c0=39
 ·subst h39;have HE1:Hid (kD L wide=if R7 c1 then 2 else if rO c1 c2 then 3 else 0):=hW_ (by rw[HE.out,if_neg (by simp)]);go_enter Tryz.func229,Tryz.ntmps229;go_wp2_with (fail);refine hs0.mono ?_
  rintro e w1 ⟨rfl,k1,hr1,hk1,_⟩;have h1:=hsm1 w1 k1 hr1;clear hs0 hr1 hsm1;go_wp2_with (fail);refine h1.mono ?_
  rintro e w2 ⟨rfl,k2,hr2,hk2,hk22⟩;have h2:=hsm2 w2.drew k2 (hr2.stay (Below.refl _ _).drew);have HR2:Hid (oB w0 w2 g T wide L k 2):=hW_ ⟨k2,hr2,by omega,hk22⟩;clear h1 hr2 hsm2;go_wp2_with (fail);refine(jJ ⟨#[115,116,109,100]⟩ c1 w2).mono ?_
  rintro e w3 ⟨rfl,rfl⟩;have hlo:=let_ones c1;obtain⟨q,hq⟩:∃q,xN ⟨#[115,116,109,100]⟩ c1=q:=⟨_,rfl⟩;rw[hq]at hlo |-;clear hq
  by_cases hone:R7 c1
  ·have hq0:=hlo.2 hone;have HE2:Hid (kD L wide=2):=hW_ (by rw[HE1.out,if_pos hone]);clear hlo hone h2;go_wp2_with (fail);go_ret;exact⟨by rw[HE2.out];rfl,by rw[HE2.out];exact HR2.out⟩
  ·have hq0:¬0<=q:=fun h=>hone (hlo.1 h)
   have HE2:Hid (kD L wide=if rO c1 c2 then 3 else 0):=hW_ (by rw[HE1.out,if_neg hone]);clear hlo hone;go_wp2_with (fail);refine(jJ ⟨#[114,118,108]⟩ c1 w2).mono ?_
   rintro e w3 ⟨rfl,rfl⟩;rw[aCq];have ew1:IntKind.i64.wrap 101=101:=by decide
   have ew2:IntKind.i64.wrap 108=108:=by decide
   have e0:(({data:=#[101,101,108]}:ByteArray)[0]'(by decide)).toNat=101:=by decide
   have e1:(({data:=#[101,101,108]}:ByteArray)[1]'(by decide)).toNat=101:=by decide
   have e2:(({data:=#[101,101,108]}:ByteArray)[2]'(by decide)).toNat=108:=by decide
   by_cases hf:N8 c1
   ·have hcs:∃(z d:Int),(if c1=114 then(0:Int)else if c1=118 then 1 else if c1=108 then 2 else -1)=z/\((z=0/\d=101)\/(z=1/\d=101)\/(z=2/\d=108))/\(rO c1 c2↔c2=d):=by
     unfold N8 at hf;unfold rO;rcases hf with rfl | rfl | rfl
     ·exact⟨0,101,rfl, .inl ⟨rfl,rfl⟩,by omega⟩
     ·exact⟨1,101,rfl, .inr (.inl ⟨rfl,rfl⟩),by omega⟩
     ·exact⟨2,108,rfl, .inr (.inr ⟨rfl,rfl⟩),by omega⟩
    obtain⟨z,d,hz,hzd,htw⟩:=hcs;rw[hz];clear hz hf
    by_cases htt:rO c1 c2
    ·have HE3:Hid (kD L wide=3):=hW_ (by rw[HE2.out,if_pos htt]);obtain rfl:c2=d:=htw.1 htt;have hbe:(c2==c2)=true:=by simp
     clear htw htt;rcases hzd with⟨rfl,rfl⟩ | ⟨rfl,rfl⟩ | ⟨rfl,rfl⟩
     all_goals(
      go_wp2_with (fail)
      go_region_with (go_at_call 235;refine h2.mono ?_;rintro e w4 ⟨rfl,k4,hr4,hk4,hk44⟩)
      all_goals(
       go_wp2_with (fail);go_ret;exact⟨by rw[HE3.out];rfl,by rw[HE3.out];exact⟨k4,hr4,by omega,hk44⟩⟩))
    ·have HE3:Hid (kD L wide=0):=hW_ (by rw[HE2.out,if_neg htt]);have hbe:(c2==d)=false:=by simpa using fun h=>htt (htw.2 h)
     clear htw htt;rcases hzd with⟨rfl,rfl⟩ | ⟨rfl,rfl⟩ | ⟨rfl,rfl⟩
     all_goals(
      go_wp2_with (fail)
      go_region_with (go_at_call 235;refine h2.mono ?_;rintro e w4 ⟨rfl,k4,hr4,hk4,hk44⟩)
      all_goals(
       go_wp2_with (fail);go_ret;exact⟨by rw[HE3.out];rfl,by rw[HE3.out];exact⟨k4,hr4,by omega,by omega⟩⟩))
   ·have HE3:Hid (kD L wide=0):=hW_ (by rw[HE2.out,if_neg (fun h=>hf (by unfold rO at h;unfold N8;omega))]);have hz:(if c1=114 then(0:Int)else if c1=118 then 1 else if c1=108 then 2 else -1)= -1:=by
     unfold N8 at hf;rw[if_neg (by omega),if_neg (by omega),if_neg (by omega)]
    rw[hz];clear hz hf h2;go_wp2_with (fail)
    try go_region_with (fail)
    all_goals(
     go_wp2_with (fail);go_ret;exact⟨by rw[HE3.out];rfl,by rw[HE3.out];first | exact HR2.out.le (Nat.zero_le _) | exact(HR2.out.stay (Below.refl _ _).drew).le (Nat.zero_le _)⟩)
 ·have hb:(c0==39)=false:=by simpa using h39
  have HE1:Hid (kD L wide=0):=hW_ (by rw[HE.out,if_pos h39]);clear h39;go_enter Tryz.func229,Tryz.ntmps229;go_wp2_with (fail);refine hs0.mono ?_
  rintro e w1 ⟨rfl,hr1⟩;have HR1:=hW_ hr1;clear hs0 hr1;go_wp2_with (fail);go_ret;exact⟨by rw[HE1.out];rfl,by rw[HE1.out];exact HR1.out.le (Nat.zero_le _)⟩
end
end Go.Proofs.YtahiballegpbgaaGreatDoor
