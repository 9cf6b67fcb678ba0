/- Walks of the reader: may an ending have begun? -/
import Derived.Test.YtahiballegpbgaaGreatDoorR25
import Derived.WalkMore
set_option linter.unusedVariables false
set_option maxHeartbeats 2000000
set_option maxRecDepth 100000
namespace Go.Proofs.YtahiballegpbgaaGreatDoor
open Go.RowKit
section
variable {w0:World} {g:Nat} {T:List Rg} {wide:Bool} {L:List Pt} {k:Nat}
theorem xL (w:World) (h:RdS w0 w g T wide L k) (hT:oA T) {s2 s3 pd:Bool} (hs3:s3=qE L 2) (hs2:s2=qE L 1) (hpd:pd=(decide (cdC L wide 0=39) && (!s3 && (!s2 || decide (N8 (cdC L wide 1)))))):
  Calls Tryz.prog 208 #[.pointer (some ⟨g,0,none⟩)] w fun e w'=>e= .returned (.bool pd)/\oB w0 w' g T wide L k 0:=by
 have hs0:=qH 0 w h hT (by omega);have hsm:∀(W:World) (k':Nat),RdS w0 W g T wide L k'->Calls Tryz.prog 235 #[.pointer (some ⟨g,0,none⟩), .int .i64 1] W fun e w'=>e= .returned (.int .i64 (cdC L wide 1))/\oB w0 w' g T wide L k' (1+1):=
  fun W k' h=>qH 1 W h hT (by omega)
 have hsu3:∀(W:World) (k':Nat),RdS w0 W g T wide L k'->Calls Tryz.prog 207 #[.pointer (some ⟨g,0,none⟩), .int .i64 3] W fun e w'=>e= .returned (.bool s3)/\oB w0 w' g T wide L k' (3-1+1):=
  fun W k' h=>by rw[hs3];exact nG 3 W h hT (by omega)
 have hsu2:∀(W:World) (k':Nat),RdS w0 W g T wide L k'->Calls Tryz.prog 207 #[.pointer (some ⟨g,0,none⟩), .int .i64 2] W fun e w'=>e= .returned (.bool s2)/\oB w0 w' g T wide L k' (2-1+1):=
  fun W k' h=>by rw[hs2];exact nG 2 W h hT (by omega)
 obtain⟨c0,hc0⟩:∃c,cdC L wide 0=c:=⟨_,rfl⟩;obtain⟨c1,hc1⟩:∃c,cdC L wide 1=c:=⟨_,rfl⟩;rw[hc0]at hs0 hpd;rw[hc1]at hsm hpd;have HPD:=hW_ hpd;clear h hc0 hc1 hs2 hs3 hpd
 by_cases h39:c0=39
 ·subst h39;go_enter Tryz.func208,Tryz.ntmps208;go_wp2_with (fail);refine hs0.mono ?_
  rintro e w1 ⟨rfl,k1,hr1,hk1,_⟩;have h1:=hsu3 w1 k1 hr1;clear hs0 hr1 hsu3;go_wp2_with (fail);refine h1.mono ?_
  rintro e w2 ⟨rfl,k2,hr2,hk2,_⟩
  cases s3 with
  | true=>
   have HP:Hid (pd=false):=hW_ (by rw[HPD.out];simp);clear h1 hsu2 hsm;go_wp2_with (fail);go_ret;exact⟨sA HP.out.symm,k2,hr2,by omega,by omega⟩
  | false=>
   have h2:=hsu2 w2 k2 hr2;clear h1 hr2 hsu2;go_wp2_with (fail);refine h2.mono ?_
   rintro e w3 ⟨rfl,k3,hr3,hk3,_⟩
   cases s2 with
   | false=>
    have HP:Hid (pd=true):=hW_ (by rw[HPD.out];simp);clear h2 hsm;go_wp2_with (fail);go_ret;exact⟨sA HP.out.symm,k3,hr3,by omega,by omega⟩
   | true=>
    have h3:=hsm w3 k3 hr3;clear h2 hr3 hsm;go_wp2_with (fail);refine h3.mono ?_
    rintro e w4 ⟨rfl,k4,hr4,hk4,_⟩;clear h3;go_wp2_with (fail);refine(jJ ⟨#[114,118,108]⟩ c1 w4).mono ?_
    rintro e w5 ⟨rfl,rfl⟩;have hlo:=let_fst c1;obtain⟨q,hq⟩:∃q,xN ⟨#[114,118,108]⟩ c1=q:=⟨_,rfl⟩;rw[hq]at hlo |-;have HP:Hid (pd=decide (0<=q)):=hW_ (by rw[HPD.out];simp[hlo]);clear hq hlo;go_wp2_with (fail);go_ret;exact⟨sA HP.out.symm,k4,hr4,by omega,by omega⟩
 ·have hb:(c0==39)=false:=by simpa using h39
  have hbn:(c0 != 39)=true:=by simpa using h39
  have HP:Hid (pd=false):=hW_ (by rw[HPD.out];simp[h39]);clear h39;go_enter Tryz.func208,Tryz.ntmps208;go_wp2_with (fail);refine hs0.mono ?_
  rintro e w1 ⟨rfl,k1,hr1,hk1,_⟩;clear hs0;go_wp2_with (fail);go_ret;exact⟨sA HP.out.symm,k1,hr1,by omega,by omega⟩
end
def nL (w0:World) (g:Nat) (T:List Rg) (wide:Bool) (L:List Pt) (k:Nat) (q:Nat×Nat) (e:Ending) (w':World):Prop:=
 e= .returned (.tuple #[.int .i64 (q.1:Nat), .int .i64 (q.2:Nat)])/\oB w0 w' g T wide L k q.1
theorem oB.up {w0 w':World} {g:Nat} {T:List Rg} {wide:Bool} {L:List Pt} {k n k':Nat} (h:oB w0 w' g T wide L k' n) (hk:k<=k'):oB w0 w' g T wide L k n:=by
 obtain⟨k2,h1,h2,h3⟩:=h;exact⟨k2,h1,by omega,h3⟩
section
variable {w0:World} {g:Nat} {T:List Rg} {L:List Pt} {k:Nat}
theorem fY (w:World) (h:RdS w0 w g T false L k) (hT:oA T):
  Calls Tryz.prog 205 #[.pointer (some ⟨g,0,none⟩)] w (nL w0 g T false L k (E4 L)):=by
 have hsm:=h.small;have hend:=N9 w h hT;have hled:∀(c:Int) (W:World) (k':Nat),RdS w0 W g T false L k'->Calls Tryz.prog 230 #[.pointer (some ⟨g,0,none⟩), .int .i64 c] W fun e w'=>e= .returned (.int .i64 (A7 L c:Nat))/\oB w0 w' g T false L k' (A7 L c+1):=fun c W k' h=>U7 c W h hT
 have hspc:∀(W:World) (k':Nat),RdS w0 W g T false L k'->Calls Tryz.prog 231 #[.pointer (some ⟨g,0,none⟩)] W fun e w'=>e= .returned (.tuple #[.int .i64 ((qA L).1:Nat), .int .i64 ((qA L).2:Nat)])/\oB w0 w' g T false L k' ((qA L).1):=fun W k' h=>bN W h hT
 have HF:Hid (E4 L=if 0<kD L false then(kD L false,kD L false)else if 0<A7 L 1 then(A7 L 1,A7 L 1+1)else if 0<A7 L 2 then(A7 L 2,A7 L 2+1)else if 0<A7 L 0 then(A7 L 0,A7 L 0+1)else qA L):=hW_ rfl;have ix0:∀W,(Instr.index 297 (.agg #[.int .i64 1, .int .i64 2, .int .i64 0]) (.int .i64 0)).run Tryz.prog W= .ok (.int .i64 1) W:=fun W=>rfl
 have ix1:∀W,(Instr.index 297 (.agg #[.int .i64 1, .int .i64 2, .int .i64 0]) (.int .i64 1)).run Tryz.prog W= .ok (.int .i64 2) W:=fun W=>rfl
 have ix2:∀W,(Instr.index 297 (.agg #[.int .i64 1, .int .i64 2, .int .i64 0]) (.int .i64 2)).run Tryz.prog W= .ok (.int .i64 0) W:=fun W=>rfl
 have hle1:=kE L 1;have hle2:=kE L 2;have hle0:=kE L 0;have hlee:=gL L false;unfold iX at hend;have hled1:=hled 1;have hled2:=hled 2;have hled0:=hled 0;obtain⟨q,hq⟩:∃q,E4 L=q:=⟨_,rfl⟩;obtain⟨sp,hsp⟩:∃sp,qA L=sp:=⟨_,rfl⟩;obtain⟨en,hen⟩:∃en,kD L false=en:=⟨_,rfl⟩;obtain⟨l0,hl0⟩:∃l,A7 L 0=l:=⟨_,rfl⟩;obtain⟨l1,hl1⟩:∃l,A7 L 1=l:=⟨_,rfl⟩;obtain⟨l2,hl2⟩:∃l,A7 L 2=l:=⟨_,rfl⟩;rw[hq,hsp,hen,hl0,hl1,hl2]at HF;rw[hl0]at hled0 hle0;rw[hl1]at hled1 hle1;rw[hl2]at hled2 hle2;rw[hen]at hend hlee;rw[hsp]at hspc;rw[hq];clear h hled hq hsp hen hl0 hl1 hl2;go_enter Tryz.func205,Tryz.ntmps205;go_wp2_with (fail);refine hend.mono ?_
 rintro e w1 ⟨rfl,hr1⟩;clear hend
 by_cases hen:0<en
 ·have hF:q=(en,en):=by rw[HF.out,if_pos hen]
  subst hF;have ge:(0:Int)<(en:Int):=by omega
  have HR1:=hW_ hr1;clear hled0 hled1 hled2 hspc hr1;go_wp2_with (fail);refine bodyPost_ret (v:= .tuple #[.int .i64 (en:Nat), .int .i64 (en:Nat)]) ?_ rfl ⟨rfl,HR1.out⟩
  simp[results,Tryz.results205,go_sem]
 have ge:¬(0:Int)<(en:Int):=by omega
 have HF2:Hid (q=if 0<l1 then(l1,l1+1)else if 0<l2 then(l2,l2+1)else if 0<l0 then(l0,l0+1)else sp):=hW_ (by rw[HF.out,if_neg hen]);have HR1:Hid (oB w0 w1 g T false L k 0):=hW_ (hr1.le (Nat.zero_le _));clear hr1 HF;go_wp2_with (fail);go_loopw [15] (fun v wr=>∃j:Nat,v= .int .i64 j/\j<=3/\Hid ((0<j->l1=0)/\(1<j->l2=0)/\(2<j->l0=0))/\Hid (oB w0 wr g T false L k 0)) (fun v _=>3-(intOf v).toNat)
 case atStart=>exact⟨0,rfl,by omega,hW_ ⟨by omega,by omega,by omega⟩,HR1⟩
 case round=>
  obtain⟨j,rfl,hj,HJ,HR⟩:=hrel;obtain⟨k1,hs,hk1,_⟩:=HR.out;rcases(by omega:j=0\/j=1\/j=2\/j=3)with rfl | rfl | rfl | rfl
  ·have h1:=hled1 wr k1 hs;clear hled0 hled1 hled2 hs hspc;go_wp2_with (fail);refine h1.mono ?_
   rintro e w2 ⟨rfl,hr2⟩;have HR2:=hW_ (hr2.up hk1);clear h1 hr2
   by_cases hp:0<l1
   ·have hF:q=(l1,l1+1):=by rw[HF2.out,if_pos hp]
    subst hF;have gp:(0:Int)<(l1:Int):=by omega
    go_wp2_with (fail);refine bodyPost_ret (v:= .tuple #[.int .i64 (l1:Nat), .int .i64 ((l1+1:Nat):Int)]) ?_ rfl ⟨rfl,HR2.out.le (Nat.le_succ _)⟩
    simp[results,Tryz.results205,go_sem]
   ·have gp:¬(0:Int)<(l1:Int):=by omega
    go_wp2_with (fail);go_roundw
    case rel=>exact⟨1,rfl,by omega,hW_ ⟨by omega,by omega,by omega⟩,hW_ (HR2.out.le (Nat.zero_le _))⟩
    case measure=>simp[intOf]
  ·have h1:=hled2 wr k1 hs;have hz1:=HJ.out.1 (by omega);clear hled0 hled1 hled2 hs hspc;go_wp2_with (fail);refine h1.mono ?_
   rintro e w2 ⟨rfl,hr2⟩;have HR2:=hW_ (hr2.up hk1);clear h1 hr2
   by_cases hp:0<l2
   ·have hF:q=(l2,l2+1):=by rw[HF2.out,if_neg (by omega),if_pos hp]
    subst hF;have gp:(0:Int)<(l2:Int):=by omega
    clear hz1;go_wp2_with (fail);refine bodyPost_ret (v:= .tuple #[.int .i64 (l2:Nat), .int .i64 ((l2+1:Nat):Int)]) ?_ rfl ⟨rfl,HR2.out.le (Nat.le_succ _)⟩
    simp[results,Tryz.results205,go_sem]
   ·have gp:¬(0:Int)<(l2:Int):=by omega
    have HZ1:=hW_ hz1;clear hz1;go_wp2_with (fail);go_roundw
    case rel=>exact⟨2,rfl,by omega,hW_ ⟨fun _=>HZ1.out,by omega,by omega⟩,hW_ (HR2.out.le (Nat.zero_le _))⟩
    case measure=>simp[intOf]
  ·have h1:=hled0 wr k1 hs;have hz1:=HJ.out.1 (by omega);have hz2:=HJ.out.2.1 (by omega);clear hled0 hled1 hled2 hs hspc;go_wp2_with (fail);refine h1.mono ?_
   rintro e w2 ⟨rfl,hr2⟩;have HR2:=hW_ (hr2.up hk1);clear h1 hr2
   by_cases hp:0<l0
   ·have hF:q=(l0,l0+1):=by rw[HF2.out,if_neg (by omega),if_neg (by omega),if_pos hp]
    subst hF;have gp:(0:Int)<(l0:Int):=by omega
    clear hz1 hz2;go_wp2_with (fail);refine bodyPost_ret (v:= .tuple #[.int .i64 (l0:Nat), .int .i64 ((l0+1:Nat):Int)]) ?_ rfl ⟨rfl,HR2.out.le (Nat.le_succ _)⟩
    simp[results,Tryz.results205,go_sem]
   ·have gp:¬(0:Int)<(l0:Int):=by omega
    have HZ1:=hW_ hz1;have HZ2:=hW_ hz2;clear hz1 hz2;go_wp2_with (fail);go_roundw
    case rel=>exact⟨3,rfl,by omega,hW_ ⟨fun _=>HZ1.out,fun _=>HZ2.out,by omega⟩,hW_ (HR2.out.le (Nat.zero_le _))⟩
    case measure=>simp[intOf]
  ·have h1:=hspc wr k1 hs;have hF:q=sp:=by
    have z1:=HJ.out.1 (by omega);have z2:=HJ.out.2.1 (by omega);have z3:=HJ.out.2.2 (by omega);rw[HF2.out,if_neg (by omega),if_neg (by omega),if_neg (by omega)]
   subst hF;clear hled0 hled1 hled2 hs hspc;go_wp2_with (fail);refine h1.mono ?_
   rintro e w2 ⟨rfl,hr2⟩;have HR2:=hW_ (hr2.up hk1);clear h1 hr2;go_wp2_with (fail);refine bodyPost_ret (v:= .tuple #[.int .i64 (q.1:Nat), .int .i64 (q.2:Nat)]) ?_ rfl ⟨rfl,HR2.out⟩
   simp[results,Tryz.results205,go_sem]
theorem aAc {wide:Bool} (w:World) (h:RdS w0 w g T wide L k) (hT:oA T):
  Calls Tryz.prog 204 #[.pointer (some ⟨g,0,none⟩)] w (nL w0 g T wide L k (J8 L)):=by
 have hsm:=h.small;have hbl:=nJ w h hT;have hle:=aJ L 0;have hat:∀(i:Nat) (W:World) (k':Nat),i<=L.length->RdS w0 W g T wide L k'->Calls Tryz.prog 227 #[.pointer (some ⟨g,0,none⟩), .int .i64 i] W (aBK w0 g T wide L k' i):=fun i W k' hi h=>F3 i W h hT (by omega)
 have hspa:∀(i:Nat) (W:World) (k':Nat),i<=L.length->RdS w0 W g T wide L k'->Calls Tryz.prog 228 #[.pointer (some ⟨g,0,none⟩), .int .i64 i] W fun e w'=>e= .returned (.bool (spC L i))/\oB w0 w' g T wide L k' (i+1):=fun i W k' hi h=>qP i W h hT (by omega)
 have HF:Hid (J8 L=(spN L 0+nsN L (spN L 0),spN L 0+nsN L (spN L 0)+1)):=hW_ rfl;obtain⟨n,hn⟩:∃n,spN L 0=n:=⟨_,rfl⟩;obtain⟨ln,hln⟩:∃ln,cD L (spN L 0)=ln:=⟨_,rfl⟩;rw[hln]at hbl;rw[hn]at hbl HF hle;have hnL:n<=L.length:=by omega
 obtain⟨q,hq⟩:∃q,J8 L=q:=⟨_,rfl⟩;rw[hq]at HF |-;clear h hn hln hle hq;go_enter Tryz.func204,Tryz.ntmps204;go_wp2_with (fail);go_step3;go_wp2_with (fail);refine hbl.mono ?_
 rintro e w1 ⟨rfl,hr1⟩;have HR1:Hid (oB w0 w1 g T wide L k 0):=hW_ (hr1.le (Nat.zero_le _));clear hbl hr1;go_wp2_with (fail);go_step3;go_wp2_with (fail);go_loopw [4] (fun v wr=>∃j:Nat,v= .int .i64 j/\j<=L.length/\Hid (n+nsN L n=j+nsN L j)/\Hid (oB w0 wr g T wide L k 0)) (fun v _=>L.length-(intOf v).toNat)
 case atStart=>exact⟨n,rfl,hnL,hW_ rfl,HR1⟩
 case round=>
  obtain⟨j,rfl,hj,HJ,HR⟩:=hrel;obtain⟨k1,hs,hk1,_⟩:=HR.out;have h1:=hat j wr k1 hj hs;clear hs hat;go_wp2_with (fail);refine h1.mono ?_
  rintro e w2 ⟨rfl,hr2⟩;have hr3:=(hr2.stay (aA w2 (.cells #[.int .i64 (ptC L j).code, .int .i64 (ptC L j).cls, .int .i64 (ptC L j).n, .bool (ptC L j).sure] 273))).up hk1;have HR3:=hW_ hr3;unfold ptV;obtain⟨p,hp⟩:∃p,ptC L j=p:=⟨_,rfl⟩;rw[hp]at HR3 |-;clear h1 hr2 hr3 hp
  by_cases hl:j<L.length
  ·have hd:decide (j<L.length)=true:=by simpa using hl
   rw[hd];obtain⟨k3,hs3,hk3,_⟩:=HR3.out;have h2:=hspa j _ k3 hj hs3;have HC:=hW_ (show spC L j=spC L j from rfl);obtain⟨b,hb⟩:∃b,spC L j=b:=⟨_,rfl⟩;rw[hb]at h2;have HB:=hW_ hb;clear hs3 hspa hd hb HC;go_wp2_with (fail);refine h2.mono ?_
   rintro e w4 ⟨rfl,hr4⟩;have HR4:=hW_ (hr4.up hk3);clear h2 hr4
   cases b with
   | true=>
    have hF:q=(j,j+1):=by rw[HF.out,HJ.out,nsN_no (.inr HB.out)];rfl
    subst hF;go_wp2_with (fail)
    try rw[Exit.noGoto_ret]
    refine bodyPost_ret (v:= .tuple #[.int .i64 (j:Nat), .int .i64 ((j+1:Nat):Int)]) ?_ rfl ⟨rfl,HR4.out.le (Nat.le_succ _)⟩
    simp[results,Tryz.results204,go_sem]
   | false=>
    have HN:=hW_ (aCe hl HB.out);go_wp2_with (fail);go_roundw
    case rel=>exact⟨j+1,by go_num,by omega,hW_ (by rw[HJ.out,HN.out];omega),hW_ (HR4.out.le (Nat.zero_le _))⟩
    case measure=>simp[intOf];omega
  ·have hd:decide (j<L.length)=false:=by simpa using hl
   rw[hd];have hF:q=(j,j+1):=by rw[HF.out,HJ.out,nsN_no (.inl hl)];rfl
   subst hF;clear hspa hd;go_wp2_with (fail)
   try rw[Exit.noGoto_ret]
   refine bodyPost_ret (v:= .tuple #[.int .i64 (j:Nat), .int .i64 ((j+1:Nat):Int)]) ?_ rfl ⟨rfl,HR3.out.le (Nat.le_succ _)⟩
   simp[results,Tryz.results204,go_sem]
end
theorem jN {L:List Pt} {c:Int} {j:Nat} (h:j<=3) (hj:bB L 0 c=j+bB L j c):(isC L j c=false\/j=3)->min (bB L 0 c) 3=j:=by
 rintro(h1 | rfl)
 ·rw[aBV h1]at hj;omega
 ·omega
section
variable {w0:World} {g:Nat} {T:List Rg} {L:List Pt} {k:Nat}
theorem aAa (w:World) (h:RdS w0 w g T true L k) (hT:oA T):
  Calls Tryz.prog 206 #[.pointer (some ⟨g,0,none⟩)] w (nL w0 g T true L k (nH L)):=by
 have hsm:=h.small;have hend:=N9 w h hT;have hrun:∀(i:Nat) (c:Int) (W:World) (k':Nat),i<=1048576->RdS w0 W g T true L k'->Calls Tryz.prog 232 #[.pointer (some ⟨g,0,none⟩), .int .i64 i, .int .i64 c] W fun e w'=>e= .returned (.int .i64 ((i+bB L i c:Nat):Int))/\oB w0 w' g T true L k' (i+bB L i c+1):=fun i c W k' hi h=>zO i c W h hT hi
 have hled:∀(W:World) (k':Nat),RdS w0 W g T true L k'->Calls Tryz.prog 230 #[.pointer (some ⟨g,0,none⟩), .int .i64 0] W fun e w'=>e= .returned (.int .i64 (A7 L 0:Nat))/\oB w0 w' g T true L k' (A7 L 0+1):=fun W k' h=>U7 0 W h hT
 have hspc:∀(W:World) (k':Nat),RdS w0 W g T true L k'->Calls Tryz.prog 231 #[.pointer (some ⟨g,0,none⟩)] W fun e w'=>e= .returned (.tuple #[.int .i64 ((qA L).1:Nat), .int .i64 ((qA L).2:Nat)])/\oB w0 w' g T true L k' ((qA L).1):=fun W k' h=>bN W h hT
 have hbla:∀(W:World) (k':Nat),RdS w0 W g T true L k'->Calls Tryz.prog 226 #[.pointer (some ⟨g,0,none⟩)] W fun e w'=>e= .returned (.tuple #[.int .i64 (spN L 0:Nat), .int .i64 (cD L (spN L 0):Nat)])/\oB w0 w' g T true L k' (spN L 0+1):=fun W k' h=>nJ W h hT
 have hlea:∀(W:World) (k':Nat),RdS w0 W g T true L k'->Calls Tryz.prog 233 #[.pointer (some ⟨g,0,none⟩)] W fun e w'=>e= .returned (.bool (E6 L))/\oB w0 w' g T true L k' 1:=fun W k' h=>Y3 W h hT
 have his:∀(i:Nat) (c:Int) (W:World) (k':Nat),i<=1048576->RdS w0 W g T true L k'->Calls Tryz.prog 234 #[.pointer (some ⟨g,0,none⟩), .int .i64 i, .int .i64 c] W fun e w'=>e= .returned (.bool (isC L i c))/\oB w0 w' g T true L k' (i+1):=fun i c W k' hi h=>pM i c W h hT hi
 have HF:Hid (nH L=if 0<kD L true then(kD L true,kD L true)
  else if 0<bB L 0 1 then(bB L 0 1,bB L 0 1+1)
  else if E6 L=true/\isC L 1 1=true then(1+bB L 1 1,1+bB L 1 1+1)
  else if 0<bB L 0 2 then(min (bB L 0 2) 3,min (min (bB L 0 2) 3+1) 3)
  else if 0<A7 L 0 then(A7 L 0+bB L (A7 L 0) 4,A7 L 0+bB L (A7 L 0) 4+1)
  else if 0<cD L (spN L 0)then(cD L (spN L 0),spN L 0+1)
  else qA L):=hW_ rfl
 have hlee:=gL L true;have hl1:=C2 L 0 1;have hl11:=C2 L 1 1;have hled0:=kE L 0;have hl4:=C2 L (A7 L 0) 4;have hspl:=aJ L 0;have hlnl:=I1 L (spN L 0);have hrun01:=fun W k' h=>hrun 0 1 W k' (by omega) h
 have hrun11:=fun W k' h=>hrun 1 1 W k' (by omega) h
 have hrunl4:=fun W k' h=>hrun (A7 L 0) 4 W k' (by omega) h
 have his11:=fun W k' h=>his 1 1 W k' (by omega) h
 unfold iX at hend;obtain⟨q,hq⟩:∃q,nH L=q:=⟨_,rfl⟩;obtain⟨en,hen⟩:∃en,kD L true=en:=⟨_,rfl⟩;obtain⟨r1,hr1⟩:∃r,bB L 0 1=r:=⟨_,rfl⟩;obtain⟨r11,hr11⟩:∃r,bB L 1 1=r:=⟨_,rfl⟩;obtain⟨lc,hlc⟩:∃b,E6 L=b:=⟨_,rfl⟩;obtain⟨i11,hi11⟩:∃b,isC L 1 1=b:=⟨_,rfl⟩;obtain⟨r4,hr4⟩:∃r,bB L (A7 L 0) 4=r:=⟨_,rfl⟩;obtain⟨ld,hld⟩:∃l,A7 L 0=l:=⟨_,rfl⟩;obtain⟨ln,hln⟩:∃l,cD L (spN L 0)=l:=⟨_,rfl⟩;obtain⟨sn,hsn⟩:∃s,spN L 0=s:=⟨_,rfl⟩;obtain⟨sp,hsp⟩:∃sp,qA L=sp:=⟨_,rfl⟩;rw[hq,hen,hr1,hlc,hi11,hr11,hr4,hld,hln,hsn,hsp]at HF;rw[hr4,hld]at hrunl4 hl4;rw[hr1]at hrun01 hl1;rw[hr11]at hrun11 hl11;rw[hi11]at his11;rw[hlc]at hlea;rw[hld]at hled hled0;rw[hln]at hbla hlnl;rw[hsn]at hbla hlnl hspl;rw[hsp]at hspc;rw[hen]at hend hlee;rw[hq];clear h hrun hq hen hr1 hlc hi11 hr11 hr4 hld hln hsn hsp;go_enter Tryz.func206,Tryz.ntmps206;go_wp2_with (fail);refine hend.mono ?_
 rintro e w1 ⟨rfl,hr⟩;clear hend
 by_cases hen:0<en
 ·have hF:q=(en,en):=by rw[HF.out,if_pos hen]
  subst hF;have ge:(0:Int)<(en:Int):=by omega
  have HR1:=hW_ hr;clear hrun01 hrun11 hrunl4 his11 hlea hled hbla hspc his hr;go_wp2_with (fail);refine bodyPost_ret (v:= .tuple #[.int .i64 (en:Nat), .int .i64 (en:Nat)]) ?_ rfl ⟨rfl,HR1.out⟩
  simp[results,Tryz.results206,go_sem]
 have ge:¬(0:Int)<(en:Int):=by omega
 rw[if_neg hen]at HF;obtain⟨k1,hs1,hk1,_⟩:=hr;have h1:=hrun01 w1 k1 hs1;clear hs1 hrun01 hen;go_wp2_with (fail);refine h1.mono ?_
 rintro e w2 ⟨rfl,hr2⟩;rw[Nat.zero_add]at hr2 |-;have HR2:=hW_ (hr2.up hk1);clear h1 hr2 ge
 by_cases hp1:0<r1
 ·have hF:q=(r1,r1+1):=by rw[HF.out,if_pos hp1]
  subst hF;have g1:(0:Int)<(r1:Int):=by omega
  clear hrun11 hrunl4 his11 hlea hled hbla hspc his;go_wp2_with (fail);refine bodyPost_ret (v:= .tuple #[.int .i64 (r1:Nat), .int .i64 ((r1+1:Nat):Int)]) ?_ rfl ⟨rfl,HR2.out.le (Nat.le_succ _)⟩
  simp[results,Tryz.results206,go_sem]
 have g1:¬(0:Int)<(r1:Int):=by omega
 rw[if_neg hp1]at HF;obtain⟨k2,hs2,hk2,_⟩:=HR2.out;have h2:=hlea w2 k2 hs2;clear hs2 hlea hp1;go_wp2_with (fail);refine h2.mono ?_
 rintro e w3 ⟨rfl,hr3⟩;have HR3:=hW_ (hr3.up hk2);clear h2 hr3 g1;have key:∀(W:World),oB w0 W g T true L k 0->(¬(lc=true/\i11=true))->True:=fun _ _ _=>trivial
 clear key;obtain⟨k3,hs3,hk3,_⟩:=HR3.out;have h3:=his11 w3 k3 hs3
 cases lc with
 | true=>
  clear hs3 his11;go_wp2_with (fail);refine h3.mono ?_
  rintro e w4 ⟨rfl,hr4⟩;have HR4:=hW_ (hr4.up hk3);clear h3 hr4
  cases i11 with
  | true=>
   have hF:q=(1+r11,1+r11+1):=by rw[HF.out,if_pos (by simp)]
   subst hF;obtain⟨k4,hs4,hk4,_⟩:=HR4.out;have h4:=hrun11 w4 k4 hs4;clear hs4 hrun11 hrunl4 hled hbla hspc his;go_wp2_with (fail);refine h4.mono ?_
   rintro e w5 ⟨rfl,hr5⟩;have HR5:=hW_ (hr5.up hk4);clear h4 hr5;go_wp2_with (fail);refine bodyPost_ret (v:= .tuple #[.int .i64 ((1+r11:Nat):Int), .int .i64 ((1+r11+1:Nat):Int)]) ?_ rfl ⟨rfl,HR5.out.le (Nat.le_succ _)⟩
   simp[results,Tryz.results206,go_sem]
  | false=>
   rw[if_neg (fun h=>by cases h.2)]at HF;have HR0:Hid (oB w0 w4 g T true L k 0):=hW_ (HR4.out.le (Nat.zero_le _));clear hrun11 HR4;go_wp2_with (fail);go_loopw [7] (fun v wr=>∃j:Nat,v= .int .i64 j/\j<=3/\Hid (bB L 0 2=j+bB L j 2)/\Hid (oB w0 wr g T true L k j)) (fun v _=>3-(intOf v).toNat)
   case atStart=>exact⟨0,rfl,by omega,hW_ (by omega),HR0⟩
   case round=>
    obtain⟨j,rfl,hj,HJ,HR⟩:=hrel
    by_cases hj3:j<3
    ·have gj:(j:Int)<3:=by omega
     obtain⟨k5,hs5,hk5,_⟩:=HR.out;have h5:=his j 2 wr k5 (by omega) hs5;obtain⟨b,hb⟩:∃b,isC L j 2=b:=⟨_,rfl⟩;rw[hb]at h5;have HB:=hW_ hb;clear hs5 hb his;go_wp2_with (fail);refine h5.mono ?_
     rintro e w5 ⟨rfl,hr5⟩;have HR5:=hW_ (hr5.up hk5);clear h5 hr5
     cases b with
     | true=>
      have hy:=bK HB.out;have HY:=hW_ hy;clear hy;go_wp2_with (fail);go_roundw
      case rel=>exact⟨j+1,by go_num,by omega,hW_ (by rw[HJ.out,HY.out.1];omega),HR5⟩
      case measure=>simp[intOf];omega
     | false=>
      have HM:Hid (min (bB L 0 2) 3=j):=hW_ (jN hj HJ.out (.inl HB.out))
      by_cases hj0:0<j
      ·have hF:q=(j,min (j+1) 3):=by rw[HF.out,if_pos (by have:=HM.out;omega),HM.out]
       subst hF;have gj0:(0:Int)<((j:Nat):Int):=by omega
       have gmn:min (((j:Nat):Int)+1) 3=((min (j+1) 3:Nat):Int):=by omega
       clear hrunl4 hled hbla hspc;go_wp2_with (fail);refine bodyPost_ret (v:= .tuple #[.int .i64 (j:Nat), .int .i64 ((min (j+1) 3:Nat):Int)]) ?_ rfl ⟨rfl,HR5.out.le (Nat.le_succ _)⟩
       simp[results,Tryz.results206,go_sem]
      have gj0:¬(0:Int)<((j:Nat):Int):=by omega
      rw[if_neg (by have:=HM.out;omega)]at HF;obtain⟨k6,hs6,hk6,_⟩:=HR5.out;have h6:=hled w5 k6 hs6;clear hs6 hled;go_wp2_with (fail);refine h6.mono ?_
      rintro e w6 ⟨rfl,hr6⟩;have HR6:=hW_ (hr6.up hk6);clear h6 hr6 gj0
      by_cases hld0:0<ld
      ·have hF:q=(ld+r4,ld+r4+1):=by rw[HF.out,if_pos hld0]
       subst hF;have gl:(0:Int)<(ld:Int):=by omega
       obtain⟨k7,hs7,hk7,_⟩:=HR6.out;have h7:=hrunl4 w6 k7 hs7;clear hs7 hrunl4 hbla hspc;go_wp2_with (fail);refine h7.mono ?_
       rintro e w7 ⟨rfl,hr7⟩;have HR7:=hW_ (hr7.up hk7);clear h7 hr7;go_wp2_with (fail);refine bodyPost_ret (v:= .tuple #[.int .i64 ((ld+r4:Nat):Int), .int .i64 ((ld+r4+1:Nat):Int)]) ?_ rfl ⟨rfl,HR7.out.le (Nat.le_succ _)⟩
       simp[results,Tryz.results206,go_sem]
      have gl:¬(0:Int)<(ld:Int):=by omega
      rw[if_neg hld0]at HF;obtain⟨k7,hs7,hk7,_⟩:=HR6.out;have h7:=hbla w6 k7 hs7;clear hs7 hbla hrunl4;go_wp2_with (fail);refine h7.mono ?_
      rintro e w7 ⟨rfl,hr7⟩;have HR7:=hW_ (hr7.up hk7);clear h7 hr7 gl
      by_cases hln0:0<ln
      ·have hF:q=(ln,sn+1):=by rw[HF.out,if_pos hln0]
       subst hF;have gn:(0:Int)<(ln:Int):=by omega
       clear hspc;go_wp2_with (fail);refine bodyPost_ret (v:= .tuple #[.int .i64 (ln:Nat), .int .i64 ((sn+1:Nat):Int)]) ?_ rfl ⟨rfl,HR7.out.le (by show ln<=sn+1;omega)⟩
       simp[results,Tryz.results206,go_sem]
      have gn:¬(0:Int)<(ln:Int):=by omega
      rw[if_neg hln0]at HF;obtain⟨k8,hs8,hk8,_⟩:=HR7.out;have h8:=hspc w7 k8 hs8;have hF:q=sp:=HF.out;subst hF;clear hs8 hspc;go_wp2_with (fail);refine h8.mono ?_
      rintro e w8 ⟨rfl,hr8⟩;have HR8:=hW_ (hr8.up hk8);clear h8 hr8 gn;go_wp2_with (fail);refine bodyPost_ret (v:= .tuple #[.int .i64 (q.1:Nat), .int .i64 (q.2:Nat)]) ?_ rfl ⟨rfl,HR8.out⟩
      simp[results,Tryz.results206,go_sem]
    ·have gj:¬(j:Int)<3:=by omega
     have HM:Hid (min (bB L 0 2) 3=j):=hW_ (jN hj HJ.out (.inr (by omega)));clear his
     by_cases hj0:0<j
     ·have hF:q=(j,min (j+1) 3):=by rw[HF.out,if_pos (by have:=HM.out;omega),HM.out]
      subst hF;have gj0:(0:Int)<((j:Nat):Int):=by omega
      have gmn:min (((j:Nat):Int)+1) 3=((min (j+1) 3:Nat):Int):=by omega
      clear hrunl4 hled hbla hspc;go_wp2_with (fail);refine bodyPost_ret (v:= .tuple #[.int .i64 (j:Nat), .int .i64 ((min (j+1) 3:Nat):Int)]) ?_ rfl ⟨rfl,HR.out.le (Nat.le_refl _)⟩
      simp[results,Tryz.results206,go_sem]
     have gj0:¬(0:Int)<((j:Nat):Int):=by omega
     rw[if_neg (by have:=HM.out;omega)]at HF;obtain⟨k6,hs6,hk6,_⟩:=HR.out;have h6:=hled wr k6 hs6;clear hs6 hled;go_wp2_with (fail);refine h6.mono ?_
     rintro e w6 ⟨rfl,hr6⟩;have HR6:=hW_ (hr6.up hk6);clear h6 hr6 gj0
     by_cases hld0:0<ld
     ·have hF:q=(ld+r4,ld+r4+1):=by rw[HF.out,if_pos hld0]
      subst hF;have gl:(0:Int)<(ld:Int):=by omega
      obtain⟨k7,hs7,hk7,_⟩:=HR6.out;have h7:=hrunl4 w6 k7 hs7;clear hs7 hrunl4 hbla hspc;go_wp2_with (fail);refine h7.mono ?_
      rintro e w7 ⟨rfl,hr7⟩;have HR7:=hW_ (hr7.up hk7);clear h7 hr7;go_wp2_with (fail);refine bodyPost_ret (v:= .tuple #[.int .i64 ((ld+r4:Nat):Int), .int .i64 ((ld+r4+1:Nat):Int)]) ?_ rfl ⟨rfl,HR7.out.le (Nat.le_succ _)⟩
      simp[results,Tryz.results206,go_sem]
     have gl:¬(0:Int)<(ld:Int):=by omega
     rw[if_neg hld0]at HF;obtain⟨k7,hs7,hk7,_⟩:=HR6.out;have h7:=hbla w6 k7 hs7;clear hs7 hbla hrunl4;go_wp2_with (fail);refine h7.mono ?_
     rintro e w7 ⟨rfl,hr7⟩;have HR7:=hW_ (hr7.up hk7);clear h7 hr7 gl
     by_cases hln0:0<ln
     ·have hF:q=(ln,sn+1):=by rw[HF.out,if_pos hln0]
      subst hF;have gn:(0:Int)<(ln:Int):=by omega
      clear hspc;go_wp2_with (fail);refine bodyPost_ret (v:= .tuple #[.int .i64 (ln:Nat), .int .i64 ((sn+1:Nat):Int)]) ?_ rfl ⟨rfl,HR7.out.le (by show ln<=sn+1;omega)⟩
      simp[results,Tryz.results206,go_sem]
     have gn:¬(0:Int)<(ln:Int):=by omega
     rw[if_neg hln0]at HF;obtain⟨k8,hs8,hk8,_⟩:=HR7.out;have h8:=hspc w7 k8 hs8;have hF:q=sp:=HF.out;subst hF;clear hs8 hspc;go_wp2_with (fail);refine h8.mono ?_
     rintro e w8 ⟨rfl,hr8⟩;have HR8:=hW_ (hr8.up hk8);clear h8 hr8 gn;go_wp2_with (fail);refine bodyPost_ret (v:= .tuple #[.int .i64 (q.1:Nat), .int .i64 (q.2:Nat)]) ?_ rfl ⟨rfl,HR8.out⟩
     simp[results,Tryz.results206,go_sem]
 | false=>
  rw[if_neg (fun h=>by cases h.1)]at HF;have HR0:Hid (oB w0 w3 g T true L k 0):=hW_ (HR3.out.le (Nat.zero_le _));clear hs3 his11 h3 hrun11;go_wp2_with (fail);go_loopw [7] (fun v wr=>∃j:Nat,v= .int .i64 j/\j<=3/\Hid (bB L 0 2=j+bB L j 2)/\Hid (oB w0 wr g T true L k j)) (fun v _=>3-(intOf v).toNat)
  case atStart=>exact⟨0,rfl,by omega,hW_ (by omega),HR0⟩
  case round=>
   obtain⟨j,rfl,hj,HJ,HR⟩:=hrel
   by_cases hj3:j<3
   ·have gj:(j:Int)<3:=by omega
    obtain⟨k5,hs5,hk5,_⟩:=HR.out;have h5:=his j 2 wr k5 (by omega) hs5;obtain⟨b,hb⟩:∃b,isC L j 2=b:=⟨_,rfl⟩;rw[hb]at h5;have HB:=hW_ hb;clear hs5 hb his;go_wp2_with (fail);refine h5.mono ?_
    rintro e w5 ⟨rfl,hr5⟩;have HR5:=hW_ (hr5.up hk5);clear h5 hr5
    cases b with
    | true=>
     have hy:=bK HB.out;have HY:=hW_ hy;clear hy;go_wp2_with (fail);go_roundw
     case rel=>exact⟨j+1,by go_num,by omega,hW_ (by rw[HJ.out,HY.out.1];omega),HR5⟩
     case measure=>simp[intOf];omega
    | false=>
     have HM:Hid (min (bB L 0 2) 3=j):=hW_ (jN hj HJ.out (.inl HB.out))
     by_cases hj0:0<j
     ·have hF:q=(j,min (j+1) 3):=by rw[HF.out,if_pos (by have:=HM.out;omega),HM.out]
      subst hF;have gj0:(0:Int)<((j:Nat):Int):=by omega
      have gmn:min (((j:Nat):Int)+1) 3=((min (j+1) 3:Nat):Int):=by omega
      clear hrunl4 hled hbla hspc;go_wp2_with (fail);refine bodyPost_ret (v:= .tuple #[.int .i64 (j:Nat), .int .i64 ((min (j+1) 3:Nat):Int)]) ?_ rfl ⟨rfl,HR5.out.le (Nat.le_succ _)⟩
      simp[results,Tryz.results206,go_sem]
     have gj0:¬(0:Int)<((j:Nat):Int):=by omega
     rw[if_neg (by have:=HM.out;omega)]at HF;obtain⟨k6,hs6,hk6,_⟩:=HR5.out;have h6:=hled w5 k6 hs6;clear hs6 hled;go_wp2_with (fail);refine h6.mono ?_
     rintro e w6 ⟨rfl,hr6⟩;have HR6:=hW_ (hr6.up hk6);clear h6 hr6 gj0
     by_cases hld0:0<ld
     ·have hF:q=(ld+r4,ld+r4+1):=by rw[HF.out,if_pos hld0]
      subst hF;have gl:(0:Int)<(ld:Int):=by omega
      obtain⟨k7,hs7,hk7,_⟩:=HR6.out;have h7:=hrunl4 w6 k7 hs7;clear hs7 hrunl4 hbla hspc;go_wp2_with (fail);refine h7.mono ?_
      rintro e w7 ⟨rfl,hr7⟩;have HR7:=hW_ (hr7.up hk7);clear h7 hr7;go_wp2_with (fail);refine bodyPost_ret (v:= .tuple #[.int .i64 ((ld+r4:Nat):Int), .int .i64 ((ld+r4+1:Nat):Int)]) ?_ rfl ⟨rfl,HR7.out.le (Nat.le_succ _)⟩
      simp[results,Tryz.results206,go_sem]
     have gl:¬(0:Int)<(ld:Int):=by omega
     rw[if_neg hld0]at HF;obtain⟨k7,hs7,hk7,_⟩:=HR6.out;have h7:=hbla w6 k7 hs7;clear hs7 hbla hrunl4;go_wp2_with (fail);refine h7.mono ?_
     rintro e w7 ⟨rfl,hr7⟩;have HR7:=hW_ (hr7.up hk7);clear h7 hr7 gl
     by_cases hln0:0<ln
     ·have hF:q=(ln,sn+1):=by rw[HF.out,if_pos hln0]
      subst hF;have gn:(0:Int)<(ln:Int):=by omega
      clear hspc;go_wp2_with (fail);refine bodyPost_ret (v:= .tuple #[.int .i64 (ln:Nat), .int .i64 ((sn+1:Nat):Int)]) ?_ rfl ⟨rfl,HR7.out.le (by show ln<=sn+1;omega)⟩
      simp[results,Tryz.results206,go_sem]
     have gn:¬(0:Int)<(ln:Int):=by omega
     rw[if_neg hln0]at HF;obtain⟨k8,hs8,hk8,_⟩:=HR7.out;have h8:=hspc w7 k8 hs8;have hF:q=sp:=HF.out;subst hF;clear hs8 hspc;go_wp2_with (fail);refine h8.mono ?_
     rintro e w8 ⟨rfl,hr8⟩;have HR8:=hW_ (hr8.up hk8);clear h8 hr8 gn;go_wp2_with (fail);refine bodyPost_ret (v:= .tuple #[.int .i64 (q.1:Nat), .int .i64 (q.2:Nat)]) ?_ rfl ⟨rfl,HR8.out⟩
     simp[results,Tryz.results206,go_sem]
   ·have gj:¬(j:Int)<3:=by omega
    have HM:Hid (min (bB L 0 2) 3=j):=hW_ (jN hj HJ.out (.inr (by omega)));clear his
    by_cases hj0:0<j
    ·have hF:q=(j,min (j+1) 3):=by rw[HF.out,if_pos (by have:=HM.out;omega),HM.out]
     subst hF;have gj0:(0:Int)<((j:Nat):Int):=by omega
     have gmn:min (((j:Nat):Int)+1) 3=((min (j+1) 3:Nat):Int):=by omega
     clear hrunl4 hled hbla hspc;go_wp2_with (fail);refine bodyPost_ret (v:= .tuple #[.int .i64 (j:Nat), .int .i64 ((min (j+1) 3:Nat):Int)]) ?_ rfl ⟨rfl,HR.out.le (Nat.le_refl _)⟩
     simp[results,Tryz.results206,go_sem]
    have gj0:¬(0:Int)<((j:Nat):Int):=by omega
    rw[if_neg (by have:=HM.out;omega)]at HF;obtain⟨k6,hs6,hk6,_⟩:=HR.out;have h6:=hled wr k6 hs6;clear hs6 hled;go_wp2_with (fail);refine h6.mono ?_
    rintro e w6 ⟨rfl,hr6⟩;have HR6:=hW_ (hr6.up hk6);clear h6 hr6 gj0
    by_cases hld0:0<ld
    ·have hF:q=(ld+r4,ld+r4+1):=by rw[HF.out,if_pos hld0]
     subst hF;have gl:(0:Int)<(ld:Int):=by omega
     obtain⟨k7,hs7,hk7,_⟩:=HR6.out;have h7:=hrunl4 w6 k7 hs7;clear hs7 hrunl4 hbla hspc;go_wp2_with (fail);refine h7.mono ?_
     rintro e w7 ⟨rfl,hr7⟩;have HR7:=hW_ (hr7.up hk7);clear h7 hr7;go_wp2_with (fail);refine bodyPost_ret (v:= .tuple #[.int .i64 ((ld+r4:Nat):Int), .int .i64 ((ld+r4+1:Nat):Int)]) ?_ rfl ⟨rfl,HR7.out.le (Nat.le_succ _)⟩
     simp[results,Tryz.results206,go_sem]
    have gl:¬(0:Int)<(ld:Int):=by omega
    rw[if_neg hld0]at HF;obtain⟨k7,hs7,hk7,_⟩:=HR6.out;have h7:=hbla w6 k7 hs7;clear hs7 hbla hrunl4;go_wp2_with (fail);refine h7.mono ?_
    rintro e w7 ⟨rfl,hr7⟩;have HR7:=hW_ (hr7.up hk7);clear h7 hr7 gl
    by_cases hln0:0<ln
    ·have hF:q=(ln,sn+1):=by rw[HF.out,if_pos hln0]
     subst hF;have gn:(0:Int)<(ln:Int):=by omega
     clear hspc;go_wp2_with (fail);refine bodyPost_ret (v:= .tuple #[.int .i64 (ln:Nat), .int .i64 ((sn+1:Nat):Int)]) ?_ rfl ⟨rfl,HR7.out.le (by show ln<=sn+1;omega)⟩
     simp[results,Tryz.results206,go_sem]
    have gn:¬(0:Int)<(ln:Int):=by omega
    rw[if_neg hln0]at HF;obtain⟨k8,hs8,hk8,_⟩:=HR7.out;have h8:=hspc w7 k8 hs8;have hF:q=sp:=HF.out;subst hF;clear hs8 hspc;go_wp2_with (fail);refine h8.mono ?_
    rintro e w8 ⟨rfl,hr8⟩;have HR8:=hW_ (hr8.up hk8);clear h8 hr8 gn;go_wp2_with (fail);refine bodyPost_ret (v:= .tuple #[.int .i64 (q.1:Nat), .int .i64 (q.2:Nat)]) ?_ rfl ⟨rfl,HR8.out⟩
    simp[results,Tryz.results206,go_sem]
end
end Go.Proofs.YtahiballegpbgaaGreatDoor
