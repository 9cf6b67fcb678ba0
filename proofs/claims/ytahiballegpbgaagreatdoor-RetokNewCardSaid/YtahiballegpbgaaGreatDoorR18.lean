/- Plain law: how a text becomes tokens: faults, pieces. No program here. -/
import Derived.Test.YtahiballegpbgaaGreatDoorR17
import Derived.Test.YtahiballegpbgaaGreatDoorR6
import Derived.Test.YtahiballegpbgaaGreatDoorR1
import Derived.Test.YtahiballegpbgaaGreatDoorR13
import Derived.Test.YtahiballegpbgaaGreatDoorR4
import Derived.LaidMore
import Derived.Stop.Joined
import Derived.ProofKit
set_option linter.unusedVariables false
set_option maxHeartbeats 2000000
set_option maxRecDepth 100000
namespace Go.Proofs.YtahiballegpbgaaGreatDoor
open Go
def jI (V:Vc) (N:List ByteArray) (s:Int):Int:=ix (nC V.specials N) (s-256).toNat
def nB (V:Vc) (N:List ByteArray) (s:Int):Int:=if s<0\/256+(N.length:Int)<=s then 1 else if 256<=s/\jI V N s<0 then 4 else 0
def mA (V:Vc) (N:List ByteArray):List Int->Int
 | []=>0
 | s::l=>if nB V N s=0 then mA V N l else nB V N s
theorem Z4 {V:Vc} {N:List ByteArray} {A:List Int} {k:Nat} (hk:k<A.length):mA V N (A.drop k)=if nB V N (ix A k)=0 then mA V N (A.drop (k+1))else nB V N (ix A k):=by
 rw[List.drop_eq_getElem_cons hk];have:A[k]=ix A k:=by simp[ix,List.getD,hk]
 rw[this];rfl
theorem eB {V:Vc} {N:List ByteArray}:∀{A:List Int},mA V N A=0↔∀s∈A,nB V N s=0
 | []=>by simp[mA]
 | s::l=>by
  unfold mA
  by_cases h:nB V N s=0
  ·rw[if_pos h,eB];simp[h]
  ·rw[if_neg h];simp[h]
noncomputable def eC (V:Vc) (N:List ByteArray) (A:List Int):List Int:=
 if mA V N A≠0\/A= []then []else if A.length=1/\256<=ix A 0 then [jI V N (ix A 0)]else if A.all isB=true then jG V A else []
noncomputable def yA (V:Vc) (N:List ByteArray):List (Int×Bool)->List Int->List Int
 | [],_=>[]
 | p::ps,A=>eC V N (A.take p.1.toNat)++yA V N ps (A.drop p.1.toNat)
noncomputable def B5 (V:Vc) (N:List ByteArray) (kind:Int) (T:List Rg) (A:List Int):List Int:=yA V N (zA kind T A true) A
open Go.ChangeShapes Go.WideShapes Go.ChangeAt Go.RowKit Go.Joins Go.Deep
theorem X7:∃f0 f1 f2:Field,Tryz.prog.underlying 125=some (.struct #[f0,f1,f2])/\f0.type=3/\f1.type=3/\f2.type=3/\oneCellFields Tryz.prog #[f0,f1,f2]=true:=
 ⟨_,_,_,Tryz.underlying125,rfl,rfl,rfl,by kernel_rfl⟩
theorem aCC:Tryz.prog.cellsOf 125=3:=by kernel_rfl
theorem aCQ:∃f0 f1 f2:Field,Tryz.prog.underlying 26=some (.struct #[f0,f1,f2])/\(f0.type=22/\f0.offset=0)/\(f1.type=23/\f1.offset=1)/\(f2.type=24/\f2.offset=2):=
 ⟨_,_,_,Tryz.underlying26,⟨rfl,rfl⟩,⟨rfl,rfl⟩,⟨rfl,rfl⟩⟩
theorem aDH:∃f0 f1 f2 f3 f4:Field,Tryz.prog.underlying 29=some (.struct #[f0,f1,f2,f3,f4])/\(f0.type=26/\f0.offset=0)/\(f1.type=22/\f1.offset=3)/\(f2.type=3/\f2.offset=4)/\(f3.type=27/\f3.offset=5)/\(f4.type=3/\f4.offset=6):=
 ⟨_,_,_,_,_,Tryz.underlying29,⟨rfl,rfl⟩,⟨rfl,rfl⟩,⟨rfl,rfl⟩,⟨rfl,rfl⟩,⟨rfl,rfl⟩⟩
theorem cellsKit:Tryz.prog.cellsOf 29=7:=by kernel_rfl
theorem Z6:Tryz.prog.cellsOf 22=1:=by kernel_rfl
theorem cellsSlM:Tryz.prog.cellsOf 23=1:=by kernel_rfl
theorem cellsSlP:Tryz.prog.cellsOf 24=1:=by kernel_rfl
theorem cellsSlR:Tryz.prog.cellsOf 27=1:=by kernel_rfl
theorem cellsI:Tryz.prog.cellsOf 3=1:=by kernel_rfl
section
variable {H:Type} {enc:TypeId×Value->H} {W:World} {held:Bool}
theorem X6 {fuel:Nat} {v:Value} {y:DataW H×List MemPlace} (h:DataW.trod enc Tryz.prog W 0 (fun _=>true) held fuel 27 [v]=some y):
  ∃ao n c T,v= .slice ao n c/\SlF 3 W ao n c (flat Rg.enc T):=by
 obtain⟨f0,f1,f2,hu,e0,e1,e2,hone⟩:=X7;rcases E5 Tryz.underlying27 hu hone (by rw[aCC];rfl) h with⟨hcs,_⟩ | ⟨a,len,cap,m,D,Pl,hcs,_,hl,hm,hmm,_,hrow⟩
 ·simp at hcs;subst hcs;exact⟨_,_,_,[],rfl,SlF.nothing _⟩
 ·simp at hcs;subst hcs;simp at hmm;subst hmm;obtain⟨M,hM,_⟩:=V5 (enc:=Rg.enc) (s:=3) (n:=len) (cap:=m) (w:=W) (a:=a) (R:=fun _=>True) Rg.enc_len (by omega) hl hm (by
   intro i hi;obtain⟨ys,n',_,_,_,hf⟩:=hrow i (by omega);obtain⟨u0,y0,c0,_,t0⟩:=hf 0 f0 rfl;obtain⟨u1,y1,c1,_,t1⟩:=hf 1 f1 rfl;obtain⟨u2,y2,c2,_,t2⟩:=hf 2 f2 rfl;rw[e0]at t0;rw[e1]at t1;rw[e2]at t2;obtain⟨z0,ez0,_,_⟩:=DataW.trod_int Tryz.underlying3 t0;obtain⟨z1,ez1,_,_⟩:=DataW.trod_int Tryz.underlying3 t1;obtain⟨z2,ez2,_,_⟩:=DataW.trod_int Tryz.underlying3 t2;simp at ez0 ez1 ez2;subst ez0 ez1 ez2;refine⟨⟨z0,z1,z2⟩,fun j u hu=> ?_,trivial⟩
   match j,hu with
   | 0,hu=>simp[Rg.enc]at hu;subst hu;exact c0
   | 1,hu=>simp[Rg.enc]at hu;subst hu;exact c1
   | 2,hu=>simp[Rg.enc]at hu;subst hu;exact c2
   | j+3,hu=>simp[Rg.enc]at hu)
  exact⟨_,_,_,M,rfl,hM⟩
theorem array7 {α:Type} {cs:Array α} (h:cs.size=7):∃c0 c1 c2 c3 c4 c5 c6,cs= #[c0,c1,c2,c3,c4,c5,c6]:=by
 obtain⟨l⟩:=cs
 match l,h with
 | [c0,c1,c2,c3,c4,c5,c6],_=>exact⟨c0,c1,c2,c3,c4,c5,c6,rfl⟩
theorem kit_open {v:Value} {d:DataW H} {p:List MemPlace} {r:Reach} {b0:Nat}
  (hv:Value.okWide Tryz.prog W r b0 29 v) (h:DataW.Trod enc Tryz.prog W 0 (fun _=>true) held 29 v d p):
  ∃(dd:Vd) (V:Vc) (no:Option Addr) (nn nc:Nat) (N:List ByteArray) (kind:Int) (to_:Option Addr) (tn tc:Nat) (T:List Rg) (room:Int),
   v= .agg #[.slice dd.ta dd.tn dd.tc, .slice dd.ma dd.mn dd.mc, .slice dd.sa dd.sn dd.sc, .slice no nn nc, .int .i64 kind, .slice to_ tn tc, .int .i64 room]/\
   xE W dd V/\(∀s∈V.tokens,s.size<=maxLen)/\(∀s∈V.specials,s.name.size<=maxLen)/\(SlS W no nn nc N/\∀s∈N,s.size<=maxLen)/\SlF 3 W to_ tn tc (flat Rg.enc T):=by
 obtain⟨f0,f1,f2,f3,f4,hk,⟨a0,b0'⟩,⟨a1,b1⟩,⟨a2,b2⟩,⟨a3,b3⟩,⟨a4,b4⟩⟩:=aDH;obtain⟨g0,g1,g2,hg,⟨x0,y0⟩,⟨x1,y1⟩,⟨x2,y2⟩⟩:=aCQ;obtain⟨cs,rfl,hsz⟩:=okWide_struct hk hv;rw[cellsKit]at hsz;obtain⟨c0,c1,c2,c3,c4,c5,c6,rfl⟩:=array7 hsz;obtain⟨fuel,hf⟩:=h;have hcells:(Value.cells (.agg #[c0,c1,c2,c3,c4,c5,c6])).toList= [c0,c1,c2,c3,c4,c5,c6]:=by simp[Value.cells]
 rw[hcells]at hf;obtain⟨xs,n,_,_,_,hxl,hfs⟩:=DataW.trod_struct hk hf
 match xs,hxl,hfs with
 | [z0,z1,z2,z3,z4],_,hfs=>
  have t0:=hfs 0 f0 rfl;have t1:=hfs 1 f1 rfl;have t2:=hfs 2 f2 rfl;have t3:=hfs 3 f3 rfl;have t4:=hfs 4 f4 rfl;rw[a0,b0',cellsVoc]at t0;rw[a1,b1,Z6]at t1;rw[a2,b2,cellsI]at t2;rw[a3,b3,cellsSlR]at t3;rw[a4,b4,cellsI]at t4;simp only[List.drop_zero,List.take_succ_cons,List.take_zero,List.drop_succ_cons,List.getElem?_cons_zero,List.getElem?_cons_succ]at t0 t1 t2 t3 t4;obtain⟨ys,m,_,_,_,hyl,hgs⟩:=DataW.trod_struct hg t0
  match ys,hyl,hgs with
  | [q0,q1,q2],_,hgs=>
   have r0:=hgs 0 g0 rfl;have r1:=hgs 1 g1 rfl;have r2:=hgs 2 g2 rfl;rw[x0,y0,Z6]at r0;rw[x1,y1,cellsSlM]at r1;rw[x2,y2,cellsSlP]at r2;simp only[List.drop_zero,List.take_succ_cons,List.take_zero,List.drop_succ_cons,List.getElem?_cons_zero,List.getElem?_cons_succ]at r0 r1 r2;obtain⟨ta,tn',tc',T',rfl,hT,hsT⟩:=tP r0;obtain⟨ma,mn,mc,M,rfl,hM⟩:=uY r1;obtain⟨sa,sn,sc,S,rfl,hS,hsS⟩:=X0 r2;obtain⟨no,nn,nc,N,rfl,hN,hsN⟩:=tP t1;obtain⟨k,ek,_,_⟩:=DataW.trod_int Tryz.underlying3 t2;obtain⟨to_,tn,tc,T,rfl,hR⟩:=X6 t3;obtain⟨ro,er,_,_⟩:=DataW.trod_int Tryz.underlying3 t4;simp only[List.cons.injEq,and_true]at ek er;subst ek er;exact⟨⟨ta,tn',tc',ma,mn,mc,sa,sn,sc⟩,⟨T',M,S⟩,no,nn,nc,N,k,to_,tn,tc,T,ro,rfl,⟨hT,hM,hS⟩,hsT,hsS,⟨hN,hsN⟩,hR⟩
end
open Go.RowKit
def aAj (t:List Rg) (w:World) (e:Ending) (w':World):Prop:=(∃b,e= .returned (.bool b)/\(b=true↔oA t))/\Below w.heap.size w w'
def mV (N:List ByteArray) (w:World) (e:Ending) (w':World):Prop:=(∃b,e= .returned (.bool b)/\(b=true↔dB N))/\Below w.heap.size w w'
theorem bx3 {w:World} {g:Nat} {x y z:Value} {t:TypeId} (h:w.heap[g]?=some (.cells #[x,y,z] t)):w.cell? ⟨g,0,none⟩=some x/\w.cell? ⟨g,1,none⟩=some y/\w.cell? ⟨g,2,none⟩=some z:=by
 simp[World.cell?,h]
theorem iR (s:ByteArray) (hs:s.size<=maxLen) (w:World):Calls Tryz.prog 110 #[.string s] w (S7 s w):=by
 unfold maxLen at hs;go_enter Tryz.func110,Tryz.ntmps110;go_wp2_with (fail);go_loop [3,7] (fun _ i=>∃k:Nat,k<=s.size/\i= .int .i64 k/\Hid (sF s k)) (fun _ i=>s.size-(intOf i).toNat)
 case atStart=>exact⟨0,Nat.zero_le _,rfl,hW_ (sF.zero s)⟩
 case round=>
  obtain⟨k,hk,rfl,HS⟩:=hrel
  by_cases hlt:k<s.size
  ·have hsd:pR s[k]=((decide (97<=s[k].toNat) && decide (s[k].toNat<=122)) || (decide (48<=s[k].toNat) && decide (s[k].toNat<=57)) || decide (s[k].toNat=95)):=rfl;have HSD:=hW_ hsd;have hc256:=s[k].toNat_lt;clear hsd
   by_cases r0:(s[k].toNat:Int)<48
   ·have g0:decide ((s[k].toNat:Int)<97)=true:=by simp;omega
    have g1:decide ((122:Int)<(s[k].toNat:Int))=false:=by simp;omega
    have g2:decide ((s[k].toNat:Int)<48)=true:=by simp;omega
    have g3:decide ((57:Int)<(s[k].toNat:Int))=false:=by simp;omega
    have g4:((s[k].toNat:Int) != 95)=true:=by simp;omega
    have HF:=hW_ (B8 hlt (by rw[HSD.out];simp;omega));clear r0;go_wp2_with (fail);go_ret;exact⟨⟨_,rfl,HF.out⟩,rfl⟩
   by_cases r1:(s[k].toNat:Int)<=57
   ·have g0:decide ((s[k].toNat:Int)<97)=true:=by simp;omega
    have g1:decide ((122:Int)<(s[k].toNat:Int))=false:=by simp;omega
    have g2:decide ((s[k].toNat:Int)<48)=false:=by simp;omega
    have g3:decide ((57:Int)<(s[k].toNat:Int))=false:=by simp;omega
    have g4:((s[k].toNat:Int) != 95)=true:=by simp;omega
    have HS2:=hW_ (HS.out.next hlt (by rw[HSD.out];simp;omega));clear r0 r1;go_wp2_with (fail);go_round
    case rel=>exact⟨k+1,by omega,by go_num,HS2⟩
    case measure=>simp[intOf];omega
   by_cases r2:(s[k].toNat:Int)<95
   ·have g0:decide ((s[k].toNat:Int)<97)=true:=by simp;omega
    have g1:decide ((122:Int)<(s[k].toNat:Int))=false:=by simp;omega
    have g2:decide ((s[k].toNat:Int)<48)=false:=by simp;omega
    have g3:decide ((57:Int)<(s[k].toNat:Int))=true:=by simp;omega
    have g4:((s[k].toNat:Int) != 95)=true:=by simp;omega
    have HF:=hW_ (B8 hlt (by rw[HSD.out];simp;omega));clear r0 r1 r2;go_wp2_with (fail);go_ret;exact⟨⟨_,rfl,HF.out⟩,rfl⟩
   by_cases r3:(s[k].toNat:Int)=95
   ·have g0:decide ((s[k].toNat:Int)<97)=true:=by simp;omega
    have g1:decide ((122:Int)<(s[k].toNat:Int))=false:=by simp;omega
    have g2:decide ((s[k].toNat:Int)<48)=false:=by simp;omega
    have g3:decide ((57:Int)<(s[k].toNat:Int))=true:=by simp;omega
    have g4:((s[k].toNat:Int) != 95)=false:=by simp;omega
    have HS2:=hW_ (HS.out.next hlt (by rw[HSD.out];simp;omega));clear r0 r1 r2 r3;go_wp2_with (fail);go_round
    case rel=>exact⟨k+1,by omega,by go_num,HS2⟩
    case measure=>simp[intOf];omega
   by_cases r4:(s[k].toNat:Int)<97
   ·have g0:decide ((s[k].toNat:Int)<97)=true:=by simp;omega
    have g1:decide ((122:Int)<(s[k].toNat:Int))=false:=by simp;omega
    have g2:decide ((s[k].toNat:Int)<48)=false:=by simp;omega
    have g3:decide ((57:Int)<(s[k].toNat:Int))=true:=by simp;omega
    have g4:((s[k].toNat:Int) != 95)=true:=by simp;omega
    have HF:=hW_ (B8 hlt (by rw[HSD.out];simp;omega));clear r0 r1 r2 r3 r4;go_wp2_with (fail);go_ret;exact⟨⟨_,rfl,HF.out⟩,rfl⟩
   by_cases r5:(s[k].toNat:Int)<=122
   ·have g0:decide ((s[k].toNat:Int)<97)=false:=by simp;omega
    have g1:decide ((122:Int)<(s[k].toNat:Int))=false:=by simp;omega
    have g2:decide ((s[k].toNat:Int)<48)=false:=by simp;omega
    have g3:decide ((57:Int)<(s[k].toNat:Int))=true:=by simp;omega
    have g4:((s[k].toNat:Int) != 95)=true:=by simp;omega
    have HS2:=hW_ (HS.out.next hlt (by rw[HSD.out];simp;omega));clear r0 r1 r2 r3 r4 r5;go_wp2_with (fail);go_round
    case rel=>exact⟨k+1,by omega,by go_num,HS2⟩
    case measure=>simp[intOf];omega
   have g0:decide ((s[k].toNat:Int)<97)=false:=by simp;omega
   have g1:decide ((122:Int)<(s[k].toNat:Int))=true:=by simp;omega
   have g2:decide ((s[k].toNat:Int)<48)=false:=by simp;omega
   have g3:decide ((57:Int)<(s[k].toNat:Int))=true:=by simp;omega
   have g4:((s[k].toNat:Int) != 95)=true:=by simp;omega
   have HF:=hW_ (B8 hlt (by rw[HSD.out];simp;omega));clear r0 r1 r2 r3 r4 r5;go_wp2_with (fail);go_ret;exact⟨⟨_,rfl,HF.out⟩,rfl⟩
  ·have HA:=hW_ (HS.out.all hlt)
   by_cases hz:s.size=0
   ·obtain⟨e1,e2,e3⟩:=lD hz;have HF:=hW_ (vD (s:=s) (by omega));go_wp2_with (fail);go_ret;exact⟨⟨_,rfl,HF.out⟩,rfl⟩
   ·obtain⟨e1,e2,e3⟩:=E2 hz
    by_cases h24:(s.size:Int)<=24
    ·have HF:Hid (aC s):=hW_ ⟨HA.out,by omega,by omega⟩;have h24':s.size<=24:=by omega
     go_wp2_with (fail);go_ret;exact⟨⟨_,rfl,(fun _=>HF.out),(fun _=>by simp<;>omega)⟩,rfl⟩
    ·have HF:=hW_ (vD (s:=s) (by omega));have h24':¬s.size<=24:=by omega
     go_wp2_with (fail);go_ret;exact⟨⟨_,rfl,by simpa[h24']using HF.out⟩,rfl⟩
theorem E8 {t:List Rg} {to_:Option Addr} {tn tc:Nat} (w:World) (hR:SlF 3 w to_ tn tc (flat Rg.enc t)):
  Calls Tryz.prog 71 #[.slice to_ tn tc] w (aAj t w):=by
 have hm:=Nat.le_trans hR.le hR.max;unfold maxLen at hm;have HL:=hW_ (hR.count Rg.enc_len (by omega));have HR:=hW_ hR;clear hR;go_enter Tryz.func71,Tryz.ntmps71;go_wp2_with (fail);go_loopw [7] (fun i wr=>∃k:Nat,k<=tn/\i= .int .i64 k/\Hid (yJ t k)/\Below w.heap.size w wr) (fun i _=>tn-(intOf i).toNat)
 case atStart=>exact⟨0,Nat.zero_le _,rfl,hW_ (yJ.zero t),Below.refl _ _⟩
 case round=>
  obtain⟨k,hk,rfl,HT,hb⟩:=hrel;have HB:=hW_ hb;clear hb
  by_cases hlt:k<tn
  ·have hkT:k<t.length:=by have:=HL.out;omega
   obtain⟨b,of,rfl,hce⟩:=(HR.out.below HB.out).elem Rg.enc_len (by omega) (rH hkT);obtain⟨⟨lo,hi,cl⟩,hseq⟩:∃m,rg t k=m:=⟨_,rfl⟩;rw[hseq]at hce;have d0:=hce 0 _ rfl;have d1:=hce 1 _ rfl;have d2:=hce 2 _ rfl;rw[Nat.add_zero]at d0;simp only at d0 d1 d2;have HRK:=hW_ hseq;obtain⟨wx,hwx⟩:∃wx,wr.alloc (.cells #[.int .i64 lo, .int .i64 hi, .int .i64 cl] 125)=wx:=⟨_,rfl⟩;have HBX:Hid (Below w.heap.size w wx):=hW_ (by rw[<-hwx];exact HB.out.alloc HB.out.size _);have hxx:wx.heap[wr.heap.size]?=some (.cells #[.int .i64 lo, .int .i64 hi, .int .i64 cl] 125):=by rw[<-hwx];exact heap_alloc_new wr _
   obtain⟨x0,x1,x2⟩:=bx3 hxx;have HWX:=hW_ hwx;clear hce hseq hwx hxx
   by_cases r0:lo<0
   ·have g0:decide (lo<0)=true:=by simpa using r0
    have HF:=hW_ (eD hkT (by rw[HRK.out];unfold J6;simp only;omega));clear r0;go_wp2_with (fail);rw[HWX.out];go_quiet (fail);go_wp2_with (fail);go_ret;exact⟨⟨_,rfl,HF.out⟩,bA HBX.out _⟩
   have g0:decide (lo<0)=false:=by simpa using r0
   by_cases r1:hi<lo
   ·have g1:decide (hi<lo)=true:=by simpa using r1
    have HF:=hW_ (eD hkT (by rw[HRK.out];unfold J6;simp only;omega));clear r0 r1;go_wp2_with (fail);rw[HWX.out];go_quiet (fail);go_wp2_with (fail);go_ret;exact⟨⟨_,rfl,HF.out⟩,bA HBX.out _⟩
   have g1:decide (hi<lo)=false:=by simpa using r1
   by_cases r2:1114111<hi
   ·have g2:decide (1114111<hi)=true:=by simpa using r2
    have HF:=hW_ (eD hkT (by rw[HRK.out];unfold J6;simp only;omega));clear r0 r1 r2;go_wp2_with (fail);rw[HWX.out];go_quiet (fail);go_wp2_with (fail);go_ret;exact⟨⟨_,rfl,HF.out⟩,bA HBX.out _⟩
   have g2:decide (1114111<hi)=false:=by simpa using r2
   by_cases r3:cl<1
   ·have g3:decide (cl<1)=true:=by simpa using r3
    have HF:=hW_ (eD hkT (by rw[HRK.out];unfold J6;simp only;omega));clear r0 r1 r2 r3;go_wp2_with (fail);rw[HWX.out];go_quiet (fail);go_wp2_with (fail);go_ret;exact⟨⟨_,rfl,HF.out⟩,bA HBX.out _⟩
   have g3:decide (cl<1)=false:=by simpa using r3
   by_cases r4:4<cl
   ·have g4:decide (4<cl)=true:=by simpa using r4
    have HF:=hW_ (eD hkT (by rw[HRK.out];unfold J6;simp only;omega));clear r0 r1 r2 r3 r4;go_wp2_with (fail);rw[HWX.out];go_quiet (fail);go_wp2_with (fail);go_ret;exact⟨⟨_,rfl,HF.out⟩,bA HBX.out _⟩
   have g4:decide (4<cl)=false:=by simpa using r4
   have HOK:Hid (J6 (rg t k)):=hW_ (by rw[HRK.out];unfold J6;simp only;omega);clear r0 r1 r2 r3 r4
   by_cases hk0:k=0
   ·have HT2:=hW_ (HT.out.next HOK.out (fun h=>by omega));have q0:decide ((0:Int)<(k:Int))=false:=by simp;omega
    have q1:decide (0<k)=false:=by simp;omega
    clear hk0;go_wp2_with (fail);rw[HWX.out];go_quiet (fail);go_wp2_with (fail);go_roundw
    case rel=>exact⟨k+1,by omega,by go_num,HT2,bA HBX.out _⟩
    case measure=>simp[intOf];omega
   obtain⟨q,rfl⟩:∃q,k=q+1:=⟨k-1,by omega⟩;obtain⟨b',of',hao,hcp⟩:=(HR.out.below HBX.out).elem Rg.enc_len (by omega) (rH (t:=t) (i:=q) (by omega));simp only[Option.some.injEq,Addr.mk.injEq,and_true]at hao;obtain⟨rfl,rfl⟩:=hao;obtain⟨⟨plo,phi,pcl⟩,hpeq⟩:∃m,rg t q=m:=⟨_,rfl⟩;rw[hpeq]at hcp;have p1:=hcp 1 _ rfl;simp only at p1;have HPK:=hW_ hpeq;have q0:decide ((0:Int)<((q+1:Nat):Int))=true:=by simp
   have q1:decide (0<q+1)=true:=by simp
   have q2:IntKind.i64.wrap (((q+1:Nat):Int)-1)=(q:Int):=by rw[IntKind.wrap_i64];omega
   have q3:((q+1:Nat):Int)-1=(q:Int):=by omega
   have q4:(q:Int)<(tn:Int):=by omega
   have q5:((q:Int)+1-1).toNat=q:=by omega
   have q6:(q:Int)+1-1=(q:Int):=by omega
   clear hcp hpeq hk0
   by_cases hph:lo<=phi
   ·have g9:decide (lo<=phi)=true:=by simpa using hph
    have HF:=hW_ (P5 (t:=t) (k:=q+1) (by omega) hkT (by rw[HRK.out,show q+1-1=q by omega,HPK.out];simp only;omega));clear hph;go_wp2_with (fail);rw[HWX.out];go_quiet (fail);go_wp2_with (fail);go_ret;exact⟨⟨_,rfl,HF.out⟩,bA HBX.out _⟩
   have g9:decide (lo<=phi)=false:=by simpa using hph
   have HT2:=hW_ (HT.out.next HOK.out (fun _=>by rw[HRK.out,show q+1-1=q by omega,HPK.out];simp only;omega));clear hph;go_wp2_with (fail);rw[HWX.out];go_quiet (fail);go_wp2_with (fail);go_roundw
   case rel=>exact⟨q+1+1,by omega,by go_num,HT2,bA HBX.out _⟩
   case measure=>simp[intOf];omega
  ·by_cases h2:(tn:Int)<=200
   ·have HF:Hid (oA t):=hW_ (HT.out.all (by have:=HL.out;omega) (by have:=HL.out;omega));have h2':tn<=200:=by omega
    go_wp2_with (fail);go_ret;exact⟨⟨_,rfl,(fun _=>HF.out),(fun _=>by simp<;>omega)⟩,HB.out⟩
   ·have HF:Hid (¬oA t):=hW_ (fun h=>by have:=h.1;have:=HL.out;omega);have h2':¬tn<=200:=by omega
    go_wp2_with (fail);go_ret;exact⟨⟨false,by simp<;>omega,(fun h=>by cases h),(fun h=>absurd h HF.out)⟩,HB.out⟩
theorem bool_eq {b c:Bool} {p:Prop} (h1:b=true↔p) (h2:c=true↔p):b=c:=by
 cases b<;>cases c<;>simp_all
theorem kQ {N:List ByteArray} {no:Option Addr} {nn nc:Nat} (w:World) (hN:SlS w no nn nc N) (hsz:∀s∈N,s.size<=maxLen):
  Calls Tryz.prog 70 #[.slice no nn nc] w (mV N w):=by
 have hm:=Nat.le_trans (Sl.le hN) (Sl.max hN);unfold maxLen at hm;have HL:=hW_ hN.count;have HN:=hW_ hN;have HSZ:=hW_ hsz;clear hN hsz;go_enter Tryz.func70,Tryz.ntmps70;go_wp2_with (fail);go_loop [7] (fun i=>∃k:Nat,k<=nn/\i= .int .i64 k/\Hid (bF N k)) (fun i=>nn-(intOf i).toNat)
 case atStart=>exact⟨0,Nat.zero_le _,rfl,hW_ (bF.zero N)⟩
 case round=>
  obtain⟨k,hk,rfl,HT⟩:=hrel
  by_cases hlt:k<nn
  ·have hkN:k<N.length:=by have:=HL.out;omega
   obtain⟨b,o,rfl,hc⟩:=HN.out.cell (sB hkN);have HS1:=hW_ (HSZ.out _ (qB hkN));obtain⟨s,hs⟩:∃s,tk N k=s:=⟨_,rfl⟩;rw[hs]at hc HS1;have HSE:=hW_ hs;clear hs;go_wp2_with (fail);refine(iR s HS1.out w).mono ?_
   rintro e w' ⟨⟨bb,rfl,hbb⟩,rfl⟩
   cases bb with
   | false=>
    have HF:=hW_ (zL hkN (by rw[HSE.out];intro h;have:=hbb.2 h;cases this));clear hbb;go_wp2_with (fail);go_ret;exact⟨⟨_,rfl,HF.out⟩,Below.refl _ _⟩
   | true=>
    have HM:=hW_ (hbb.1 rfl);clear hbb
    by_cases hk0:k=0
    ·have HT2:=hW_ (HT.out.next (by rw[HSE.out];exact HM.out) (fun h=>by omega));have q0:decide ((0:Int)<(k:Int))=false:=by simp;omega
     have q1:decide (0<k)=false:=by simp;omega
     clear hk0;go_wp2_with (fail);go_round
     case rel=>exact⟨k+1,by omega,by go_num,HT2⟩
     case measure=>simp[intOf];omega
    obtain⟨q,rfl⟩:∃q,k=q+1:=⟨k-1,by omega⟩;obtain⟨b',o',hao,hp⟩:=HN.out.cell (sB (T:=N) (i:=q) (by omega));simp only[Option.some.injEq,Addr.mk.injEq,and_true]at hao;obtain⟨rfl,rfl⟩:=hao;obtain⟨p,hpq⟩:∃p,tk N q=p:=⟨_,rfl⟩;rw[hpq]at hp;have HPE:=hW_ hpq;have q0:decide ((0:Int)<((q+1:Nat):Int))=true:=by simp
    have q1:decide (0<q+1)=true:=by simp
    have q2:IntKind.i64.wrap (((q+1:Nat):Int)-1)=(q:Int):=by rw[IntKind.wrap_i64];omega
    have q3:((q+1:Nat):Int)-1=(q:Int):=by omega
    have q4:(q:Int)<(nn:Int):=by omega
    have q6:(q:Int)+1-1=(q:Int):=by omega
    clear hpq hk0
    cases hbl:Op.bytesLess p.toList s.toList with
    | false=>
     have HF:=hW_ (yL (N:=N) (k:=q+1) (by omega) hkN (by rw[HSE.out,show q+1-1=q by omega,HPE.out];exact hbl));go_wp2_with (fail);go_ret;exact⟨⟨_,rfl,HF.out⟩,Below.refl _ _⟩
    | true=>
     have HT2:=hW_ (HT.out.next (by rw[HSE.out];exact HM.out) (fun _=>by rw[HSE.out,show q+1-1=q by omega,HPE.out];exact hbl));go_wp2_with (fail);go_round
     case rel=>exact⟨q+1+1,by omega,by go_num,HT2⟩
     case measure=>simp[intOf];omega
  ·by_cases h2:(nn:Int)<=16
   ·have HF:Hid (dB N):=hW_ (HT.out.all (by have:=HL.out;omega) (by have:=HL.out;omega));have h2':nn<=16:=by omega
    go_wp2_with (fail);go_ret;exact⟨⟨_,rfl,(fun _=>HF.out),(fun _=>by simp<;>omega)⟩,Below.refl _ _⟩
   ·have HF:Hid (¬dB N):=hW_ (fun h=>by have:=h.1;have:=HL.out;omega);have h2':¬nn<=16:=by omega
    go_wp2_with (fail);go_ret;exact⟨⟨false,by simp<;>omega,(fun h=>by cases h),(fun h=>absurd h HF.out)⟩,Below.refl _ _⟩
def usR:List Rg:=[⟨9,9,3⟩,⟨10,10,4⟩,⟨11,12,3⟩,⟨13,13,4⟩,⟨32,32,3⟩,⟨48,57,2⟩,⟨65,90,1⟩,⟨97,122,1⟩,⟨133,133,3⟩,⟨160,160,3⟩,⟨170,170,1⟩,⟨178,179,2⟩,⟨181,181,1⟩,⟨185,185,2⟩,⟨186,186,1⟩,⟨188,190,2⟩,⟨192,214,1⟩,⟨216,246,1⟩,⟨248,705,1⟩,⟨880,883,1⟩,⟨886,887,1⟩,⟨891,893,1⟩,⟨895,895,1⟩,⟨902,902,1⟩,⟨904,1013,1⟩,⟨1015,1153,1⟩,⟨1162,1327,1⟩,⟨1329,1366,1⟩,⟨1377,1415,1⟩,⟨1488,1514,1⟩,⟨1568,1610,1⟩,⟨1632,1641,2⟩,⟨2308,2361,1⟩,⟨2406,2415,2⟩,⟨3585,3632,1⟩,⟨4256,4351,1⟩,⟨4352,4680,1⟩,⟨5760,5760,3⟩,⟨7680,8124,1⟩,⟨8192,8202,3⟩,⟨8232,8233,3⟩,⟨8239,8239,3⟩,⟨8287,8287,3⟩,⟨8544,8584,2⟩,⟨12288,12288,3⟩,⟨12353,12438,1⟩,⟨12449,12538,1⟩,⟨19968,40959,1⟩,⟨44032,55203,1⟩,⟨65296,65305,2⟩,⟨131072,173791,1⟩]
def Rg.datum {H:Type} (r:Rg):DataW H:= .agg [.lit (.int .i64 r.lo), .lit (.int .i64 r.hi), .lit (.int .i64 r.cls)]
def D4 (T:List Rg):List Rg:=if T= []then usR else T
theorem aCS:(Rows.laid_footbridge_class_usual:DataW Unit)= .agg (usR.map Rg.datum):=rfl
def Y4:List (String×DataW Unit):=[("footbridge/class.usual",Rows.laid_footbridge_class_usual)]
theorem gUsual:Tryz.prog.globalNamed "footbridge/class.usual" = some 0:=by kernel_rfl
theorem tUsual:(Tryz.prog.globals[0]?).map (·.type)=some 182:=by kernel_rfl
theorem aBL:usR.length=51:=rfl
def Usu (w:World):Prop:=SlF 3 w (some ⟨0,0,none⟩) 51 51 (flat Rg.enc usR)
theorem Usu.below {w w':World} (h:Usu w) (hb:Below w.heap.size w w'):Usu w':=SlF.below h hb
theorem iP {l:List Value} {b j:Nat} {v:Value} (h:((((l.drop b).take 3).drop j).take 1)= [v]) (hj:j<3):l[b+j]?=some v:=by
 have:=congrArg (·[0]?) h;simp only[List.getElem?_take,List.getElem?_drop,List.getElem?_cons_zero]at this;simpa[hj]using this
theorem of_laid {W:World} (h:laidMetH Tryz.prog Y4 W):Usu W:=by
 rw[MakeChecks.laidMetH_plain _ _ _ (by kernel_rfl)]at h;obtain⟨ps,⟨g0,t0,cs0,f0,p0,q0,hg0,ht0,hv0,hd0,_,_⟩,_,_⟩:=h;obtain rfl:=Option.some.inj (gUsual.symm.trans hg0);obtain rfl:=Option.some.inj (tUsual.symm.trans ht0);obtain⟨f0,f1,f2,hu,e0,e1,e2,hone⟩:=X7;obtain⟨xs,m1,rfl,hx1,hlen,hn,hel⟩:=DataW.trod_array Tryz.underlying182 hd0;rw[aCC]at hel;simp only[Prod.mk.injEq]at hx1;have hx2:usR.map Rg.datum=xs.map (·.1):=by
  have:=hx1.1;rw[aCS]at this;simpa using this
 have hc:∀i,W.cell? ⟨0,i,none⟩=cs0[i]? :=fun i=>World.var?_cell gUsual hv0 i
 refine⟨rfl,Nat.le_refl _,by unfold maxLen;omega,by simp,fun i u hi=>⟨_,_,rfl,?_⟩⟩;have hi1:=(List.getElem?_eq_some_iff.1 hi).1;rw[lB Rg.enc_len,aBL]at hi1;rw[Nat.zero_add,hc];have hq:i / 3<51:=by omega
 have hr:usR[i / 3]?=some (rg usR (i / 3)):=rH (by rw[aBL];exact hq)
 have hu2:(Rg.enc (rg usR (i / 3)))[i % 3]?=some u:=by
  rw[<-yD Rg.enc_len hr (Nat.mod_lt _ (by omega)),Nat.div_add_mod' i 3];exact hi
 have hxi:xs[i / 3]?=some (xs[i / 3]'(by omega)):=List.getElem?_eq_getElem _
 have hd:(xs[i / 3]'(by omega)).1=Rg.datum (rg usR (i / 3)):=by
  have:=congrArg (·[i / 3]?) hx2;simp only[List.getElem?_map,hr,hxi,Option.map_some,Option.some.injEq]at this;exact this.symm
 have ht:=hel (i / 3) hq;rw[hxi]at ht;obtain⟨ys,n,_,hy,hyl,hysz,hfs⟩:=DataW.trod_struct hu ht;rw[hy]at hd
 match ys,hysz,hfs,hd with
 | [y0,y1,y2],_,hfs,hd=>
  simp only[Rg.datum,List.map_cons,List.map_nil,DataW.agg.injEq,List.cons.injEq,and_true]at hd;obtain⟨d0,d1,d2⟩:=hd;have r0:=hfs 0 f0 rfl;have r1:=hfs 1 f1 rfl;have r2:=hfs 2 f2 rfl;obtain⟨o0,n0⟩:=hone_of hone 0 f0 rfl;obtain⟨o1,n1⟩:=hone_of hone 1 f1 rfl;obtain⟨o2,n2⟩:=hone_of hone 2 f2 rfl;rw[o0,n0,e0]at r0;rw[o1,n1,e1]at r1;rw[o2,n2,e2]at r2;obtain⟨k0,q0,rfl,_⟩:=DataW.trod_int Tryz.underlying3 (show DataW.trod _ _ _ _ _ _ _ _ _=some y0 from r0);obtain⟨k1,q1,rfl,_⟩:=DataW.trod_int Tryz.underlying3 (show DataW.trod _ _ _ _ _ _ _ _ _=some y1 from r1);obtain⟨k2,q2,rfl,_⟩:=DataW.trod_int Tryz.underlying3 (show DataW.trod _ _ _ _ _ _ _ _ _=some y2 from r2);simp only[DataW.lit.injEq,Lit.int.injEq,true_and]at d0 d1 d2;subst d0 d1 d2;have s0:=iP q0;have s1:=iP q1;have s2:=iP q2;have hi3:i=i / 3*3+i % 3:=(Nat.div_add_mod' i 3).symm;have hm3:i % 3<3:=Nat.mod_lt _ (by omega);rw[hi3];generalize i % 3=j at *
  match j,hm3,hu2 with
  | 0,_,hu2=>simp[Rg.enc]at hu2;subst hu2;rw[<-Array.getElem?_toList];exact s0 (by omega)
  | 1,_,hu2=>simp[Rg.enc]at hu2;subst hu2;rw[<-Array.getElem?_toList];exact s1 (by omega)
  | 2,_,hu2=>simp[Rg.enc]at hu2;subst hu2;rw[<-Array.getElem?_toList];exact s2 (by omega)
theorem door_met (os:Os) (args:Array Value):laidMetH Tryz.prog Y4 ((World.doorLaid Tryz.prog 400 os).forCall (fun _ _=>0) ⟨#[],args,[]⟩).memory:=
 laidMetH_of_parts3 (fuel:=8) (laidMet_of_run' 8 (by kernel_rfl) (by kernel_rfl)) (by kernel_rfl) (by kernel_rfl)
section
variable {H:Type} {enc:TypeId×Value->H}
theorem law_laid {C:Checked} {os:Os} {f:FuncId} {fn:Func} {s:ChangeSpec} {tb:TypeId} {L:List (String×DataW Unit)} (own:ownKnob C.prog.godebug=none) (started:os.Started)
  (noInit:C.prog.inits.idxOf? f=none) (hfn:C.prog.funcs[f]?=some fn) (hl:laidOutB C.prog=true) (hp:∀t∈fn.params.toList,C.prog.readableRec t=true/\t<C.prog.types.size)
  (hr:fn.resultTypes= #[tb]) (hb:C.prog.underlying tb=some .bool) (hv:s.vars= [])
  (hs:∀ds:List (DataW H),ds.length=fn.params.size->s.fn H ds= {results:=[.lit (.bool true)],args:=ds})
  (witness:∃(w:World) (tape:Tape) (i:Input),w.os=os/\(w.forCall tape i).Shaped C.prog/\i.vars= []/\Input.okWide C.prog (w.forCall tape i) .any w.heap.size f i/\
   ((s.pre enc C.prog fn [] false (w.forCall tape i).memory i.args/\laidMetH C.prog L (w.forCall tape i).memory)/\sizedMet enc C.prog fn (OpenSpec.ofChange s) false (w.forCall tape i).memory i.args)/\({}:Assume).holds C.prog (lone (Frame.enter C.prog f i.args .normal) [] (w.forCall tape i)))
  (walk:∀(W:World) (base:Nat) (args:Array Value) (ds:List (DataW H)) (p:List MemPlace),(∀(j:Nat) t v,fn.params[j]?=some t->args[j]?=some v->Value.okWide C.prog W .any base t v)->
   DataW.TrodAll enc C.prog W 0 (fun _=>true) true fn.params.toList args.toList ds p->laidMetH C.prog L W->Frame.Law C.prog f args W):
  ReturnsInHanded {} C os f .any (fun w args=>(s.pre enc C.prog fn [] false w args/\laidMetH C.prog L w)/\sizedMet enc C.prog fn (OpenSpec.ofChange s) false w args) (s.post enc C.prog fn false true false false):=by
 refine returnsInHanded_of_change_and (C:=C) (X:=fun w _=>laidMetH C.prog L w) (fun _ _ _ hh h=>h.of_heap hh) own started noInit hfn witness ?_
 intro W base args ds gs before hval hW _ _ hL _;exact Frame.law_post hl hp hr hb hv hs hW (walk W base args ds _ hval hW.choose_spec.choose_spec.1 hL)
end
end Go.Proofs.YtahiballegpbgaaGreatDoor
