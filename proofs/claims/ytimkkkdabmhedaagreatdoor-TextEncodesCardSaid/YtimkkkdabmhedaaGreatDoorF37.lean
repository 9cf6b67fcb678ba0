/- Walk: the document's scanner: rows, spaces. -/
import Derived.Test.YtimkkkdabmhedaaGreatDoorF36
import Derived.Test.YtimkkkdabmhedaaGreatDoorF20
import Derived.Test.YtimkkkdabmhedaaGreatDoorF1
import Derived.Test.YtimkkkdabmhedaaGreatDoorF34
set_option linter.unusedVariables false
set_option maxHeartbeats 1000000
set_option maxRecDepth 100000
namespace Go.Proofs.YtimkkkdabmhedaaGreatDoor
open Go.RowKit
theorem isC_at {L:List Pt} {i:Nat} {c y:Int} (h:(L.map Pt.cls)[i]?=some y):isC L i c=decide (y=c):=by
 rw[List.getElem?_map]at h;unfold isC
 cases hp:L[i]? with
 | none=>rw[hp]at h;simp at h
 | some p=>rw[hp]at h;simp at h;simp[h]
theorem spC_at {L:List Pt} {i:Nat} {y:Int} (h:(L.map Pt.cls)[i]?=some y):spC L i=(decide (y=3) || decide (y=4)):=by
 rw[List.getElem?_map]at h;unfold spC fY
 cases hp:L[i]? with
 | none=>rw[hp]at h;simp at h
 | some p=>rw[hp]at h;simp at h;simp[h]
theorem rowN_end {L:List Pt} {i:Nat} {c:Int} (h:L.length<=i):A8 L i c=0:=by
 unfold A8;rw[List.drop_eq_nil_of_le h];rfl
theorem spN_end {L:List Pt} {i:Nat} (h:L.length<=i):spN L i=0:=by
 unfold spN;rw[List.drop_eq_nil_of_le h];rfl
structure PsR (w:World) (po co no:Option Addr) (pc cc nc m:Nat) (L:List Pt):Prop where
 len:L.length=m
 p:SlI w po m pc (L.map Pt.code)
 c:SlI w co m cc (L.map Pt.cls)
 n:SlI w no m nc (L.map Pt.n)
theorem PsR.below {w w':World} {po co no:Option Addr} {pc cc nc m:Nat} {L:List Pt} (h:PsR w po co no pc cc nc m L) (hb:Below w.heap.size w w'):PsR w' po co no pc cc nc m L:=⟨h.len,Sl.below h.p hb,Sl.below h.c hb,Sl.below h.n hb⟩
def aB (r:Nat×Nat):Value:= .agg #[.int .i64 (r.1:Nat), .int .i64 (r.2:Nat)]
theorem sA {B:Nat} {a w:World} {g:Nat} (h:Below B a w) (hg:B<=g) (x y:Value):Below B a ((w.setCell ⟨g,0,none⟩ x).setCell ⟨g,1,none⟩ y):=
 (h.setCell (p:=⟨g,0,none⟩) hg x).setCell (p:=⟨g,1,none⟩) hg y
theorem xE {L:List Pt} {po co no:Option Addr} {pc cc nc m:Nat} {sn:Int} (i:Nat) (c:Int) (w:World) (hP:PsR w po co no pc cc nc m L) (hi:i<=m) (hl:m<=1000000):
  Calls Tryz.prog 141 #[.agg #[.slice po m pc, .slice co m cc, .slice no m nc, .int .i64 sn], .int .i64 i, .int .i64 c] w fun e w'=>e= .returned (.int .i64 ((A8 L i c:Nat):Int))/\Below w.heap.size w w':=by
 have HM:=hW_ hP.len;obtain⟨w0,hw0⟩:∃w0,w.alloc (.cells #[.slice po m pc, .slice co m cc, .slice no m nc, .int .i64 sn] 156)=w0:=⟨_,rfl⟩;have hb0:Below w.heap.size w w0:=hw0▸aA w _;have hx0:w0.heap[w.heap.size]?=some (.cells #[.slice po m pc, .slice co m cc, .slice no m nc, .int .i64 sn] 156):=by rw[<-hw0];exact heap_alloc_new w _
 have HSZ0:=hW_ (show w.heap.size<w0.heap.size by rw[<-hw0];simp);obtain⟨b0,b1,b2,b3⟩:=vA hx0;have HP:=hW_ (hP.below hb0);have HB0:=hW_ hb0;have HX0:=hW_ hx0;have HW0:=hW_ hw0;clear hP hb0 hx0 hw0;go_enter Tryz.func141,Tryz.ntmps141;go_wp2_with (fail);rw[HW0.out];go_wp2_with (fail);go_loopw [7] (fun a wr=>∃k:Nat,a= .int .i64 k/\i+k<=m/\Hid (A8 L i c=k+A8 L (i+k) c)/\wr=w0) (fun a _=>m-(intOf a).toNat)
 case atStart=>exact⟨0,rfl,by omega,hW_ (by simp),rfl⟩
 case round=>
  obtain⟨k,rfl,hk,HK,rfl⟩:=hrel;have hw1:IntKind.i64.wrap ((i:Int)+(k:Int))=((i+k:Nat):Int):=by rw[IntKind.wrap_i64];omega
  by_cases hlt:i+k<m
  ·obtain⟨b,of,hao,hc⟩:=SlI.at_ HP.out.c hlt;subst hao;have hy0:(L.map Pt.cls)[i+k]?=some (ix (L.map Pt.cls) (i+k)):=uD (by rw[List.length_map,HM.out];exact hlt)
   obtain⟨y,hy⟩:∃y,ix (L.map Pt.cls) (i+k)=y:=⟨_,rfl⟩;rw[hy]at hc hy0;have HI:=hW_ (isC_at (c:=c) hy0);have gk:decide (((i+k:Nat):Int)<(m:Int))=true:=by simp;omega
   clear hy hy0
   by_cases hyc:y=c
   ·have g2:(y==c)=true:=by simpa using hyc
    have HR:=hW_ (G9 (by rw[HI.out];simpa using hyc)).1;have hw2:IntKind.i64.wrap ((k:Int)+1)=((k+1:Nat):Int):=by rw[IntKind.wrap_i64];omega
    clear hyc;go_wp2_with (fail);go_roundw
    case rel=>exact⟨k+1,by go_num,by omega,hW_ (by have h1:=HK.out;have h2:=HR.out;rw[show i+(k+1)=i+k+1 by omega];omega),by first | rfl | trivial⟩
    case measure=>simp[intOf];omega
   ·have g2:(y==c)=false:=by simpa using hyc
    have HR:=hW_ (kQ (L:=L) (i:=i+k) (c:=c) (by rw[HI.out];simpa using hyc));clear hyc;go_wp2_with (fail);go_ret;exact⟨by have h1:=HK.out;have h2:=HR.out;rw[h1,h2];rfl,HB0.out⟩
  ·have gk:decide (((i+k:Nat):Int)<(m:Int))=false:=by simp;omega
   have HR:=hW_ (rowN_end (L:=L) (i:=i+k) (c:=c) (by rw[HM.out];omega));go_wp2_with (fail);go_ret;exact⟨by have h1:=HK.out;have h2:=HR.out;rw[h1,h2];rfl,HB0.out⟩
theorem xG {L:List Pt} {po co no:Option Addr} {pc cc nc m:Nat} {sn:Int} (i:Nat) (w:World) (hP:PsR w po co no pc cc nc m L) (hi:i<=m) (hl:m<=1000000):
  Calls Tryz.prog 136 #[.agg #[.slice po m pc, .slice co m cc, .slice no m nc, .int .i64 sn], .int .i64 i] w fun e w'=>e= .returned (.int .i64 ((spN L i:Nat):Int))/\Below w.heap.size w w':=by
 have HM:=hW_ hP.len;obtain⟨w0,hw0⟩:∃w0,w.alloc (.cells #[.slice po m pc, .slice co m cc, .slice no m nc, .int .i64 sn] 156)=w0:=⟨_,rfl⟩;have hb0:Below w.heap.size w w0:=hw0▸aA w _;have hx0:w0.heap[w.heap.size]?=some (.cells #[.slice po m pc, .slice co m cc, .slice no m nc, .int .i64 sn] 156):=by rw[<-hw0];exact heap_alloc_new w _
 have HSZ0:=hW_ (show w.heap.size<w0.heap.size by rw[<-hw0];simp);obtain⟨b0,b1,b2,b3⟩:=vA hx0;have HP:=hW_ (hP.below hb0);have HB0:=hW_ hb0;have HX0:=hW_ hx0;have HW0:=hW_ hw0;clear hP hb0 hx0 hw0;go_enter Tryz.func136,Tryz.ntmps136;go_wp2_with (fail);rw[HW0.out];go_wp2_with (fail);go_loopw [5] (fun a wr=>∃k:Nat,a= .int .i64 k/\i+k<=m/\Hid (spN L i=k+spN L (i+k))/\wr=w0) (fun a _=>m-(intOf a).toNat)
 case atStart=>exact⟨0,rfl,by omega,hW_ (by simp),rfl⟩
 case round=>
  obtain⟨k,rfl,hk,HK,rfl⟩:=hrel;have hw1:IntKind.i64.wrap ((i:Int)+(k:Int))=((i+k:Nat):Int):=by rw[IntKind.wrap_i64];omega
  by_cases hlt:i+k<m
  ·obtain⟨b,of,hao,hc⟩:=SlI.at_ HP.out.c hlt;subst hao;have hy0:(L.map Pt.cls)[i+k]?=some (ix (L.map Pt.cls) (i+k)):=uD (by rw[List.length_map,HM.out];exact hlt)
   obtain⟨y,hy⟩:∃y,ix (L.map Pt.cls) (i+k)=y:=⟨_,rfl⟩;rw[hy]at hc hy0;have HI:=hW_ (spC_at hy0);have gk:decide (((i+k:Nat):Int)<(m:Int))=true:=by simp;omega
   clear hy hy0
   by_cases h3:y=3
   ·have g2:(y==3)=true:=by simpa using h3
    have HY:=hW_ h3;clear h3;have HR:=hW_ (dN (by rw[HI.out];simp[HY.out])).1;have hw2:IntKind.i64.wrap ((k:Int)+1)=((k+1:Nat):Int):=by rw[IntKind.wrap_i64];omega
    go_wp2_with (fail);go_roundw
    case rel=>exact⟨k+1,by go_num,by omega,hW_ (by have h1:=HK.out;have h2:=HR.out;rw[show i+(k+1)=i+k+1 by omega];omega),by first | rfl | trivial⟩
    case measure=>simp[intOf];omega
   ·have g2:(y==3)=false:=by simpa using h3
    have HY:=hW_ h3;clear h3
    by_cases h4:y=4
    ·have g4:(y==4)=true:=by simpa using h4
     have HZ:=hW_ h4;clear h4;have HR:=hW_ (dN (by rw[HI.out];simp[HZ.out])).1;have hw2:IntKind.i64.wrap ((k:Int)+1)=((k+1:Nat):Int):=by rw[IntKind.wrap_i64];omega
     go_wp2_with (fail);go_roundw
     case rel=>exact⟨k+1,by go_num,by omega,hW_ (by have h1:=HK.out;have h2:=HR.out;rw[show i+(k+1)=i+k+1 by omega];omega),by first | rfl | trivial⟩
     case measure=>simp[intOf];omega
    ·have g4:(y==4)=false:=by simpa using h4
     have HR:=hW_ (uZ (L:=L) (i:=i+k) (by rw[HI.out];simp[HY.out,h4]));clear h4;go_wp2_with (fail);go_ret;exact⟨by have h1:=HK.out;have h2:=HR.out;rw[h1,h2];rfl,HB0.out⟩
  ·have gk:decide (((i+k:Nat):Int)<(m:Int))=false:=by simp;omega
   have HR:=hW_ (spN_end (L:=L) (i:=i+k) (by rw[HM.out];omega));go_wp2_with (fail);go_ret;exact⟨by have h1:=HK.out;have h2:=HR.out;rw[h1,h2];rfl,HB0.out⟩
theorem sC (n:Nat) (w:World) (hn:n<=10000000):Calls Tryz.prog 137 #[.int .i64 n] w fun e w'=>e= .returned (aB (n,n+1))/\Below w.heap.size w w':=by
 have hw1:IntKind.i64.wrap ((n:Int)+1)=((n+1:Nat):Int):=by rw[IntKind.wrap_i64];omega
 go_enter Tryz.func137,Tryz.ntmps137;go_wp2_with (fail);refine bodyPost_ret (v:=aB (n,n+1)) ?_ rfl ⟨rfl,by first | exact aA w _ | exact sA (aA w _) (Nat.le_refl _) _ _⟩
 simp[results,Tryz.results137,go_sem,aB]
theorem ix_pt {L:List Pt} {i:Nat} (h:i<L.length):ix (L.map Pt.code) i=(ptC L i).code:=by
 simp[ix,List.getD,ptC,h]
theorem nQ {L:List Pt} {i:Nat} {c:Int}:(isC L i c=true↔0<A8 L i c):=by
 constructor
 ·intro h;have:=(G9 h).1;omega
 ·intro h
  cases hc:isC L i c with
  | true=>rfl
  | false=>have:=kQ hc;omega
theorem yH {L:List Pt} {po co no:Option Addr} {pc cc nc m:Nat} {sn:Int} (c:Int) (w:World) (hP:PsR w po co no pc cc nc m L) (h0:0<m) (hl:m<=1000000):
  Calls Tryz.prog 139 #[.agg #[.slice po m pc, .slice co m cc, .slice no m nc, .int .i64 sn], .int .i64 c] w fun e w'=>e= .returned (.int .i64 ((eB L c:Nat):Int))/\Below w.heap.size w w':=by
 have HM:=hW_ hP.len;obtain⟨w0,hw0⟩:∃w0,w.alloc (.cells #[.slice po m pc, .slice co m cc, .slice no m nc, .int .i64 sn] 156)=w0:=⟨_,rfl⟩;have hb0:Below w.heap.size w w0:=hw0▸aA w _;have hx0:w0.heap[w.heap.size]?=some (.cells #[.slice po m pc, .slice co m cc, .slice no m nc, .int .i64 sn] 156):=by rw[<-hw0];exact heap_alloc_new w _
 have HSZ0:=hW_ (show w.heap.size<w0.heap.size by rw[<-hw0];simp);obtain⟨b0,b1,b2,b3⟩:=vA hx0;have HP:=hW_ (hP.below hb0);have HB0:=hW_ hb0;have HX0:=hW_ hx0;have HW0:=hW_ hw0;have HR1:=hW_ (fun(w':World) (h:Below w0.heap.size w0 w')=>xE (sn:=sn) 1 c w' (HP.out.below h) (by omega) hl);have HR0:=hW_ (fun(w':World) (h:Below w0.heap.size w0 w')=>xE (sn:=sn) 0 c w' (HP.out.below h) (by omega) hl);obtain⟨b,of,hao,hc0⟩:=SlI.at_ HP.out.p h0;rw[ix_pt (by rw[HM.out];exact h0),Nat.add_zero]at hc0;subst hao;obtain⟨y,hy⟩:∃y,(ptC L 0).code=y:=⟨_,rfl⟩;rw[hy]at hc0;have hL:eB L c=if y=32/\isC L 1 c=true then 1+A8 L 1 c else A8 L 0 c:=by unfold eB;rw[hy]
 simp only[nQ]at hL;have hle:=B1 L 1 c;rw[HM.out]at hle;obtain⟨r,hr⟩:∃r,A8 L 1 c=r:=⟨_,rfl⟩;rw[hr]at hL hle;rw[hr]at HR1;have hw1:IntKind.i64.wrap (1+(r:Int))=((1+r:Nat):Int):=by rw[IntKind.wrap_i64];omega
 have hc9:=hc0;rw[<-hw0]at hc9;clear hP hb0 hx0 hw0 hy hr
 by_cases y32:y=32
 ·have gy:(y==32)=true:=by simpa using y32
  by_cases hr0:0<r
  ·have gr:decide ((0:Int)<(r:Int))=true:=by simp;omega
   rw[if_pos ⟨y32,hr0⟩]at hL;have HL:=hW_ hL;clear hL y32;go_enter Tryz.func139,Tryz.ntmps139;go_wp2_with (fail);rw[HW0.out];go_wp2_with (fail);go_at_call 141;refine(HR1.out _ (Below.refl _ _)).mono ?_
   rintro e w1 ⟨rfl,hb1⟩;have HB1:=hW_ hb1;obtain⟨c0,c1,c2,c3⟩:=vA ((hb1.block _ HSZ0.out).trans HX0.out);clear hb1 b0 b1 b2 b3 hc0 hc9;go_wp2_with (fail);go_at_call 141;refine(HR1.out _ HB1.out).mono ?_
   rintro e w2 ⟨rfl,hb2⟩;have HB2:=hW_ (HB1.out.trans (hb2.mono HB1.out.size));clear hb2;go_wp2_with (fail);go_ret;exact⟨by rw[HL.out];rfl,HB0.out.trans (HB2.out.mono HB0.out.size)⟩
  ·have gr:decide ((0:Int)<(r:Int))=false:=by simp;omega
   rw[if_neg (fun h=>hr0 h.2)]at hL;have HL:=hW_ hL;clear hL y32;go_enter Tryz.func139,Tryz.ntmps139;go_wp2_with (fail);rw[HW0.out];go_wp2_with (fail);go_at_call 141;refine(HR1.out _ (Below.refl _ _)).mono ?_
   rintro e w1 ⟨rfl,hb1⟩;have HB1:=hW_ hb1;obtain⟨c0,c1,c2,c3⟩:=vA ((hb1.block _ HSZ0.out).trans HX0.out);clear hb1 b0 b1 b2 b3 hc0 hc9;go_wp2_with (fail);go_at_call 141;refine(HR0.out _ HB1.out).mono ?_
   rintro e w2 ⟨rfl,hb2⟩;have HB2:=hW_ (HB1.out.trans (hb2.mono HB1.out.size));clear hb2;go_wp2_with (fail);go_ret;exact⟨by rw[HL.out];rfl,HB0.out.trans (HB2.out.mono HB0.out.size)⟩
 ·have gy:(y==32)=false:=by simpa using y32
  rw[if_neg (fun h=>y32 h.1)]at hL;have HL:=hW_ hL;clear hL y32;go_enter Tryz.func139,Tryz.ntmps139;go_wp2_with (fail);rw[HW0.out];go_wp2_with (fail);go_at_call 141;refine(HR0.out _ (Below.refl _ _)).mono ?_
  rintro e w2 ⟨rfl,hb2⟩;have HB2:=hW_ hb2;clear hb2;go_wp2_with (fail);go_ret;exact⟨by rw[HL.out];rfl,HB0.out.trans (HB2.out.mono HB0.out.size)⟩
theorem tA {w:World} {g:Nat} {x y:Value} {t:TypeId} (h:w.heap[g]?=some (.cells #[x,y] t)):w.cell? ⟨g,0,none⟩=some x/\w.cell? ⟨g,1,none⟩=some y/\∀o,w.frozen? ⟨g,o,none⟩=false:=by
 simp[World.cell?,World.frozen?,h]
theorem mK {L:List Pt} {po co no:Option Addr} {pc cc nc m:Nat} {sn:Int} (w:World) (hP:PsR w po co no pc cc nc m L) (hl:m<=1000000):
  Calls Tryz.prog 140 #[.agg #[.slice po m pc, .slice co m cc, .slice no m nc, .int .i64 sn]] w fun e w'=>e= .returned (aB (rA L))/\Below w.heap.size w w':=by
 have HM:=hW_ hP.len;obtain⟨w0,hw0⟩:∃w0,(w.alloc (.cells #[.slice po m pc, .slice co m cc, .slice no m nc, .int .i64 sn] 156)).alloc (.cells #[.int .i64 0, .int .i64 0] 159)=w0:=⟨_,rfl⟩;have hb0:Below w.heap.size w w0:=hw0▸(aA w _).alloc (by simp) _;have hx0:w0.heap[w.heap.size]?=some (.cells #[.slice po m pc, .slice co m cc, .slice no m nc, .int .i64 sn] 156):=by rw[<-hw0];exact(Below.heap_alloc _ _ _ (by simp)).trans (heap_alloc_new w _)
 have hx1:w0.heap[w.heap.size+1]?=some (.cells #[.int .i64 0, .int .i64 0] 159):=by
  rw[<-hw0];have:=heap_alloc_new (w.alloc (.cells #[.slice po m pc, .slice co m cc, .slice no m nc, .int .i64 sn] 156)) (.cells #[.int .i64 0, .int .i64 0] 159);simpa using this
 have HSZ0:=hW_ (show w.heap.size<w0.heap.size by rw[<-hw0];simp;omega);have HSZ1:=hW_ (show w.heap.size+1<w0.heap.size by rw[<-hw0];simp);obtain⟨b0,b1,b2,b3⟩:=vA hx0;obtain⟨a0,a1,af⟩:=tA hx1;have HP:=hW_ (hP.below hb0);have HB0:=hW_ hb0;have HX0:=hW_ hx0;have HX1:=hW_ hx1;have HW0:=hW_ hw0;have HS:=hW_ (fun(w':World) (h:Below w0.heap.size w0 w')=>xG (sn:=sn) 0 w' (HP.out.below h) (by omega) hl);have hle:=bG L 0;have hF:rA L=if spN L 0<m/\1<spN L 0 then(spN L 0-1,spN L 0+1)else(spN L 0,spN L 0+1):=by rw[<-HM.out];rfl
 rw[HM.out]at hle;obtain⟨r,hr⟩:∃r,spN L 0=r:=⟨_,rfl⟩;rw[hr]at hF hle HS;have hr6:r<=1000000:=by omega
 have HM12:=hW_ (fun(w':World)=>sC r w' (by omega));clear hP hb0 hx0 hx1 hw0 hr hle
 by_cases h1:r<m
 ·have g1:decide ((r:Int)<(m:Int))=true:=by simp;omega
  by_cases h2:1<r
  ·have g2:decide ((2:Int)<=(r:Int))=true:=by simp;omega
   have hw1:IntKind.i64.wrap ((r:Int)-1)=((r-1:Nat):Int):=by rw[IntKind.wrap_i64];omega
   have hw2:IntKind.i64.wrap ((r:Int)+1)=((r+1:Nat):Int):=by rw[IntKind.wrap_i64];omega
   rw[if_pos ⟨h1,h2⟩]at hF;have HF:=hW_ hF;clear hF;go_enter Tryz.func140,Tryz.ntmps140;go_wp2_with (fail);rw[HW0.out];go_wp2_with (fail);go_at_call 136;refine(HS.out _ (Below.refl _ _)).mono ?_
   rintro e w1 ⟨rfl,hb1⟩;have HB1:=hW_ (show Below w0.heap.size w0 w1 from hb1);clear hb1 b0 b1 b2 b3 a0 a1 af;obtain⟨b0,b1,b2,b3⟩:=vA ((HB1.out.block _ HSZ0.out).trans HX0.out);obtain⟨a0,a1,af⟩:=tA ((HB1.out.block _ HSZ1.out).trans HX1.out);go_wp2_with (fail);refine bodyPost_ret (v:=aB (r-1,r+1)) ?_ rfl ⟨by rw[HF.out],sA (HB0.out.trans (HB1.out.mono HB0.out.size)) (by omega) _ _⟩
   simp[results,Tryz.results140,go_sem,aB,a0,a1]
  ·have g2:decide ((2:Int)<=(r:Int))=false:=by simp;omega
   rw[if_neg (fun h=>h2 h.2)]at hF;have HF:=hW_ hF;clear hF;go_enter Tryz.func140,Tryz.ntmps140;go_wp2_with (fail);rw[HW0.out];go_wp2_with (fail);go_at_call 136;refine(HS.out _ (Below.refl _ _)).mono ?_
   rintro e w1 ⟨rfl,hb1⟩;have HB1:=hW_ (show Below w0.heap.size w0 w1 from hb1);clear hb1 b0 b1 b2 b3 a0 a1 af;obtain⟨b0,b1,b2,b3⟩:=vA ((HB1.out.block _ HSZ0.out).trans HX0.out);obtain⟨a0,a1,af⟩:=tA ((HB1.out.block _ HSZ1.out).trans HX1.out);go_wp2_with (fail);go_at_call 137;refine(HM12.out _).mono ?_
   rintro e w2 ⟨rfl,hb2⟩;unfold aB;have HB2:=hW_ (show Below w0.heap.size w0 w2 from HB1.out.trans (hb2.mono HB1.out.size));clear hb2 b0 b1 b2 b3 a0 a1 af;obtain⟨b0,b1,b2,b3⟩:=vA ((HB2.out.block _ HSZ0.out).trans HX0.out);obtain⟨a0,a1,af⟩:=tA ((HB2.out.block _ HSZ1.out).trans HX1.out);go_wp2_with (fail);refine bodyPost_ret (v:=aB (r,r+1)) ?_ rfl ⟨by rw[HF.out],sA (HB0.out.trans (HB2.out.mono HB0.out.size)) (by omega) _ _⟩
   simp[results,Tryz.results140,go_sem,aB,a0,a1]
 ·have g1:decide ((r:Int)<(m:Int))=false:=by simp;omega
  rw[if_neg (fun h=>h1 h.1)]at hF;have HF:=hW_ hF;clear hF;go_enter Tryz.func140,Tryz.ntmps140;go_wp2_with (fail);rw[HW0.out];go_wp2_with (fail);go_at_call 136;refine(HS.out _ (Below.refl _ _)).mono ?_
  rintro e w1 ⟨rfl,hb1⟩;have HB1:=hW_ (show Below w0.heap.size w0 w1 from hb1);clear hb1 b0 b1 b2 b3 a0 a1 af;obtain⟨b0,b1,b2,b3⟩:=vA ((HB1.out.block _ HSZ0.out).trans HX0.out);obtain⟨a0,a1,af⟩:=tA ((HB1.out.block _ HSZ1.out).trans HX1.out);go_wp2_with (fail);go_at_call 137;refine(HM12.out _).mono ?_
  rintro e w2 ⟨rfl,hb2⟩;unfold aB;have HB2:=hW_ (show Below w0.heap.size w0 w2 from HB1.out.trans (hb2.mono HB1.out.size));clear hb2 b0 b1 b2 b3 a0 a1 af;obtain⟨b0,b1,b2,b3⟩:=vA ((HB2.out.block _ HSZ0.out).trans HX0.out);obtain⟨a0,a1,af⟩:=tA ((HB2.out.block _ HSZ1.out).trans HX1.out);go_wp2_with (fail);refine bodyPost_ret (v:=aB (r,r+1)) ?_ rfl ⟨by rw[HF.out],sA (HB0.out.trans (HB2.out.mono HB0.out.size)) (by omega) _ _⟩
  simp[results,Tryz.results140,go_sem,aB,a0,a1]
open Go.RowKit Go.ChangeMaps
def aAQ (T:List Rg) (s:ByteArray) (w:World) (e:Ending) (w':World):Prop:=
 ∃(po co no:Option Addr) (pc cc nc:Nat),e= .returned (.agg #[.slice po (pts T (cA s)).length pc, .slice co (pts T (cA s)).length cc, .slice no (pts T (cA s)).length nc, .int .i64 ((zA (pts T (cA s)):Nat):Int)])/\
  PsR w' po co no pc cc nc (pts T (cA s)).length (pts T (cA s))/\Below w.heap.size w w'
theorem box4f {w:World} {g:Nat} {x y z u:Value} {t:TypeId} (h:w.heap[g]?=some (.cells #[x,y,z,u] t)):w.cell? ⟨g,0,none⟩=some x/\w.cell? ⟨g,1,none⟩=some y/\w.cell? ⟨g,2,none⟩=some z/\w.cell? ⟨g,3,none⟩=some u/\∀o,w.frozen? ⟨g,o,none⟩=false:=by
 simp[World.cell?,World.frozen?,h]
theorem R3 {w:World} {q o:Nat} {u:Value} (h:w.cell? ⟨q,o,none⟩=some u) {p:Addr} (v:Value) (hp:q≠p.block):(w.setCell p v).cell? ⟨q,o,none⟩=some u:=by
 unfold World.cell? at h |-;simp only at h |-;rw[heap_setCell_other w p q v hp];exact h
theorem own_set {w:World} {base:Nat} {v:Value} {A:List Int} (h:Own w base v A) {p:Addr} (hp:p.block<base) (x:Value):Own (w.setCell p x) base v A:=
 mA h (fun q hq=>heap_setCell_other w p q _ (by have:=(World.ownsRow.lt h q hq).1;omega))
theorem PB.set {w:World} {base kb:Nat} {v:Nat->Value} {A:Nat->List Int} {s:Int} (h:PB w base kb v A s) {p:Addr} (hp:p.block<base) (x:Value):PB (w.setCell p x) base kb v A s:=
 ⟨(heap_setCell_other w p kb _ (by have:=h.lo.1;omega)).trans h.box,fun j hj=>own_set (h.row j hj) hp x,⟨h.lo.1,by have:=h.lo.2;simp;omega⟩,h.far⟩
theorem aAc {w:World} {base m c:Nat} {ao:Option Addr} {A:List Int} (h:Own w base (.slice ao m c) A):SlI w ao m c A:=by
 obtain⟨_,_,e,h1⟩:=h.sl;obtain⟨rfl,rfl,rfl⟩:=Value.slice.inj e;exact h1
theorem PB.rows {w:World} {base kb m pc cc nc:Nat} {po co no:Option Addr} {L:List Pt} {s:Int} (h:PB w base kb (V3 (.slice po m pc) (.slice co m cc) (.slice no m nc)) (V3 (L.map Pt.code) (L.map Pt.cls) (L.map Pt.n)) s) (hm:L.length=m):PsR w po co no pc cc nc m L:=
 ⟨hm,aAc (h.row 0 (by omega)),aAc (h.row 1 (by omega)),aAc (h.row 2 (by omega))⟩
theorem PB.other {w W w1:World} {base kb:Nat} {v:Nat->Value} {A:Nat->List Int} {s:Int} (h:PB w base kb v A s) (j:Nat) (hj:j<3) (hg:W.grownBy w1 (v j).ownBlock) {x:Value} {q o:Nat} {u:Value} (hq:w.heap.size<=q) (hqW:W.cell? ⟨q,o,none⟩=some u):
  (w1.setCell ⟨kb,j,none⟩ x).cell? ⟨q,o,none⟩=some u:=by
 have hkb:=(Array.getElem?_eq_some_iff.1 h.box).1;have hlt:q<W.heap.size:=by
  unfold World.cell? at hqW;simp only at hqW
  cases hx:W.heap[q]? with
  | none=>rw[hx]at hqW;simp at hqW
  | some o=>exact(Array.getElem?_eq_some_iff.1 hx).1
 have h1:w1.heap[q]?=W.heap[q]? :=hg.block q hlt (fun e=>by have:=(World.ownsRow.lt (h.row j hj) q e.symm).2;omega)
 have h2:=heap_setCell_other w1 ⟨kb,j,none⟩ q x (by simp;omega);unfold World.cell? at hqW |-;simp only at hqW |-;rw[h2,h1];exact hqW
theorem dR {T:List Rg} {to_:Option Addr} {tn tc:Nat} (s:ByteArray) (w:World) (hT:SlF 3 w to_ tn tc (flat Rg.enc T)) (hM:kA T) (hn:tn<=1048576) (hs:s.size<=1000000):
  Calls Tryz.prog 103 #[.slice to_ tn tc, .string s] w (aAQ T s w):=by
 obtain⟨w0,hw0⟩:∃w0,(w.alloc (.cells #[.slice none 0 0, .slice none 0 0, .slice none 0 0, .int .i64 0] 156)).alloc (.cells #[.slice none 0 0, .slice none 0 0, .slice none 0 0, .int .i64 0] 156)=w0:=⟨_,rfl⟩;have hb0:Below w.heap.size w w0:=hw0▸(aA w _).alloc (by simp) _;have hx0:w0.heap[w.heap.size]?=some (.cells #[.slice none 0 0, .slice none 0 0, .slice none 0 0, .int .i64 0] 156):=by rw[<-hw0];exact(Below.heap_alloc _ _ _ (by simp)).trans (heap_alloc_new w _)
 have hx1:w0.heap[w.heap.size+1]?=some (.cells #[.slice none 0 0, .slice none 0 0, .slice none 0 0, .int .i64 0] 156):=by
  rw[<-hw0];have:=heap_alloc_new (w.alloc (.cells #[.slice none 0 0, .slice none 0 0, .slice none 0 0, .int .i64 0] 156)) (.cells #[.slice none 0 0, .slice none 0 0, .slice none 0 0, .int .i64 0] 156);simpa using this
 have HSZ0:=hW_ (show w0.heap.size=w.heap.size+2 by rw[<-hw0];simp);have HB0:=hW_ hb0;have HX0:=hW_ hx0;have HX1:=hW_ hx1;have HW0:=hW_ hw0;have HT:=hW_ (fun(w':World) (h:Below w.heap.size w w')=>SlF.below hT h);have HM:=hW_ hM;have HREST:=hW_ (fX s w0 hs);obtain⟨rs,hrs⟩:∃r,aF (cA s)=r:=⟨_,rfl⟩;rw[hrs]at HREST;have HRS:=hW_ hrs;have hrs6:rs<=1000000:=by rw[<-hrs];have:=mX (cA s);rw[nA]at this;omega
 clear hT hM hb0 hx0 hx1 hw0 hrs;go_enter Tryz.func103,Tryz.ntmps103;go_wp2_with (fail);rw[HW0.out];go_at_call 29;refine HREST.out.mono ?_
 rintro e w1 ⟨rfl,hb1⟩;have HB1:=hW_ hb1;have HPB1:Hid (PB w1 (w.heap.size+1) (w.heap.size+1) (V3 (.slice none 0 0) (.slice none 0 0) (.slice none 0 0)) (V3 [] [] []) 0):=hW_ (by
  have h0:PB w0 (w.heap.size+1) (w.heap.size+1) (V3 (.slice none 0 0) (.slice none 0 0) (.slice none 0 0)) (V3 [] [] []) 0:=⟨HX1.out,fun j hj=>(by
   rcases(by omega:j=0\/j=1\/j=2)with rfl | rfl | rfl<;>exact Own.nil _ _),⟨Nat.le_refl _,by have:=HSZ0.out;omega⟩,fun j hj q hq=>(by
   rcases(by omega:j=0\/j=1\/j=2)with rfl | rfl | rfl<;>simp[V3,Value.ownBlock]at hq)⟩
  exact h0.stay hb1)
 have HBW1:=hW_ (HB0.out.trans (hb1.mono HB0.out.size));have HX0':=hW_ ((hb1.block _ (by have:=HSZ0.out;omega)).trans HX0.out);clear hb1;go_wp2_with (fail);go_loopw [1] (fun a wr=>∃(s':ByteArray) (A:List Pt) (n:Nat) (v1 v2 v3:Value),a= .string s'/\A.length+s'.size<=s.size/\n<=A.length/\Hid (kO T (cA s) (cA s') A n)/\
  Hid (PB wr (w.heap.size+1) (w.heap.size+1) (V3 v1 v2 v3) (V3 (A.map Pt.code) (A.map Pt.cls) (A.map Pt.n)) n)/\Hid (Below (w.heap.size+1) w1 wr)) (fun a _=>(match a with | .string x=>x.size | _=>0))
 case atStart=>exact⟨s,[],0,_,_,_,rfl,by simp,by simp,hW_ (kO.zero _ _),HPB1,hW_ (Below.refl _ _)⟩
 case round=>
  obtain⟨s',A,n,v1,v2,v3,rfl,hAs,hnA,HP,HB,HBL⟩:=hrel
  by_cases h0:s'.size=0
  ·obtain⟨he1,he2,he3⟩:=qC h0;have hnil:cA s'= []:=List.eq_nil_of_length_eq_zero (by rw[nA];exact h0);have HE:=hW_ (show pts T (cA s)=A/\n=zA A by have:=HP.out;rw[hnil]at this;exact this.done);obtain⟨b0,b1,b2,b3,bf⟩:=HB.out.cells;obtain⟨z0,z1,z2,z3,zf⟩:=box4f ((HBL.out.block _ (by omega)).trans HX0'.out);obtain⟨po,pc,e1,hp1⟩:=(show Own wr (w.heap.size+1) v1 (A.map Pt.code) from HB.out.row 0 (by omega)).sl;obtain⟨co,cc,e2,hp2⟩:=(show Own wr (w.heap.size+1) v2 (A.map Pt.cls) from HB.out.row 1 (by omega)).sl;obtain⟨no,nc,e3,hp3⟩:=(show Own wr (w.heap.size+1) v3 (A.map Pt.n) from HB.out.row 2 (by omega)).sl;rw[List.length_map]at e1 e2 e3 hp1 hp2 hp3;subst e1 e2 e3;obtain⟨m,hm⟩:∃m,A.length=m:=⟨_,rfl⟩;rw[hm]at b0 b1 b2 HB;have HMM:=hW_ hm;obtain⟨z,hz⟩:∃z:Int,(n:Int)=z:=⟨_,rfl⟩;rw[hz]at b3 HB;have HZ:=hW_ hz;clear hnil h0 hp1 hp2 hp3 hm hz;go_wp2_with (fail);refine bodyPost_ret (v:= .agg #[.slice po m pc, .slice co m cc, .slice no m nc, .int .i64 z]) ?_ rfl ⟨po,co,no,pc,cc,nc,?_,?_,?_⟩
   ·simp[results,Tryz.results103,go_sem,z0,z1,z2,z3]
   ·rw[HE.out.1,HMM.out,<-HE.out.2,HZ.out]
   ·rw[HE.out.1,HMM.out];exact((((HB.out.set (p:=⟨w.heap.size,0,none⟩) (by simp) _).set (p:=⟨w.heap.size,1,none⟩) (by simp) _).set (p:=⟨w.heap.size,2,none⟩) (by simp) _).set (p:=⟨w.heap.size,3,none⟩) (by simp) _).rows HMM.out
   ·exact(((((HBW1.out.trans (HBL.out.mono (by omega))).setCell (p:=⟨w.heap.size,0,none⟩) (Nat.le_refl _) _).setCell (p:=⟨w.heap.size,1,none⟩) (Nat.le_refl _) _).setCell (p:=⟨w.heap.size,2,none⟩) (Nat.le_refl _) _).setCell (p:=⟨w.heap.size,3,none⟩) (Nat.le_refl _) _)
  ·obtain⟨he1,he2,he3⟩:=yC h0;have hne:cA s'≠[]:=fun e=>h0 (by rw[<-nA,e];rfl)
   have hd:=bR s' true wr (by omega);rw[aBB (fun x hx=>cL x hx)]at hd;obtain⟨q,hq1,hq2,hq3,⟨hq4,hq5⟩,hq6⟩:=HP.out.step HM.out hne;rw[nA]at hq5 hq6;rw[HRS.out]at hq6;obtain⟨⟨p,d,more⟩,hr⟩:∃r,dec true (cA s')=r:=⟨_,rfl⟩;rw[hr]at hd hq1 hq2 hq3;unfold iK at hd;simp only at hd hq1 hq2 hq3;obtain⟨j,hj⟩:∃j:Nat,d=j:=⟨d.toNat,by omega⟩;subst hj;have hq7:q.n.toNat=j:=by omega
   rw[hq7,<-yP]at hq6;have HD:=hW_ hd;have HQ6:=hW_ hq6;have HQ:=hW_ (And.intro hq1 (And.intro hq2 hq3));have hj1:1<=j:=by omega
   have hjs:j<=s'.size:=by omega
   have HSX:Hid ((s'.extract j s'.size).size=s'.size-j):=hW_ (by rw[ByteArray.size_extract];omega);clear hd hq1 hq2 hq3 hq4 hq5 hq6 hq7 hr hne h0;go_wp2_with (fail);go_at_call 68;refine HD.out.mono ?_
   rintro e w2 ⟨rfl,hb2⟩;have hb3:Below wr.heap.size wr (w2.alloc (.cells #[.int .i64 p, .int .i64 (j:Int), .bool more] 113)):=hb2.alloc hb2.size _;have hx3:(w2.alloc (.cells #[.int .i64 p, .int .i64 (j:Int), .bool more] 113)).heap[w2.heap.size]?=some (.cells #[.int .i64 p, .int .i64 (j:Int), .bool more] 113):=heap_alloc_new w2 _
   obtain⟨d0,d1,d2⟩:=qA hx3;have HSZ2:=hW_ (show wr.heap.size<=w2.heap.size from hb2.size);have hB3:=HB.out.stay hb3;have HB3:=hW_ hB3;obtain⟨b0,b1,b2,b3,bf⟩:=hB3.cells;have HBL3:=hW_ (HBL.out.trans (hb3.mono (by have:=HB.out.lo.2;omega)));have HR0:Hid (Own (w2.alloc (.cells #[.int .i64 p, .int .i64 (j:Int), .bool more] 113)) (w.heap.size+1) v1 (A.map Pt.code)):=hW_ (HB3.out.row 0 (by omega));have HL0:Hid ((A.map Pt.code).length=A.length):=hW_ (by simp);clear hb2 hb3 hx3 hB3
   by_cases hrr:rs<s'.size
   ·have gr:decide ((rs:Int)<((s'.size:Nat):Int))=true:=by simp;omega
    have hw9:IntKind.i64.wrap ((n:Int)+1)=((n+1:Nat):Int):=by rw[IntKind.wrap_i64];omega
    obtain⟨hS1,hS2⟩:=HB3.out.sure ((n+1:Nat):Int);have d0':=R3 d0 (p:=⟨w.heap.size+1,3,none⟩) (.int .i64 ((n+1:Nat):Int)) (by show w2.heap.size≠w.heap.size+1;have:=HSZ2.out;have:=(Array.getElem?_eq_some_iff.1 HB.out.box).1;omega);have d1':=R3 d1 (p:=⟨w.heap.size+1,3,none⟩) (.int .i64 ((n+1:Nat):Int)) (by show w2.heap.size≠w.heap.size+1;have:=HSZ2.out;have:=(Array.getElem?_eq_some_iff.1 HB.out.box).1;omega);have HBLs:=hW_ (HBL3.out.trans hS2);have HBs:=hW_ hS1;have HRs:Hid (Own _ (w.heap.size+1) v1 (A.map Pt.code)):=hW_ (HBs.out.row 0 (by omega));obtain⟨c0,c1,c2,c3,cf⟩:=hS1.cells;clear hS1 hS2;go_wp2_with (at_builtin;refine B4 rfl _ _ rfl (base:=w.heap.size+1) (k:=A.length) (y:=p) rfl (by exact World.ownsRow.alloc HRs.out _) HL0.out rfl (by exact uI (by simp)) (by omega) (by have:=HBs.out.lo.2;simp at this |-;omega) ?_;intro gg cap w5 ho5 hg5 hat5;obtain⟨k0,k1,k2,k3,kf⟩:=HBs.out.after (by exact lC rfl rfl rfl rfl) 0 (by omega) hg5;have HST5:=hW_ (HBs.out.step0 (by exact lC rfl rfl rfl rfl) ho5 hg5 hat5);have HG5:=hW_ hg5;clear ho5 hg5 hat5);obtain⟨W5,hW5⟩:∃W5,w5.setCell ⟨w.heap.size+1,0,none⟩ (.slice (some ⟨gg,0,none⟩) (A.length+1) cap)=W5:=⟨_,rfl⟩;have e0:=HB.out.other 0 (by omega) HG5.out HSZ2.out (x:= .slice (some ⟨gg,0,none⟩) (A.length+1) cap) (dA (aA _ _) _ _ d0');have e1:=HB.out.other 0 (by omega) HG5.out HSZ2.out (x:= .slice (some ⟨gg,0,none⟩) (A.length+1) cap) (dA (aA _ _) _ _ d1');have hst:=HST5.out;rw[hW5]at e0 e1 hst;rw[hW5];have HB5:=hW_ hst.1;have HBW5:Hid (Below w.heap.size w W5):=hW_ (HBW1.out.trans ((HBLs.out.trans hst.2).mono (by omega)));have HBL5:Hid (Below (w.heap.size+1) w1 W5):=hW_ (HBLs.out.trans hst.2);have HOF:Hid (∀W,Below w.heap.size w W->Calls Tryz.prog 135 #[.slice to_ tn tc, .int .i64 p] W fun e w'=>e= .returned (.int .i64 (uC T p))/\w'=W):=hW_ (fun W h=>Q8 p W (HT.out W h) hn);obtain⟨cl,hcl⟩:∃cl,uC T p=cl:=⟨_,rfl⟩;rw[hcl]at HOF;have HCL:=hW_ hcl;clear hcl;have HR5:Hid (Own W5 (w.heap.size+1) v2 (A.map Pt.cls)):=hW_ (HB5.out.row 1 (by omega));have HL1:Hid ((A.map Pt.cls).length=A.length):=hW_ (by simp);have HLO:=hW_ HB5.out.lo.2;obtain⟨b0',b1',b2',b3',bf'⟩:=HB5.out.cells;have hkn:v2.ownBlock≠some (w.heap.size+1):=fun e=>(HB5.out.far 1 (by omega) _ e).1 rfl
    have hdn:v2.ownBlock≠some w2.heap.size:=fun e=>by have h1:=(World.ownsRow.lt (HB.out.row 1 (by omega)) _ e).2;have:=HSZ2.out;omega
    have f1:=dA (aA W5 (.cells #[.int .i64 cl] 3)) _ _ b1';clear k0 k1 k2 k3 kf hst hW5 HST5 HG5 b0 b1 b2 b3 bf c0 c1 c2 c3 cf d0 d1 d2 d0' d1' b0' b2' b3' bf';refine aBS ?kesQ ?kesG ?kesI
    case kesG=>
     intro key
     go_region_law (first
      | (go_simp;go_at_call 135;refine(HOF.out _ (by exact bA HBW5.out 1)).mono ?_;rintro e w6 ⟨rfl,rfl⟩)
      | (refine F3 (by rfl) _ _ (by rfl) (base:=w.heap.size+1) (k:=A.length) (y:=cl) (by rfl) (by exact World.ownsRow.alloc HR5.out _) HL1.out (by rfl) (by exact heap_alloc_new _ _) (by omega) (by simp;have:=HLO.out;omega) ?_;intro gg6 cap6 w6 ho6 hg6 hat6;obtain⟨k0,k1,k2,k3,kf⟩:=HB5.out.after (by exact lC rfl rfl rfl rfl) 1 (by omega) hg6;have HST6:=hW_ (HB5.out.step1 (by exact lC rfl rfl rfl rfl) ho6 hg6 hat6);have E1:=hW_ (HB.out.other 1 (by omega) hg6 HSZ2.out (x:= .slice (some ⟨gg6,0,none⟩) (A.length+1) cap6) (dA (aA _ _) _ _ e1));clear ho6 hg6 hat6))
     all_goals(clear k0 k1 k2 k3 kf;revert w6 gg6 cap6;exact key.out)
    intro gg6 cap6 w6 HST6 E1;obtain⟨W6,hW6⟩:∃W6,w6.setCell ⟨w.heap.size+1,1,none⟩ (.slice (some ⟨gg6,0,none⟩) (A.length+1) cap6)=W6:=⟨_,rfl⟩;have hst6:=HST6.out;have e2:=E1.out;rw[hW6]at hst6 e2;rw[hW6];have HB6:=hW_ hst6.1;have HBL6:Hid (Below (w.heap.size+1) w1 W6):=hW_ (HBL5.out.trans hst6.2);have HR6:Hid (Own W6 (w.heap.size+1) v3 (A.map Pt.n)):=hW_ (HB6.out.row 2 (by omega));have HL2:Hid ((A.map Pt.n).length=A.length):=hW_ (by simp);clear e0 e1 f1 b1' hst6 hW6 HST6 E1;obtain⟨b0,b1,b2,b3,bf⟩:=HB6.out.cells;go_wp2_with (at_builtin;refine B4 rfl _ _ rfl (base:=w.heap.size+1) (k:=A.length) (y:=(j:Int)) rfl (by exact World.ownsRow.alloc HR6.out _) HL2.out rfl (by exact uI (by simp)) (by omega) (by have:=HB6.out.lo.2;simp at this |-;omega) ?_;intro gg7 cap7 w7 ho7 hg7 hat7;obtain⟨k0,k1,k2,k3,kf⟩:=HB6.out.after (by exact lC rfl rfl rfl rfl) 2 (by omega) hg7;have HST7:=hW_ (HB6.out.step2 (by exact lC rfl rfl rfl rfl) ho7 hg7 hat7);have e9:=HB.out.other 2 (by omega) hg7 HSZ2.out (x:= .slice (some ⟨gg7,0,none⟩) (A.length+1) cap7) (dA (aA _ _) _ _ e2);clear ho7 hg7 hat7);go_roundw
    case rel=>
     have hq:=HQ.out;refine⟨_,A++ [q],n+1, .slice (some ⟨gg,0,none⟩) (A.length+1) cap, .slice (some ⟨gg6,0,none⟩) (A.length+1) cap6, .slice (some ⟨gg7,0,none⟩) (A.length+1) cap7,rfl,by rw[HSX.out];simp;omega,by simp;omega,hW_ (by have:=HQ6.out;rw[if_pos hrr]at this;exact this),hW_ ?_,hW_ (HBL6.out.trans HST7.out.2)⟩;have h7:=HST7.out.1;rw[List.map_append,List.map_append,List.map_append];simp only[List.map_cons,List.map_nil,hq.1,hq.2.1,hq.2.2,HCL.out];exact h7
    case measure=>have:=HSX.out;simp;omega
   ·have gr:decide ((rs:Int)<((s'.size:Nat):Int))=false:=by simp;omega
    go_wp2_with (at_builtin;refine B4 rfl _ _ rfl (base:=w.heap.size+1) (k:=A.length) (y:=p) rfl (by exact World.ownsRow.alloc HR0.out _) HL0.out rfl (by exact uI (by simp)) (by omega) (by have:=HB3.out.lo.2;simp at this |-;omega) ?_;intro gg cap w5 ho5 hg5 hat5;obtain⟨k0,k1,k2,k3,kf⟩:=HB3.out.after (by exact lC rfl rfl rfl rfl) 0 (by omega) hg5;have HST5:=hW_ (HB3.out.step0 (by exact lC rfl rfl rfl rfl) ho5 hg5 hat5);have HG5:=hW_ hg5;clear ho5 hg5 hat5);obtain⟨W5,hW5⟩:∃W5,w5.setCell ⟨w.heap.size+1,0,none⟩ (.slice (some ⟨gg,0,none⟩) (A.length+1) cap)=W5:=⟨_,rfl⟩;have e0:=HB.out.other 0 (by omega) HG5.out HSZ2.out (x:= .slice (some ⟨gg,0,none⟩) (A.length+1) cap) (dA (aA _ _) _ _ d0);have e1:=HB.out.other 0 (by omega) HG5.out HSZ2.out (x:= .slice (some ⟨gg,0,none⟩) (A.length+1) cap) (dA (aA _ _) _ _ d1);have hst:=HST5.out;rw[hW5]at e0 e1 hst;rw[hW5];have HB5:=hW_ hst.1;have HBW5:Hid (Below w.heap.size w W5):=hW_ (HBW1.out.trans ((HBL3.out.trans hst.2).mono (by omega)));have HBL5:Hid (Below (w.heap.size+1) w1 W5):=hW_ (HBL3.out.trans hst.2);have HOF:Hid (∀W,Below w.heap.size w W->Calls Tryz.prog 135 #[.slice to_ tn tc, .int .i64 p] W fun e w'=>e= .returned (.int .i64 (uC T p))/\w'=W):=hW_ (fun W h=>Q8 p W (HT.out W h) hn);obtain⟨cl,hcl⟩:∃cl,uC T p=cl:=⟨_,rfl⟩;rw[hcl]at HOF;have HCL:=hW_ hcl;clear hcl;have HR5:Hid (Own W5 (w.heap.size+1) v2 (A.map Pt.cls)):=hW_ (HB5.out.row 1 (by omega));have HL1:Hid ((A.map Pt.cls).length=A.length):=hW_ (by simp);have HLO:=hW_ HB5.out.lo.2;obtain⟨b0',b1',b2',b3',bf'⟩:=HB5.out.cells;have hkn:v2.ownBlock≠some (w.heap.size+1):=fun e=>(HB5.out.far 1 (by omega) _ e).1 rfl
    have hdn:v2.ownBlock≠some w2.heap.size:=fun e=>by have h1:=(World.ownsRow.lt (HB.out.row 1 (by omega)) _ e).2;have:=HSZ2.out;omega
    have f1:=dA (aA W5 (.cells #[.int .i64 cl] 3)) _ _ b1';clear k0 k1 k2 k3 kf hst hW5 HST5 HG5 b0 b1 b2 b3 bf d0 d1 d2 b0' b2' b3' bf';refine aBS ?keyQ ?keyG ?keyI
    case keyG=>
     intro key
     go_region_law (first
      | (go_simp;go_at_call 135;refine(HOF.out _ (by exact bA HBW5.out 1)).mono ?_;rintro e w6 ⟨rfl,rfl⟩)
      | (refine F3 (by rfl) _ _ (by rfl) (base:=w.heap.size+1) (k:=A.length) (y:=cl) (by rfl) (by exact World.ownsRow.alloc HR5.out _) HL1.out (by rfl) (by exact heap_alloc_new _ _) (by omega) (by simp;have:=HLO.out;omega) ?_;intro gg6 cap6 w6 ho6 hg6 hat6;obtain⟨k0,k1,k2,k3,kf⟩:=HB5.out.after (by exact lC rfl rfl rfl rfl) 1 (by omega) hg6;have HST6:=hW_ (HB5.out.step1 (by exact lC rfl rfl rfl rfl) ho6 hg6 hat6);have E1:=hW_ (HB.out.other 1 (by omega) hg6 HSZ2.out (x:= .slice (some ⟨gg6,0,none⟩) (A.length+1) cap6) (dA (aA _ _) _ _ e1));clear ho6 hg6 hat6))
     all_goals(clear k0 k1 k2 k3 kf;revert w6 gg6 cap6;exact key.out)
    intro gg6 cap6 w6 HST6 E1;obtain⟨W6,hW6⟩:∃W6,w6.setCell ⟨w.heap.size+1,1,none⟩ (.slice (some ⟨gg6,0,none⟩) (A.length+1) cap6)=W6:=⟨_,rfl⟩;have hst6:=HST6.out;have e2:=E1.out;rw[hW6]at hst6 e2;rw[hW6];have HB6:=hW_ hst6.1;have HBL6:Hid (Below (w.heap.size+1) w1 W6):=hW_ (HBL5.out.trans hst6.2);have HR6:Hid (Own W6 (w.heap.size+1) v3 (A.map Pt.n)):=hW_ (HB6.out.row 2 (by omega));have HL2:Hid ((A.map Pt.n).length=A.length):=hW_ (by simp);clear e0 e1 f1 b1' hst6 hW6 HST6 E1;obtain⟨b0,b1,b2,b3,bf⟩:=HB6.out.cells;go_wp2_with (at_builtin;refine B4 rfl _ _ rfl (base:=w.heap.size+1) (k:=A.length) (y:=(j:Int)) rfl (by exact World.ownsRow.alloc HR6.out _) HL2.out rfl (by exact uI (by simp)) (by omega) (by have:=HB6.out.lo.2;simp at this |-;omega) ?_;intro gg7 cap7 w7 ho7 hg7 hat7;obtain⟨k0,k1,k2,k3,kf⟩:=HB6.out.after (by exact lC rfl rfl rfl rfl) 2 (by omega) hg7;have HST7:=hW_ (HB6.out.step2 (by exact lC rfl rfl rfl rfl) ho7 hg7 hat7);have e9:=HB.out.other 2 (by omega) hg7 HSZ2.out (x:= .slice (some ⟨gg7,0,none⟩) (A.length+1) cap7) (dA (aA _ _) _ _ e2);clear ho7 hg7 hat7);go_roundw
    case rel=>
     have hq:=HQ.out;refine⟨_,A++ [q],n, .slice (some ⟨gg,0,none⟩) (A.length+1) cap, .slice (some ⟨gg6,0,none⟩) (A.length+1) cap6, .slice (some ⟨gg7,0,none⟩) (A.length+1) cap7,rfl,by rw[HSX.out];simp;omega,by simp;omega,hW_ (by have:=HQ6.out;rw[if_neg hrr]at this;exact this),hW_ ?_,hW_ (HBL6.out.trans HST7.out.2)⟩;have h7:=HST7.out.1;rw[List.map_append,List.map_append,List.map_append];simp only[List.map_cons,List.map_nil,hq.1,hq.2.1,hq.2.2,HCL.out];exact h7
    case measure=>have:=HSX.out;simp;omega
end Go.Proofs.YtimkkkdabmhedaaGreatDoor
