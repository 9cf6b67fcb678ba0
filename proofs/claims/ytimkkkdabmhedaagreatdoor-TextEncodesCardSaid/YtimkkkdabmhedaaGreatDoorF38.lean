/- Walk: the document's scanner: words, letters. -/
import Derived.Test.YtimkkkdabmhedaaGreatDoorF37
import Derived.Test.YtimkkkdabmhedaaGreatDoorF17
import Derived.BigQuiet
set_option linter.unusedVariables false
set_option maxHeartbeats 1000000
set_option maxRecDepth 100000
namespace Go.Proofs.YtimkkkdabmhedaaGreatDoor
open Go.RowKit
theorem wU {L:List Pt} {po co no:Option Addr} {pc cc nc m:Nat} {sn:Int} (w:World) (hP:PsR w po co no pc cc nc m L) (hl:m<=1000000):
  Calls Tryz.prog 104 #[.agg #[.slice po m pc, .slice co m cc, .slice no m nc, .int .i64 sn]] w fun e w'=>e= .returned (aB (tE L))/\Below w.heap.size w w':=by
 have HM:=hW_ hP.len;obtain⟨w0,hw0⟩:∃w0,(w.alloc (.cells #[.slice po m pc, .slice co m cc, .slice no m nc, .int .i64 sn] 156)).alloc (.cells #[.int .i64 0, .int .i64 0] 159)=w0:=⟨_,rfl⟩;have hb0:Below w.heap.size w w0:=hw0▸(aA w _).alloc (by simp) _;have hx0:w0.heap[w.heap.size]?=some (.cells #[.slice po m pc, .slice co m cc, .slice no m nc, .int .i64 sn] 156):=by rw[<-hw0];exact(Below.heap_alloc _ _ _ (by simp)).trans (heap_alloc_new w _)
 have hx1:w0.heap[w.heap.size+1]?=some (.cells #[.int .i64 0, .int .i64 0] 159):=by
  rw[<-hw0];have:=heap_alloc_new (w.alloc (.cells #[.slice po m pc, .slice co m cc, .slice no m nc, .int .i64 sn] 156)) (.cells #[.int .i64 0, .int .i64 0] 159);simpa using this
 have HSZ0:=hW_ (show w.heap.size<w0.heap.size by rw[<-hw0];simp;omega);have HSZ1:=hW_ (show w.heap.size+1<w0.heap.size by rw[<-hw0];simp);obtain⟨b0,b1,b2,b3⟩:=vA hx0;obtain⟨a0,a1,af⟩:=tA hx1;have HP:=hW_ (hP.below hb0);have HB0:=hW_ hb0;have HX0:=hW_ hx0;have HX1:=hW_ hx1;have HW0:=hW_ hw0;have HS:=hW_ (fun(w':World) (h:Below w0.heap.size w0 w')=>xG (sn:=sn) 0 w' (HP.out.below h) (by omega) hl);have hle:=bG L 0;rw[HM.out]at hle;obtain⟨r,hr⟩:∃r,spN L 0=r:=⟨_,rfl⟩;rw[hr]at hle HS;have HSR:=hW_ hr;have hr6:r<=m:=by omega
 clear hP hb0 hx0 hx1 hw0 hr hle;go_enter Tryz.func104,Tryz.ntmps104;go_wp2_with (fail);rw[HW0.out];go_wp2_with (fail);go_at_call 136;refine(HS.out _ (Below.refl _ _)).mono ?_
 rintro e w1 ⟨rfl,hb1⟩;have HB1:=hW_ (show Below w0.heap.size w0 w1 from hb1);clear hb1 b0 b1 b2 b3 a0 a1 af;obtain⟨b0,b1,b2,b3⟩:=vA ((HB1.out.block _ HSZ0.out).trans HX0.out);obtain⟨a0,a1,af⟩:=tA ((HB1.out.block _ HSZ1.out).trans HX1.out);go_wp2_with (fail);go_loopw [3] (fun a wr=>∃k:Nat,a= .int .i64 k/\k<=m/\Hid (spN L 0+nsN L (spN L 0)=k+nsN L k)/\wr=w1) (fun a _=>m-(intOf a).toNat)
 case atStart=>exact⟨r,rfl,hr6,hW_ (by rw[HSR.out]),rfl⟩
 case round=>
  obtain⟨k,rfl,hk,HK,rfl⟩:=hrel
  by_cases hlt:k<m
  ·obtain⟨b,of,hao,hc⟩:=SlI.at_ (HP.out.below HB1.out).c hlt;subst hao;have hy0:(L.map Pt.cls)[k]?=some (ix (L.map Pt.cls) k):=uD (by rw[List.length_map,HM.out];exact hlt)
   obtain⟨y,hy⟩:∃y,ix (L.map Pt.cls) k=y:=⟨_,rfl⟩;rw[hy]at hc hy0;have HI:=hW_ (spC_at hy0);have gk:decide ((k:Int)<(m:Int))=true:=by simp;omega
   clear hy hy0
   by_cases h3:y=3
   ·have g3:(y != 3)=false:=by simpa using h3
    have HY:=hW_ h3;clear h3;have HR:=hW_ (mR (L:=L) (i:=k) (.inr (by rw[HI.out];simp[HY.out])));have HF:Hid (tE L=(k,k+1)):=hW_ (by have h1:=HK.out;have h2:=HR.out;unfold tE;rw[h1,h2,Nat.add_zero]);have HM12:=hW_ (sC k wr (by omega));go_wp2_with (fail);go_at_call 137;refine HM12.out.mono ?_
    rintro e w2 ⟨rfl,hb2⟩;unfold aB;have HB2:=hW_ (show Below w0.heap.size w0 w2 from HB1.out.trans (hb2.mono HB1.out.size));clear hb2 b0 b1 b2 b3 a0 a1 af;obtain⟨a0,a1,af⟩:=tA ((HB2.out.block _ HSZ1.out).trans HX1.out);go_wp2_with (fail);refine bodyPost_ret (v:=aB (k,k+1)) ?_ rfl ⟨by rw[HF.out],sA (HB0.out.trans (HB2.out.mono HB0.out.size)) (by omega) _ _⟩
    simp[results,Tryz.results104,go_sem,aB,a0,a1]
   ·have g3:(y != 3)=true:=by simpa using h3
    have HY:=hW_ h3;clear h3
    by_cases h4:y=4
    ·have g4:(y != 4)=false:=by simpa using h4
     have HZ:=hW_ h4;clear h4;have HR:=hW_ (mR (L:=L) (i:=k) (.inr (by rw[HI.out];simp[HZ.out])));have HF:Hid (tE L=(k,k+1)):=hW_ (by have h1:=HK.out;have h2:=HR.out;unfold tE;rw[h1,h2,Nat.add_zero]);have HM12:=hW_ (sC k wr (by omega));go_wp2_with (fail);go_at_call 137;refine HM12.out.mono ?_
     rintro e w2 ⟨rfl,hb2⟩;unfold aB;have HB2:=hW_ (show Below w0.heap.size w0 w2 from HB1.out.trans (hb2.mono HB1.out.size));clear hb2 b0 b1 b2 b3 a0 a1 af;obtain⟨a0,a1,af⟩:=tA ((HB2.out.block _ HSZ1.out).trans HX1.out);go_wp2_with (fail);refine bodyPost_ret (v:=aB (k,k+1)) ?_ rfl ⟨by rw[HF.out],sA (HB0.out.trans (HB2.out.mono HB0.out.size)) (by omega) _ _⟩
     simp[results,Tryz.results104,go_sem,aB,a0,a1]
    ·have g4:(y != 4)=true:=by simpa using h4
     have HZ:=hW_ h4;clear h4;have HR:=hW_ (pV (L:=L) (i:=k) (by rw[HM.out];exact hlt) (by rw[HI.out];simp[HY.out,HZ.out]));have hw2:IntKind.i64.wrap ((k:Int)+1)=((k+1:Nat):Int):=by rw[IntKind.wrap_i64];omega
     go_wp2_with (fail);go_roundw
     case rel=>exact⟨k+1,by go_num,by omega,hW_ (by have h1:=HK.out;have h2:=HR.out;omega),by first | rfl | trivial⟩
     case measure=>simp[intOf];omega
  ·have gk:decide ((k:Int)<(m:Int))=false:=by simp;omega
   have HR:=hW_ (mR (L:=L) (i:=k) (.inl (by rw[HM.out];exact hlt)));have HF:Hid (tE L=(k,k+1)):=hW_ (by have h1:=HK.out;have h2:=HR.out;unfold tE;rw[h1,h2,Nat.add_zero]);have HM12:=hW_ (sC k wr (by omega));go_wp2_with (fail);go_at_call 137;refine HM12.out.mono ?_
   rintro e w2 ⟨rfl,hb2⟩;unfold aB;have HB2:=hW_ (show Below w0.heap.size w0 w2 from HB1.out.trans (hb2.mono HB1.out.size));clear hb2 b0 b1 b2 b3 a0 a1 af;obtain⟨a0,a1,af⟩:=tA ((HB2.out.block _ HSZ1.out).trans HX1.out);go_wp2_with (fail);refine bodyPost_ret (v:=aB (k,k+1)) ?_ rfl ⟨by rw[HF.out],sA (HB0.out.trans (HB2.out.mono HB0.out.size)) (by omega) _ _⟩
   simp[results,Tryz.results104,go_sem,aB,a0,a1]
def okE (wide:Bool) (e c:Int):Bool:=c==e || (wide && decide (97<=e) && c==e-32)
def kS (P:Prop) (w:World) (e:Ending) (w':World):Prop:=(∃b,e= .returned (.bool b)/\(b=true↔P))/\Below w.heap.size w w'
def oD (L:List Pt) (s:ByteArray) (wide:Bool):Prop:=∀j,j<s.size->j<L.length/\okE wide (ix (cA s) j) (ptC L j).code=true
theorem zP {L:List Pt} {po co no:Option Addr} {pc cc nc m:Nat} {sn:Int} (s:ByteArray) (wide:Bool) (w:World) (hP:PsR w po co no pc cc nc m L) (hl:m<=1000000) (hs:s.size<=1000):
  Calls Tryz.prog 142 #[.agg #[.slice po m pc, .slice co m cc, .slice no m nc, .int .i64 sn], .int .i64 0, .string s, .bool wide] w (kS (oD L s wide) w):=by
 have HM:=hW_ hP.len;obtain⟨w0,hw0⟩:∃w0,w.alloc (.cells #[.slice po m pc, .slice co m cc, .slice no m nc, .int .i64 sn] 156)=w0:=⟨_,rfl⟩;have hb0:Below w.heap.size w w0:=hw0▸aA w _;have hx0:w0.heap[w.heap.size]?=some (.cells #[.slice po m pc, .slice co m cc, .slice no m nc, .int .i64 sn] 156):=by rw[<-hw0];exact heap_alloc_new w _
 have HSZ0:=hW_ (show w.heap.size<w0.heap.size by rw[<-hw0];simp);obtain⟨b0,b1,b2,b3⟩:=vA hx0;have HP:=hW_ (hP.below hb0);have HB0:=hW_ hb0;have HX0:=hW_ hx0;have HW0:=hW_ hw0;clear hP hb0 hx0 hw0
 cases wide with
 | false=>
  go_enter Tryz.func142,Tryz.ntmps142;go_wp2_with (fail);rw[HW0.out];go_wp2_with (fail);go_loopw [9] (fun a wr=>∃k:Nat,a= .int .i64 k/\k<=s.size/\Hid (∀j,j<k->j<L.length/\okE false (ix (cA s) j) (ptC L j).code=true)/\wr=w0) (fun a _=>s.size-(intOf a).toNat)
  case atStart=>exact⟨0,rfl,by omega,hW_ (fun j h=>by omega),rfl⟩
  case round=>
   obtain⟨k,rfl,hk,HK,rfl⟩:=hrel;have hw1:IntKind.i64.wrap (0+(k:Int))=(k:Int):=by rw[IntKind.wrap_i64];omega
   have hw1':IntKind.i64.wrap (k:Int)=(k:Int):=by rw[IntKind.wrap_i64];omega
   have hw2:IntKind.i64.wrap ((k:Int)+1)=((k+1:Nat):Int):=by rw[IntKind.wrap_i64];omega
   by_cases hlt:k<s.size
   ·have gk:decide ((k:Int)<((s.size:Nat):Int))=true:=by simp;omega
    by_cases hkm:k<m
    ·have gm:decide ((m:Int)<=(k:Int))=false:=by simp;omega
     obtain⟨b,of,hao,hc⟩:=SlI.at_ HP.out.p hkm;subst hao;rw[ix_pt (by rw[HM.out];exact hkm)]at hc;obtain⟨c,hcc⟩:∃c,(ptC L k).code=c:=⟨_,rfl⟩;rw[hcc]at hc;have HC:=hW_ hcc;obtain⟨x,hx⟩:∃x:Int,(s[k].toNat:Int)=x:=⟨_,rfl⟩;have HX:Hid (ix (cA s) k=x):=hW_ (by rw[bY hlt];exact hx);have hx8:=s[k].toNat_lt;have HLS:=hW_ hlt;have hxw:IntKind.i64.wrap x=x:=by rw[IntKind.wrap_i64];omega
     have hxw2:IntKind.i64.wrap (x-32)=x-32:=by rw[IntKind.wrap_i64];omega
     have hx64:wrap64 x=x:=by unfold wrap64;omega
     have hx65:wrap64 (x-32)=x-32:=by unfold wrap64;omega
     clear hcc hx8
     by_cases he:c=x
     ·have g1:(c != x)=false:=by simpa using he
      have HE:=hW_ he;clear he;have HK2:Hid (∀j,j<k+1->j<L.length/\okE false (ix (cA s) j) (ptC L j).code=true):=hW_ (fun j hj=>by
       by_cases e':j=k
       ·subst e';exact⟨by rw[HM.out];exact hkm,by rw[HX.out,HC.out];simp[okE,HE.out]⟩
       ·exact HK.out j (by omega))
      go_wp2_with (fail);go_roundw
      case rel=>exact⟨k+1,by go_num,by omega,HK2,by first | rfl | trivial⟩
      case measure=>simp[intOf];omega
     ·have g1:(c != x)=true:=by simpa using he
      have HE:=hW_ he;clear he;have HN:Hid (¬oD L s false):=hW_ (fun h=>by have h1:=(h k HLS.out).2;rw[HX.out,HC.out]at h1;simp[okE,HE.out]at h1);go_wp2_with (fail);refine bodyPost_ret (results_tmp rfl _ _ _) rfl ⟨⟨false,rfl,by simp;exact HN.out⟩,HB0.out⟩
    ·have gm:decide ((m:Int)<=(k:Int))=true:=by simp;omega
     have HN:Hid (¬oD L s false):=hW_ (fun h=>by have:=(h k hlt).1;rw[HM.out]at this;exact hkm this);go_wp2_with (fail);refine bodyPost_ret (results_tmp rfl _ _ _) rfl ⟨⟨false,rfl,by simp;exact HN.out⟩,HB0.out⟩
   ·obtain rfl:k=s.size:=by omega
    have gk:decide (((s.size:Nat):Int)<((s.size:Nat):Int))=false:=by simp
    have HN:Hid (oD L s false):=hW_ (fun j hj=>HK.out j hj);go_wp2_with (fail);go_ret;exact⟨⟨true,rfl,by simp;exact HN.out⟩,HB0.out⟩
 | true=>
  go_enter Tryz.func142,Tryz.ntmps142;go_wp2_with (fail);rw[HW0.out];go_wp2_with (fail);go_loopw [9] (fun a wr=>∃k:Nat,a= .int .i64 k/\k<=s.size/\Hid (∀j,j<k->j<L.length/\okE true (ix (cA s) j) (ptC L j).code=true)/\wr=w0) (fun a _=>s.size-(intOf a).toNat)
  case atStart=>exact⟨0,rfl,by omega,hW_ (fun j h=>by omega),rfl⟩
  case round=>
   obtain⟨k,rfl,hk,HK,rfl⟩:=hrel;have hw1:IntKind.i64.wrap (0+(k:Int))=(k:Int):=by rw[IntKind.wrap_i64];omega
   have hw1':IntKind.i64.wrap (k:Int)=(k:Int):=by rw[IntKind.wrap_i64];omega
   have hw2:IntKind.i64.wrap ((k:Int)+1)=((k+1:Nat):Int):=by rw[IntKind.wrap_i64];omega
   by_cases hlt:k<s.size
   ·have gk:decide ((k:Int)<((s.size:Nat):Int))=true:=by simp;omega
    by_cases hkm:k<m
    ·have gm:decide ((m:Int)<=(k:Int))=false:=by simp;omega
     obtain⟨b,of,hao,hc⟩:=SlI.at_ HP.out.p hkm;subst hao;rw[ix_pt (by rw[HM.out];exact hkm)]at hc;obtain⟨c,hcc⟩:∃c,(ptC L k).code=c:=⟨_,rfl⟩;rw[hcc]at hc;have HC:=hW_ hcc;obtain⟨x,hx⟩:∃x:Int,(s[k].toNat:Int)=x:=⟨_,rfl⟩;have HX:Hid (ix (cA s) k=x):=hW_ (by rw[bY hlt];exact hx);have hx8:=s[k].toNat_lt;have HLS:=hW_ hlt;have hxw:IntKind.i64.wrap x=x:=by rw[IntKind.wrap_i64];omega
     have hxw2:IntKind.i64.wrap (x-32)=x-32:=by rw[IntKind.wrap_i64];omega
     have hx64:wrap64 x=x:=by unfold wrap64;omega
     have hx65:wrap64 (x-32)=x-32:=by unfold wrap64;omega
     clear hcc hx8
     by_cases he:c=x
     ·have g1:(c != x)=false:=by simpa using he
      have HE:=hW_ he;clear he;have HK2:Hid (∀j,j<k+1->j<L.length/\okE true (ix (cA s) j) (ptC L j).code=true):=hW_ (fun j hj=>by
       by_cases e':j=k
       ·subst e';exact⟨by rw[HM.out];exact hkm,by rw[HX.out,HC.out];simp[okE,HE.out]⟩
       ·exact HK.out j (by omega))
      go_wp2_with (fail);go_roundw
      case rel=>exact⟨k+1,by go_num,by omega,HK2,by first | rfl | trivial⟩
      case measure=>simp[intOf];omega
     ·have g1:(c != x)=true:=by simpa using he
      have HE:=hW_ he;clear he
      by_cases h97:97<=x
      ·have g2:decide ((97:Int)<=x)=true:=by simpa using h97
       have H97:=hW_ h97;clear h97
       by_cases h32:c=x-32
       ·have g3:(c==x-32)=true:=by simpa using h32
        have H32:=hW_ h32;clear h32;have HK2:Hid (∀j,j<k+1->j<L.length/\okE true (ix (cA s) j) (ptC L j).code=true):=hW_ (fun j hj=>by
         by_cases e':j=k
         ·subst e';exact⟨by rw[HM.out];exact hkm,by rw[HX.out,HC.out];have h97:=H97.out;have h32:=H32.out;unfold okE;simp[h97,h32]⟩
         ·exact HK.out j (by omega))
        go_wp2_with (fail);go_roundw
        case rel=>exact⟨k+1,by go_num,by omega,HK2,by first | rfl | trivial⟩
        case measure=>simp[intOf];omega
       ·have g3:(c==x-32)=false:=by simpa using h32
        have H32:=hW_ h32;clear h32;have HN:Hid (¬oD L s true):=hW_ (fun h=>by have h1:=(h k HLS.out).2;rw[HX.out,HC.out]at h1;unfold okE at h1;simp[HE.out,H32.out]at h1);go_wp2_with (fail);refine bodyPost_ret (results_tmp rfl _ _ _) rfl ⟨⟨false,rfl,by simp;exact HN.out⟩,HB0.out⟩
      ·have g2:decide ((97:Int)<=x)=false:=by simpa using h97
       have H97:=hW_ h97;clear h97;have HN:Hid (¬oD L s true):=hW_ (fun h=>by have h1:=(h k HLS.out).2;rw[HX.out,HC.out]at h1;have h2:=H97.out;unfold okE at h1;simp[HE.out,h2]at h1);go_wp2_with (fail);refine bodyPost_ret (results_tmp rfl _ _ _) rfl ⟨⟨false,rfl,by simp;exact HN.out⟩,HB0.out⟩
    ·have gm:decide ((m:Int)<=(k:Int))=true:=by simp;omega
     have HN:Hid (¬oD L s true):=hW_ (fun h=>by have:=(h k hlt).1;rw[HM.out]at this;exact hkm this);go_wp2_with (fail);refine bodyPost_ret (results_tmp rfl _ _ _) rfl ⟨⟨false,rfl,by simp;exact HN.out⟩,HB0.out⟩
   ·obtain rfl:k=s.size:=by omega
    have gk:decide (((s.size:Nat):Int)<((s.size:Nat):Int))=false:=by simp
    have HN:Hid (oD L s true):=hW_ (fun j hj=>HK.out j hj);go_wp2_with (fail);go_ret;exact⟨⟨true,rfl,by simp;exact HN.out⟩,HB0.out⟩
def ltr (e:Int):Prop:=e=39\/(97<=e/\e<=122)
theorem eG {L:List Pt} {wide:Bool} {e:Int} {j:Nat} (he:ltr e):(j<L.length/\okE wide e (ptC L j).code=true)↔cdC L wide j=e:=by
 unfold cdC ptC
 cases hp:L[j]? with
 | none=>
  have:=List.getElem?_eq_none_iff.1 hp;simp only;constructor
  ·intro h;omega
  ·intro h;unfold ltr at he;omega
 | some p=>
  have hj:=(List.getElem?_eq_some_iff.1 hp).1;simp only[hj,true_and];unfold okE aAE;unfold ltr at he
  cases wide with
  | false=>simp
  | true=>
   simp only[Bool.true_and,Bool.or_eq_true,beq_iff_eq,Bool.and_eq_true,decide_eq_true_eq,true_and];split<;>omega
theorem are_1 {L:List Pt} {s:ByteArray} {wide:Bool} {a:Int} (h:cA s= [a]) (ha:ltr a):oD L s wide↔cdC L wide 0=a:=by
 have hs:s.size=1:=by rw[<-nA,h];rfl
 unfold oD;rw[hs,h];constructor
 ·intro hh;exact(eG ha).1 (hh 0 (by omega))
 ·intro hh j hj;obtain rfl:j=0:=by omega
  exact(eG ha).2 hh
theorem R9 {L:List Pt} {s:ByteArray} {wide:Bool} {a b:Int} (h:cA s= [a,b]) (ha:ltr a) (hb:ltr b):oD L s wide↔cdC L wide 0=a/\cdC L wide 1=b:=by
 have hs:s.size=2:=by rw[<-nA,h];rfl
 unfold oD;rw[hs,h];constructor
 ·intro hh;exact⟨(eG ha).1 (hh 0 (by omega)),(eG hb).1 (hh 1 (by omega))⟩
 ·intro hh j hj
  match j,hj with
  | 0,_=>exact(eG ha).2 hh.1
  | 1,_=>exact(eG hb).2 hh.2
theorem are_3 {L:List Pt} {s:ByteArray} {wide:Bool} {a b c:Int} (h:cA s= [a,b,c]) (ha:ltr a) (hb:ltr b) (hc:ltr c):oD L s wide↔cdC L wide 0=a/\cdC L wide 1=b/\cdC L wide 2=c:=by
 have hs:s.size=3:=by rw[<-nA,h];rfl
 unfold oD;rw[hs,h];constructor
 ·intro hh;exact⟨(eG ha).1 (hh 0 (by omega)),(eG hb).1 (hh 1 (by omega)),(eG hc).1 (hh 2 (by omega))⟩
 ·intro hh j hj
  match j,hj with
  | 0,_=>exact(eG ha).2 hh.1
  | 1,_=>exact(eG hb).2 hh.2.1
  | 2,_=>exact(eG hc).2 hh.2.2
def vD:List ByteArray:=[⟨#[39,115]⟩,⟨#[39,116]⟩,⟨#[39,109]⟩,⟨#[39,100]⟩,⟨#[39,114,101]⟩,⟨#[39,118,101]⟩,⟨#[39,108,108]⟩]
def D8:List ByteArray:=[⟨#[39]⟩,⟨#[39,114]⟩,⟨#[39,118]⟩,⟨#[39,108]⟩]
theorem aBx (L:List Pt) (wide:Bool):(oD L (tk vD 0) wide↔cdC L wide 0=39/\cdC L wide 1=115)/\(oD L (tk vD 1) wide↔cdC L wide 0=39/\cdC L wide 1=116)/\(oD L (tk vD 2) wide↔cdC L wide 0=39/\cdC L wide 1=109)/\(oD L (tk vD 3) wide↔cdC L wide 0=39/\cdC L wide 1=100)/\
  (oD L (tk vD 4) wide↔cdC L wide 0=39/\cdC L wide 1=114/\cdC L wide 2=101)/\(oD L (tk vD 5) wide↔cdC L wide 0=39/\cdC L wide 1=118/\cdC L wide 2=101)/\(oD L (tk vD 6) wide↔cdC L wide 0=39/\cdC L wide 1=108/\cdC L wide 2=108):=
 ⟨R9 (by decide +kernel) (by unfold ltr;omega) (by unfold ltr;omega),R9 (by decide +kernel) (by unfold ltr;omega) (by unfold ltr;omega),R9 (by decide +kernel) (by unfold ltr;omega) (by unfold ltr;omega),R9 (by decide +kernel) (by unfold ltr;omega) (by unfold ltr;omega),
  are_3 (by decide +kernel) (by unfold ltr;omega) (by unfold ltr;omega) (by unfold ltr;omega),are_3 (by decide +kernel) (by unfold ltr;omega) (by unfold ltr;omega) (by unfold ltr;omega),are_3 (by decide +kernel) (by unfold ltr;omega) (by unfold ltr;omega) (by unfold ltr;omega)⟩
theorem endN_hit {L:List Pt} {wide:Bool} {k:Nat} (hk:k<7) (h:oD L (tk vD k) wide):C5 L wide=(tk vD k).size:=by
 obtain⟨e0,e1,e2,e3,e4,e5,e6⟩:=aBx L wide;have s0:(tk vD 0).size=2:=rfl;have s1:(tk vD 1).size=2:=rfl;have s2:(tk vD 2).size=2:=rfl;have s3:(tk vD 3).size=2:=rfl;have s4:(tk vD 4).size=3:=rfl;have s5:(tk vD 5).size=3:=rfl;have s6:(tk vD 6).size=3:=rfl
 match k,hk with
 | 0,_=>rw[e0]at h;rw[s0];simp[C5,I2,h.1,h.2]
 | 1,_=>rw[e1]at h;rw[s1];simp[C5,I2,h.1,h.2]
 | 2,_=>rw[e2]at h;rw[s2];simp[C5,I2,h.1,h.2]
 | 3,_=>rw[e3]at h;rw[s3];simp[C5,I2,h.1,h.2]
 | 4,_=>rw[e4]at h;rw[s4];simp[C5,I2,iL,h.1,h.2.1,h.2.2]
 | 5,_=>rw[e5]at h;rw[s5];simp[C5,I2,iL,h.1,h.2.1,h.2.2]
 | 6,_=>rw[e6]at h;rw[s6];simp[C5,I2,iL,h.1,h.2.1,h.2.2]
theorem aCQ {L:List Pt} {wide:Bool} (h:∀j,j<7->¬oD L (tk vD j) wide):C5 L wide=0:=by
 obtain⟨e0,e1,e2,e3,e4,e5,e6⟩:=aBx L wide;have h0:=h 0 (by omega);have h1:=h 1 (by omega);have h2:=h 2 (by omega);have h3:=h 3 (by omega);have h4:=h 4 (by omega);have h5:=h 5 (by omega);have h6:=h 6 (by omega);rw[e0]at h0;rw[e1]at h1;rw[e2]at h2;rw[e3]at h3;rw[e4]at h4;rw[e5]at h5;rw[e6]at h6
 by_cases g:cdC L wide 0=39
 ·have o:¬I2 (cdC L wide 1):=by unfold I2;omega
  have t:¬iL (cdC L wide 1) (cdC L wide 2):=by unfold iL;omega
  simp[C5,g,o,t]
 ·simp[C5,g]
theorem X5 (w:World) {A:List ByteArray} {cs:Array Value} (hcs:cs=(A.map .string).toArray) (t:TypeId) {k:Nat} (h:k<A.length):(w.alloc (.cells cs t)).cell? ⟨w.heap.size,k,none⟩=some (.string (tk A k)):=by
 subst hcs;unfold World.cell?;simp only;rw[heap_alloc_new];simp[tk,List.getD,h]
theorem ends_sz {k:Nat} (h:k<7):(tk vD k).size<=3:=by
 match k,h with
 | 0,_=>decide
 | 1,_=>decide
 | 2,_=>decide
 | 3,_=>decide
 | 4,_=>decide
 | 5,_=>decide
 | 6,_=>decide
theorem fK {L:List Pt} {po co no:Option Addr} {pc cc nc m:Nat} {sn:Int} (wide:Bool) (w:World) (hP:PsR w po co no pc cc nc m L) (hl:m<=1000000):
  Calls Tryz.prog 138 #[.agg #[.slice po m pc, .slice co m cc, .slice no m nc, .int .i64 sn], .bool wide] w fun e w'=>e= .returned (.int .i64 ((C5 L wide:Nat):Int))/\Below w.heap.size w w':=by
 have HM:=hW_ hP.len;obtain⟨w0,hw0⟩:∃w0,w.alloc (.cells #[.slice po m pc, .slice co m cc, .slice no m nc, .int .i64 sn] 156)=w0:=⟨_,rfl⟩;have hb0:Below w.heap.size w w0:=hw0▸aA w _;have hx0:w0.heap[w.heap.size]?=some (.cells #[.slice po m pc, .slice co m cc, .slice no m nc, .int .i64 sn] 156):=by rw[<-hw0];exact heap_alloc_new w _
 have HSZ0:=hW_ (show w.heap.size<w0.heap.size by rw[<-hw0];simp);obtain⟨b0,b1,b2,b3⟩:=vA hx0;have HP:=hW_ (hP.below hb0);have HB0:=hW_ hb0;have HX0:=hW_ hx0;have HW0:=hW_ hw0;obtain⟨w1,hw1⟩:∃w1,w0.alloc (.cells #[.string ⟨#[39,115]⟩, .string ⟨#[39,116]⟩, .string ⟨#[39,109]⟩, .string ⟨#[39,100]⟩, .string ⟨#[39,114,101]⟩, .string ⟨#[39,118,101]⟩, .string ⟨#[39,108,108]⟩] 9)=w1:=⟨_,rfl⟩;have hb1:Below w0.heap.size w0 w1:=hw1▸aA w0 _;have HCE:=hW_ (fun(k:Nat) (h:k<7)=>(show w1.cell? ⟨w.heap.size+1,k,none⟩=some (.string (tk vD k)) by rw[<-hw1,show w.heap.size+1=w0.heap.size by rw[<-hw0];simp];exact X5 w0 (A:=vD) rfl _ h));have HB1:=hW_ hb1;have HW1:=hW_ hw1;have HA:=hW_ (fun(s:ByteArray) (w':World) (h:Below w1.heap.size w1 w') (hs:s.size<=3)=>zP (sn:=sn) s wide w' (HP.out.below (HB1.out.trans (h.mono HB1.out.size))) hl (by omega));clear hP hb0 hx0 hw0 hb1 hw1;go_enter Tryz.func138,Tryz.ntmps138;go_wp2_with (fail);rw[HW0.out,HW1.out];go_wp2_with (fail);go_loopw [6,10] (fun _ a wr=>∃k:Nat,a= .int .i64 k/\k<=7/\Hid (∀j,j<k->¬oD L (tk vD j) wide)/\Hid (Below w1.heap.size w1 wr)) (fun _ a _=>7-(intOf a).toNat)
 case atStart=>exact⟨0,rfl,by omega,hW_ (fun j h=>by omega),hW_ (Below.refl _ _)⟩
 case round=>
  obtain⟨k,rfl,hk,HK,HB⟩:=hrel
  by_cases hlt:k<7
  ·have gk:(k:Int)<7:=by omega
   obtain⟨b0,b1,b2,b3⟩:=vA ((HB.out.block _ (Nat.lt_of_lt_of_le HSZ0.out HB1.out.size)).trans ((HB1.out.block _ HSZ0.out).trans HX0.out));have hc:=dA HB.out _ _ (HCE.out k hlt);have HSZK:=hW_ (ends_sz hlt);have HHIT:=hW_ (fun h=>endN_hit (L:=L) (wide:=wide) hlt h);obtain⟨s,hs⟩:∃s,tk vD k=s:=⟨_,rfl⟩;rw[hs]at hc HSZK HHIT;have HSE:=hW_ hs;have HA1:Hid (∀W,Ge wr W->Calls Tryz.prog 142 #[.agg #[.slice po m pc, .slice co m cc, .slice no m nc, .int .i64 sn], .int .i64 0, .string s, .bool wide] W fun e w'=>(∃b,e= .returned (.bool b)/\(b=true↔oD L s wide))/\Below wr.heap.size wr w'):=hW_ (fun W hW=>by
    refine(HA.out s W (HB.out.trans (Below.mono hW HB.out.size)) HSZK.out).mono ?_
    rintro e w' ⟨⟨b,rfl,hb⟩,h2⟩;exact⟨⟨b,rfl,hb⟩,hW.below h2⟩)
   have G0:=fun w' (hg:Ge wr w')=>hg.at wr w' b0
   have G1:=fun w' (hg:Ge wr w')=>hg.at wr w' b1
   have G2:=fun w' (hg:Ge wr w')=>hg.at wr w' b2
   have G3:=fun w' (hg:Ge wr w')=>hg.at wr w' b3
   have GC:=fun w' (hg:Ge wr w')=>hg.at wr w' hc
   have gr:=Ge.refl wr;clear b0 b1 b2 b3 hc hs;go_wp2_with (fail)
   go_region_held3 (Ge wr) (first | (with_reducible assumption) | (with_reducible refine Ge.drew ?_;with_reducible assumption) | (with_reducible refine Ge.drewN ?_ _;with_reducible assumption)) ((go_at_call 142;refine(HA1.out _ (by exact bA (Below.refl _ _) _)).mono ?_;rintro E w2 ⟨⟨b,rfl,hbb⟩,hb2⟩;have HB2:=hW_ (show Below wr.heap.size wr w2 from hb2);have HBB:=hW_ hbb;have hg2:Ge wr w2:=hb2;clear hb2 hbb))
   cases b with
   | true=>
    have HE:=hW_ (HHIT.out (HBB.out.1 rfl));have hc2:=GC w2 hg2;have HBZ:=hW_ (HB0.out.trans ((HB1.out.trans ((HB.out.trans (HB2.out.mono HB.out.size)).mono HB1.out.size)).mono HB0.out.size));clear G0 G1 G2 G3 GC gr hg2;go_wp2_with (fail);refine bodyPost_ret (results_tmp rfl _ _ _) rfl ⟨by rw[HE.out];rfl,HBZ.out⟩
   | false=>
    have HK2:Hid (∀j,j<k+1->¬oD L (tk vD j) wide):=hW_ (fun j hj h=>by
     by_cases e':j=k
     ·subst e';rw[HSE.out]at h;have:=HBB.out.2 h;simp at this
     ·exact HK.out j (by omega) h)
    have HBZ:=hW_ (HB.out.trans (HB2.out.mono HB.out.size));clear G0 G1 G2 G3 GC gr hg2;go_wp2_with (fail);go_roundw
    case rel=>exact⟨k+1,by go_num,by omega,HK2,HBZ⟩
    case measure=>simp[intOf];omega
  ·obtain rfl:k=7:=by omega
   have HE:=hW_ (aCQ HK.out);have HBZ:=hW_ (HB0.out.trans ((HB1.out.trans (HB.out.mono HB1.out.size)).mono HB0.out.size));go_wp2_with (fail);go_ret;exact⟨by rw[HE.out];rfl,HBZ.out⟩
theorem aBH (L:List Pt) (wide:Bool):(oD L (tk D8 0) wide↔cdC L wide 0=39)/\(oD L (tk D8 1) wide↔cdC L wide 0=39/\cdC L wide 1=114)/\(oD L (tk D8 2) wide↔cdC L wide 0=39/\cdC L wide 1=118)/\(oD L (tk D8 3) wide↔cdC L wide 0=39/\cdC L wide 1=108):=
 ⟨are_1 (by decide +kernel) (by unfold ltr;omega),R9 (by decide +kernel) (by unfold ltr;omega) (by unfold ltr;omega),R9 (by decide +kernel) (by unfold ltr;omega) (by unfold ltr;omega),R9 (by decide +kernel) (by unfold ltr;omega) (by unfold ltr;omega)⟩
theorem fW:(tk D8 0).size=1/\(tk D8 1).size=2/\(tk D8 2).size=2/\(tk D8 3).size=2:=⟨rfl,rfl,rfl,rfl⟩
theorem beg_hit {L:List Pt} {wide:Bool} {k:Nat} (hk:k<4) (h0:zA L=(tk D8 k).size) (h:oD L (tk D8 k) wide):dE L wide:=by
 obtain⟨e0,e1,e2,e3⟩:=aBH L wide;obtain⟨s0,s1,s2,s3⟩:=fW;unfold dE N5
 match k,hk with
 | 0,_=>rw[e0]at h;rw[s0]at h0;omega
 | 1,_=>rw[e1]at h;rw[s1]at h0;omega
 | 2,_=>rw[e2]at h;rw[s2]at h0;omega
 | 3,_=>rw[e3]at h;rw[s3]at h0;omega
theorem beg_miss {L:List Pt} {wide:Bool} (hU:zA L=0->cdC L wide 0≠39) (h:∀j,j<4->¬(zA L=(tk D8 j).size/\oD L (tk D8 j) wide)):¬dE L wide:=by
 obtain⟨e0,e1,e2,e3⟩:=aBH L wide;obtain⟨s0,s1,s2,s3⟩:=fW;have h0:=h 0 (by omega);have h1:=h 1 (by omega);have h2:=h 2 (by omega);have h3:=h 3 (by omega);rw[e0,s0]at h0;rw[e1,s1]at h1;rw[e2,s2]at h2;rw[e3,s3]at h3;unfold dE N5;omega
theorem begs_le {k:Nat} (h:k<4):(tk D8 k).size<=3:=by
 obtain⟨s0,s1,s2,s3⟩:=fW
 match k,h with
 | 0,_=>omega
 | 1,_=>omega
 | 2,_=>omega
 | 3,_=>omega
theorem cT {L:List Pt} {po co no:Option Addr} {pc cc nc m:Nat} {sn:Int} (wide:Bool) (w:World) (hP:PsR w po co no pc cc nc m L) (hl:m<=1000000) (hsn:sn=(zA L:Nat)) (hU:zA L=0->cdC L wide 0≠39):
  Calls Tryz.prog 107 #[.agg #[.slice po m pc, .slice co m cc, .slice no m nc, .int .i64 sn], .bool wide] w (kS (dE L wide) w):=by
 have HM:=hW_ hP.len;obtain⟨w0,hw0⟩:∃w0,w.alloc (.cells #[.slice po m pc, .slice co m cc, .slice no m nc, .int .i64 sn] 156)=w0:=⟨_,rfl⟩;have hb0:Below w.heap.size w w0:=hw0▸aA w _;have hx0:w0.heap[w.heap.size]?=some (.cells #[.slice po m pc, .slice co m cc, .slice no m nc, .int .i64 sn] 156):=by rw[<-hw0];exact heap_alloc_new w _
 have HSZ0:=hW_ (show w.heap.size<w0.heap.size by rw[<-hw0];simp);obtain⟨b0,b1,b2,b3⟩:=vA hx0;have HP:=hW_ (hP.below hb0);have HB0:=hW_ hb0;have HX0:=hW_ hx0;have HW0:=hW_ hw0;obtain⟨w1,hw1⟩:∃w1,w0.alloc (.cells #[.string ⟨#[39]⟩, .string ⟨#[39,114]⟩, .string ⟨#[39,118]⟩, .string ⟨#[39,108]⟩] 9)=w1:=⟨_,rfl⟩;have hb1:Below w0.heap.size w0 w1:=hw1▸aA w0 _;have HCE:=hW_ (fun(k:Nat) (h:k<4)=>(show w1.cell? ⟨w.heap.size+1,k,none⟩=some (.string (tk D8 k)) by rw[<-hw1,show w.heap.size+1=w0.heap.size by rw[<-hw0];simp];exact X5 w0 (A:=D8) rfl _ h));have HB1:=hW_ hb1;have HW1:=hW_ hw1;have HSN:=hW_ hsn;have HU:=hW_ hU;have HA:=hW_ (fun(s:ByteArray) (w':World) (h:Below w1.heap.size w1 w') (hs:s.size<=3)=>zP (sn:=sn) s wide w' (HP.out.below (HB1.out.trans (h.mono HB1.out.size))) hl (by omega));clear hP hb0 hx0 hw0 hb1 hw1 hsn hU;go_enter Tryz.func107,Tryz.ntmps107;go_wp2_with (fail);rw[HW0.out,HW1.out];go_wp2_with (fail);go_loopw [6,10] (fun _ a wr=>∃k:Nat,a= .int .i64 k/\k<=4/\Hid (∀j,j<k->¬(zA L=(tk D8 j).size/\oD L (tk D8 j) wide))/\Hid (Below w1.heap.size w1 wr)) (fun _ a _=>4-(intOf a).toNat)
 case atStart=>exact⟨0,rfl,by omega,hW_ (fun j h=>by omega),hW_ (Below.refl _ _)⟩
 case round=>
  obtain⟨k,rfl,hk,HK,HB⟩:=hrel
  by_cases hlt:k<4
  ·have gk:(k:Int)<4:=by omega
   obtain⟨b0,b1,b2,b3⟩:=vA ((HB.out.block _ (Nat.lt_of_lt_of_le HSZ0.out HB1.out.size)).trans ((HB1.out.block _ HSZ0.out).trans HX0.out));have hc:=dA HB.out _ _ (HCE.out k hlt);have HSZK:=hW_ (begs_le hlt);have HHIT:=hW_ (fun h0 h=>beg_hit (L:=L) (wide:=wide) hlt h0 h);obtain⟨s,hs⟩:∃s,tk D8 k=s:=⟨_,rfl⟩;rw[hs]at hc HSZK HHIT;have HSE:=hW_ hs;have HA1:Hid (∀W,Ge wr W->Calls Tryz.prog 142 #[.agg #[.slice po m pc, .slice co m cc, .slice no m nc, .int .i64 sn], .int .i64 0, .string s, .bool wide] W fun e w'=>(∃b,e= .returned (.bool b)/\(b=true↔oD L s wide))/\Below wr.heap.size wr w'):=hW_ (fun W hW=>by
    refine(HA.out s W (HB.out.trans (Below.mono hW HB.out.size)) HSZK.out).mono ?_
    rintro e w' ⟨⟨b,rfl,hb⟩,h2⟩;exact⟨⟨b,rfl,hb⟩,hW.below h2⟩)
   have G0:=fun w' (hg:Ge wr w')=>hg.at wr w' b0
   have G1:=fun w' (hg:Ge wr w')=>hg.at wr w' b1
   have G2:=fun w' (hg:Ge wr w')=>hg.at wr w' b2
   have G3:=fun w' (hg:Ge wr w')=>hg.at wr w' b3
   have GC:=fun w' (hg:Ge wr w')=>hg.at wr w' hc
   have gr:=Ge.refl wr;clear hs
   by_cases hz:sn=(s.size:Int)
   ·have gz:(sn==((s.size:Nat):Int))=true:=by simpa using hz
    have HZ:=hW_ (show zA L=s.size by have:=HSN.out;omega);clear hz b0 b1 b2 b3 hc;go_wp2_with (fail)
    go_region_held3 (Ge wr) (first | (with_reducible assumption) | (with_reducible refine Ge.drew ?_;with_reducible assumption) | (with_reducible refine Ge.drewN ?_ _;with_reducible assumption)) ((go_at_call 142;refine(HA1.out _ (by exact bA (Below.refl _ _) _)).mono ?_;rintro E w2 ⟨⟨b,rfl,hbb⟩,hb2⟩;have HB2:=hW_ (show Below wr.heap.size wr w2 from hb2);have HBB:=hW_ hbb;have hg2:Ge wr w2:=hb2;clear hb2 hbb))
    have HBZ:=hW_ (HB.out.trans (HB2.out.mono HB.out.size))
    cases b with
    | true=>
     have HE:=hW_ (HHIT.out HZ.out (HBB.out.1 rfl));have HBY:=hW_ (HB0.out.trans ((HB1.out.trans (HBZ.out.mono HB1.out.size)).mono HB0.out.size));clear G0 G1 G2 G3 GC gr hg2;go_wp2_with (fail);refine bodyPost_ret (results_tmp rfl _ _ _) rfl ⟨⟨true,rfl,by simp;exact HE.out⟩,HBY.out⟩
    | false=>
     have HK2:Hid (∀j,j<k+1->¬(zA L=(tk D8 j).size/\oD L (tk D8 j) wide)):=hW_ (fun j hj h=>by
      by_cases e':j=k
      ·subst e';rw[HSE.out]at h;have:=HBB.out.2 h.2;simp at this
      ·exact HK.out j (by omega) h)
     clear G0 G1 G2 G3 GC gr hg2;go_wp2_with (fail);go_roundw
     case rel=>exact⟨k+1,by go_num,by omega,HK2,HBZ⟩
     case measure=>simp[intOf];omega
   ·have gz:(sn==((s.size:Nat):Int))=false:=by simpa using hz
    have HK2:Hid (∀j,j<k+1->¬(zA L=(tk D8 j).size/\oD L (tk D8 j) wide)):=hW_ (fun j hj h=>by
     by_cases e':j=k
     ·subst e';rw[HSE.out]at h;have:=HSN.out;exact hz (by omega)
     ·exact HK.out j (by omega) h)
    clear hz G0 G1 G2 G3 GC gr;go_wp2_with (fail);go_quiet (fail);go_wp2_with (fail);go_roundw
    case rel=>exact⟨k+1,by go_num,by omega,HK2,hW_ (bA HB.out _)⟩
    case measure=>simp[intOf];omega
  ·obtain rfl:k=4:=by omega
   have HE:=hW_ (beg_miss HU.out HK.out);have HBZ:=hW_ (HB0.out.trans ((HB1.out.trans (HB.out.mono HB1.out.size)).mono HB0.out.size));go_wp2_with (fail);go_ret;exact⟨⟨false,rfl,by simp;exact HE.out⟩,HBZ.out⟩
theorem wS {L:List Pt} {po co no:Option Addr} {pc cc nc m:Nat} {sn:Int} (w:World) (hP:PsR w po co no pc cc nc m L) (h0:0<m) (hl:m<=1000000):
  Calls Tryz.prog 105 #[.agg #[.slice po m pc, .slice co m cc, .slice no m nc, .int .i64 sn]] w fun e w'=>e= .returned (aB (pE L))/\Below w.heap.size w w':=by
 have HM:=hW_ hP.len;obtain⟨w0,hw0⟩:∃w0,(w.alloc (.cells #[.slice po m pc, .slice co m cc, .slice no m nc, .int .i64 sn] 156)).alloc (.cells #[.int .i64 0, .int .i64 0] 159)=w0:=⟨_,rfl⟩;have hb0:Below w.heap.size w w0:=hw0▸(aA w _).alloc (by simp) _;have hx0:w0.heap[w.heap.size]?=some (.cells #[.slice po m pc, .slice co m cc, .slice no m nc, .int .i64 sn] 156):=by rw[<-hw0];exact(Below.heap_alloc _ _ _ (by simp)).trans (heap_alloc_new w _)
 have hx1:w0.heap[w.heap.size+1]?=some (.cells #[.int .i64 0, .int .i64 0] 159):=by
  rw[<-hw0];have:=heap_alloc_new (w.alloc (.cells #[.slice po m pc, .slice co m cc, .slice no m nc, .int .i64 sn] 156)) (.cells #[.int .i64 0, .int .i64 0] 159);simpa using this
 have HSZ0:=hW_ (show w.heap.size<w0.heap.size by rw[<-hw0];simp;omega);have HSZ1:=hW_ (show w.heap.size+1<w0.heap.size by rw[<-hw0];simp);obtain⟨b0,b1,b2,b3⟩:=vA hx0;obtain⟨a0,a1,af⟩:=tA hx1;have HP:=hW_ (hP.below hb0);have HB0:=hW_ hb0;have HX0:=hW_ hx0;have HX1:=hW_ hx1;have HW0:=hW_ hw0;have HE:=hW_ (fun(w':World) (h:Below w0.heap.size w0 w')=>fK (sn:=sn) false w' (HP.out.below h) hl);have HL0:=hW_ (fun(w':World) (h:Below w0.heap.size w0 w')=>yH (sn:=sn) 1 w' (HP.out.below h) h0 hl);have HL1:=hW_ (fun(w':World) (h:Below w0.heap.size w0 w')=>yH (sn:=sn) 2 w' (HP.out.below h) h0 hl);have HL2:=hW_ (fun(w':World) (h:Below w0.heap.size w0 w')=>yH (sn:=sn) 0 w' (HP.out.below h) h0 hl);have HBL:=hW_ (fun(w':World) (h:Below w0.heap.size w0 w')=>mK (sn:=sn) w' (HP.out.below h) hl);have k0:=zC L 1;have k1:=zC L 2;have k2:=zC L 0;have hF:pE L=pE L:=rfl
 conv at hF=>rhs;unfold pE
 rw[HM.out]at k0 k1 k2;obtain⟨e,he⟩:∃q,C5 L false=q:=⟨_,rfl⟩;obtain⟨l0,hl0⟩:∃q,eB L 1=q:=⟨_,rfl⟩;obtain⟨l1,hl1⟩:∃q,eB L 2=q:=⟨_,rfl⟩;obtain⟨l2,hl2⟩:∃q,eB L 0=q:=⟨_,rfl⟩;rw[he,hl0,hl1,hl2]at hF;rw[hl0]at k0 HL0;rw[hl1]at k1 HL1;rw[hl2]at k2 HL2;rw[he]at HE;have HM0:=hW_ (fun(w':World)=>sC l0 w' (by omega));have HM1:=hW_ (fun(w':World)=>sC l1 w' (by omega));have HM2:=hW_ (fun(w':World)=>sC l2 w' (by omega));have HF0:=hW_ hF;clear hP hb0 hx0 hx1 hw0 he hl0 hl1 hl2 k0 k1 k2 hF;go_enter Tryz.func105,Tryz.ntmps105;go_wp2_with (fail);rw[HW0.out];go_wp2_with (fail);go_at_call 138;refine(HE.out _ (Below.refl _ _)).mono ?_
 rintro e w1 ⟨rfl,hb1⟩;have HB1:=hW_ (show Below w0.heap.size w0 w1 from hb1);clear hb1 b0 b1 b2 b3 a0 a1 af;obtain⟨b0,b1,b2,b3⟩:=vA ((HB1.out.block _ HSZ0.out).trans HX0.out);obtain⟨a0,a1,af⟩:=tA ((HB1.out.block _ HSZ1.out).trans HX1.out)
 by_cases c0:0<e
 ·have g0:decide ((0:Int)<(e:Int))=true:=by simp;omega
  have HF:=hW_ (HF0.out.trans (if_pos c0));go_wp2_with (fail);refine bodyPost_ret (v:=aB (e,e)) ?_ rfl ⟨by rw[HF.out],sA (HB0.out.trans (HB1.out.mono HB0.out.size)) (by omega) _ _⟩
  simp[results,Tryz.results105,go_sem,aB,a0,a1]
 have g0:decide ((0:Int)<(e:Int))=false:=by simp;omega
 have HF1:=hW_ (HF0.out.trans (if_neg c0));go_wp2_with (fail);go_at_call 139;refine(HL0.out _ (HB1.out)).mono ?_
 rintro e w2 ⟨rfl,hb2⟩;have HB2:=hW_ (show Below w0.heap.size w0 w2 from HB1.out.trans (hb2.mono HB1.out.size));clear hb2 b0 b1 b2 b3 a0 a1 af;obtain⟨b0,b1,b2,b3⟩:=vA ((HB2.out.block _ HSZ0.out).trans HX0.out);obtain⟨a0,a1,af⟩:=tA ((HB2.out.block _ HSZ1.out).trans HX1.out)
 by_cases c1:0<l0
 ·have g1:decide ((0:Int)<(l0:Int))=true:=by simp;omega
  have HF:=hW_ (HF1.out.trans (if_pos c1));go_wp2_with (fail);go_at_call 139;refine(HL0.out _ (HB2.out)).mono ?_
  rintro e w3 ⟨rfl,hb3⟩;have HB3:=hW_ (show Below w0.heap.size w0 w3 from HB2.out.trans (hb3.mono HB2.out.size));clear hb3 b0 b1 b2 b3 a0 a1 af;obtain⟨b0,b1,b2,b3⟩:=vA ((HB3.out.block _ HSZ0.out).trans HX0.out);obtain⟨a0,a1,af⟩:=tA ((HB3.out.block _ HSZ1.out).trans HX1.out);go_wp2_with (fail);go_at_call 137;refine(HM0.out _).mono ?_
  rintro e w4 ⟨rfl,hb4⟩;unfold aB;have HB4:=hW_ (show Below w0.heap.size w0 w4 from HB3.out.trans (hb4.mono HB3.out.size));clear hb4 b0 b1 b2 b3 a0 a1 af;obtain⟨b0,b1,b2,b3⟩:=vA ((HB4.out.block _ HSZ0.out).trans HX0.out);obtain⟨a0,a1,af⟩:=tA ((HB4.out.block _ HSZ1.out).trans HX1.out);go_wp2_with (fail);refine bodyPost_ret (v:=aB (l0,l0+1)) ?_ rfl ⟨by rw[HF.out],sA (HB0.out.trans (HB4.out.mono HB0.out.size)) (by omega) _ _⟩
  simp[results,Tryz.results105,go_sem,aB,a0,a1]
 have g1:decide ((0:Int)<(l0:Int))=false:=by simp;omega
 have HF2:=hW_ (HF1.out.trans (if_neg c1));go_wp2_with (fail);go_at_call 139;refine(HL1.out _ (HB2.out)).mono ?_
 rintro e w3 ⟨rfl,hb3⟩;have HB3:=hW_ (show Below w0.heap.size w0 w3 from HB2.out.trans (hb3.mono HB2.out.size));clear hb3 b0 b1 b2 b3 a0 a1 af;obtain⟨b0,b1,b2,b3⟩:=vA ((HB3.out.block _ HSZ0.out).trans HX0.out);obtain⟨a0,a1,af⟩:=tA ((HB3.out.block _ HSZ1.out).trans HX1.out)
 by_cases c2:0<l1
 ·have g2:decide ((0:Int)<(l1:Int))=true:=by simp;omega
  have HF:=hW_ (HF2.out.trans (if_pos c2));go_wp2_with (fail);go_at_call 139;refine(HL1.out _ (HB3.out)).mono ?_
  rintro e w4 ⟨rfl,hb4⟩;have HB4:=hW_ (show Below w0.heap.size w0 w4 from HB3.out.trans (hb4.mono HB3.out.size));clear hb4 b0 b1 b2 b3 a0 a1 af;obtain⟨b0,b1,b2,b3⟩:=vA ((HB4.out.block _ HSZ0.out).trans HX0.out);obtain⟨a0,a1,af⟩:=tA ((HB4.out.block _ HSZ1.out).trans HX1.out);go_wp2_with (fail);go_at_call 137;refine(HM1.out _).mono ?_
  rintro e w5 ⟨rfl,hb5⟩;unfold aB;have HB5:=hW_ (show Below w0.heap.size w0 w5 from HB4.out.trans (hb5.mono HB4.out.size));clear hb5 b0 b1 b2 b3 a0 a1 af;obtain⟨b0,b1,b2,b3⟩:=vA ((HB5.out.block _ HSZ0.out).trans HX0.out);obtain⟨a0,a1,af⟩:=tA ((HB5.out.block _ HSZ1.out).trans HX1.out);go_wp2_with (fail);refine bodyPost_ret (v:=aB (l1,l1+1)) ?_ rfl ⟨by rw[HF.out],sA (HB0.out.trans (HB5.out.mono HB0.out.size)) (by omega) _ _⟩
  simp[results,Tryz.results105,go_sem,aB,a0,a1]
 have g2:decide ((0:Int)<(l1:Int))=false:=by simp;omega
 have HF3:=hW_ (HF2.out.trans (if_neg c2));go_wp2_with (fail);go_at_call 139;refine(HL2.out _ (HB3.out)).mono ?_
 rintro e w4 ⟨rfl,hb4⟩;have HB4:=hW_ (show Below w0.heap.size w0 w4 from HB3.out.trans (hb4.mono HB3.out.size));clear hb4 b0 b1 b2 b3 a0 a1 af;obtain⟨b0,b1,b2,b3⟩:=vA ((HB4.out.block _ HSZ0.out).trans HX0.out);obtain⟨a0,a1,af⟩:=tA ((HB4.out.block _ HSZ1.out).trans HX1.out)
 by_cases c3:0<l2
 ·have g3:decide ((0:Int)<(l2:Int))=true:=by simp;omega
  have HF:=hW_ (HF3.out.trans (if_pos c3));go_wp2_with (fail);go_at_call 139;refine(HL2.out _ (HB4.out)).mono ?_
  rintro e w5 ⟨rfl,hb5⟩;have HB5:=hW_ (show Below w0.heap.size w0 w5 from HB4.out.trans (hb5.mono HB4.out.size));clear hb5 b0 b1 b2 b3 a0 a1 af;obtain⟨b0,b1,b2,b3⟩:=vA ((HB5.out.block _ HSZ0.out).trans HX0.out);obtain⟨a0,a1,af⟩:=tA ((HB5.out.block _ HSZ1.out).trans HX1.out);go_wp2_with (fail);go_at_call 137;refine(HM2.out _).mono ?_
  rintro e w6 ⟨rfl,hb6⟩;unfold aB;have HB6:=hW_ (show Below w0.heap.size w0 w6 from HB5.out.trans (hb6.mono HB5.out.size));clear hb6 b0 b1 b2 b3 a0 a1 af;obtain⟨b0,b1,b2,b3⟩:=vA ((HB6.out.block _ HSZ0.out).trans HX0.out);obtain⟨a0,a1,af⟩:=tA ((HB6.out.block _ HSZ1.out).trans HX1.out);go_wp2_with (fail);refine bodyPost_ret (v:=aB (l2,l2+1)) ?_ rfl ⟨by rw[HF.out],sA (HB0.out.trans (HB6.out.mono HB0.out.size)) (by omega) _ _⟩
  simp[results,Tryz.results105,go_sem,aB,a0,a1]
 have g3:decide ((0:Int)<(l2:Int))=false:=by simp;omega
 have HF4:=hW_ (HF3.out.trans (if_neg c3));go_wp2_with (fail);go_at_call 140;refine(HBL.out _ (HB4.out)).mono ?_
 rintro e w5 ⟨rfl,hb5⟩;unfold aB;have HB5:=hW_ (show Below w0.heap.size w0 w5 from HB4.out.trans (hb5.mono HB4.out.size));clear hb5 b0 b1 b2 b3 a0 a1 af;obtain⟨b0,b1,b2,b3⟩:=vA ((HB5.out.block _ HSZ0.out).trans HX0.out);obtain⟨a0,a1,af⟩:=tA ((HB5.out.block _ HSZ1.out).trans HX1.out);go_wp2_with (fail);refine bodyPost_ret (v:=aB (rA L)) ?_ rfl ⟨by rw[HF4.out],sA (HB0.out.trans (HB5.out.mono HB0.out.size)) (by omega) _ _⟩
 simp[results,Tryz.results105,go_sem,aB,a0,a1]
end Go.Proofs.YtimkkkdabmhedaaGreatDoor
