/- Walk: the reference's Same of two edits. -/
import Derived.Test.YtahiballegpbgaaGreatDoorR41
set_option linter.unusedVariables false
set_option maxHeartbeats 4000000
set_option maxRecDepth 100000
namespace Go.Proofs.YtahiballegpbgaaGreatDoor
open Go.RowKit
def X3 (r q:Int) (A B:List Int):Bool:=decide (r=q/\A=B)
theorem aCT (w:World) (r q:Int) (ao bo:Option Addr) (n c m d:Nat) (W:World) (hW:W=(w.alloc (.cells #[.int .i64 r, .slice ao n c] 44)).alloc (.cells #[.int .i64 q, .slice bo m d] 44)):
  W.cell? ⟨w.heap.size,0,none⟩=some (.int .i64 r)/\W.cell? ⟨w.heap.size,1,none⟩=some (.slice ao n c)/\W.cell? ⟨w.heap.size+1,0,none⟩=some (.int .i64 q)/\W.cell? ⟨w.heap.size+1,1,none⟩=some (.slice bo m d)/\Below w.heap.size w W:=by
 subst hW;refine⟨by simp[go_sem],by simp[go_sem],by simp[go_sem],by simp[go_sem],(aA w _).alloc (aA w _).size _⟩
theorem same17 {A B:List Int} {ao bo:Option Addr} {n m c d:Nat} (r q:Int) (w:World) (hA:SlI w ao n c A) (hB:SlI w bo m d B):
  Calls Tryz.prog 36 #[edV r (.slice ao n c),edV q (.slice bo m d)] w fun e w'=>e= .returned (.bool (X3 r q A B))/\Below w.heap.size w w':=by
 have hmA:=Nat.le_trans hA.le hA.max;have hmB:=Nat.le_trans hB.le hB.max;have hlA:=hW_ hA.len;have hlB:=hW_ hB.len;unfold maxLen at hmA hmB;obtain⟨W,hW⟩:∃W,W=(w.alloc (.cells #[.int .i64 r, .slice ao n c] 44)).alloc (.cells #[.int .i64 q, .slice bo m d] 44):=⟨_,rfl⟩;obtain⟨c0,c1,c2,c3,hb⟩:=aCT w r q ao bo n c m d W hW;have HW:=hW_ hW;clear hW
 by_cases hr:r=q
 ·have hr1:(r != q)=false:=by simpa using hr
  have Hr:=hW_ hr;clear hr
  by_cases hl:n=m
  ·have ht:(((n:Nat):Int) != (m:Nat))=false:=by rw[hl];simp
   have hl2:=hW_ hl;clear hl;go_enter Tryz.func36,Tryz.ntmps36;go_wp2;go_loopw [5,23] (fun _ i wr=>∃k j:Nat,k<=n/\i= .int .i64 k/\(Hid (∀i,i<k->ix A i=ix B i))/\wr=W.drewN j) (fun _ i _=>n-(intOf i).toNat)
   case atStart=>exact⟨0,0,Nat.zero_le _,rfl,(fun i h=>by omega),HW.out.symm⟩
   case round=>
    obtain⟨k,j,hk,rfl,htk,rfl⟩:=hrel;have hA2:=hA.below hb;have hB2:=hB.below hb
    by_cases hlt:k<n
    ·have hlt2:k<m:=by have:=hl2.out;omega
     obtain⟨b1,o1,rfl,a1⟩:=hA2.at_ hlt;obtain⟨b2,o2,rfl,a2⟩:=hB2.at_ hlt2
     by_cases he:ix A k=ix B k
     ·have he3:(ix A k != ix B k)=false:=by simpa using he
      have he2:=hW_ he;clear he;go_wp2;go_quiet (fail);go_wp2;go_roundw
      case rel=>exact⟨k+1,_,by omega,by go_num,(fun i h=>by by_cases e:i=k;(subst e;exact he2.out);exact htk.out i (by omega)),rfl⟩
      case measure=>simp[intOf];omega
     ·have he3:(ix A k != ix B k)=true:=by simpa using he
      have he2:=hW_ he;clear he;go_wp2;go_quiet (fail);go_wp2;go_ret;refine⟨sA ?_,bA (bA hb _) _⟩;simp only[X3,Hr.out,true_and];refine(decide_eq_false ?_).symm;intro h;exact he2.out (by rw[h])
    ·go_wp2;go_ret;obtain rfl:k=n:=by omega
     refine⟨sA ?_,bA hb _⟩;simp only[X3,Hr.out,true_and];exact(decide_eq_true (eq_of_ix (by rw[hlA.out,hlB.out,hl2.out]) (by rw[hlA.out];exact htk.out))).symm
  ·have ht:(((n:Nat):Int) != (m:Nat))=true:=by simp;omega
   have hl2:=hW_ hl;clear hl;go_enter Tryz.func36,Tryz.ntmps36;go_wp2;go_ret;refine⟨sA ?_,by rw[<-HW.out];exact hb⟩;refine(decide_eq_false ?_).symm;intro h;have:=hlA.out;have:=hlB.out;have:=hl2.out;have h2:=h.2;subst h2;omega
 ·have hr1:(r != q)=true:=by simpa using hr
  have Hr:=hW_ hr;clear hr;go_enter Tryz.func36,Tryz.ntmps36;go_wp2;go_ret;refine⟨sA ?_,by rw[<-HW.out];exact hb⟩;refine(decide_eq_false ?_).symm;intro h;exact Hr.out h.1
theorem tkI_nil {V:Vc} {N:List ByteArray} {kind:Int} {T:List Rg} {keep:Nat} (hT:B5 V N kind T []= []):TkI V N kind T [] [] 0 0 0 0 0 keep false [] []:=
 ⟨rfl,hT.symm,Nat.le_refl _,Nat.le_refl _,⟨Nat.le_refl _,rfl⟩,fun _=>bd_zero _,by omega,rfl,fun _ s hs=>(by cases hs),⟨List.Pairwise.nil,fun x hx=>(by cases hx)⟩⟩
theorem dN (w:World) (vs:List Int) (cs:Array Value) (hcs:cs=(vs.map (.int .i64)).toArray) (g n:Nat) (hg:g=w.heap.size) (hn:n=vs.length) (hm:n<=100) (t:TypeId):
  SlI (w.alloc (.cells cs t)) (some ⟨g,0, .none⟩) n n vs:=Sl.lit6 w _ _ hcs _ _ hg (by simpa using hn) hm t
theorem same22 (W:World) (r:Int) (xs:List Int) {ao bo:Option Addr} {n c d:Nat} (hA:SlI W ao n c xs) (hB:SlI W bo n d xs):
  Calls Tryz.prog 36 #[edV r (.slice ao n c),edV r (.slice bo n d)] W fun e w'=>e= .returned (.bool true)/\Below W.heap.size W w':=by
 have:=same17 r r W hA hB;have e:X3 r r xs xs=true:=by simp[X3]
 rw[e]at this;exact this
theorem lI (w:World) (hU:Usu w):Calls Tryz.prog 8 #[] w fun e w'=>e= .returned (.bool true)/\Below w.heap.size w w':=by
 obtain⟨w1,hw1⟩:∃w1,w.alloc (.cells #[.string ⟨#[97,98]⟩] 9)=w1:=⟨_,rfl⟩;have hb1:Below w.heap.size w w1:=hw1▸aA w _;have HS1:Hid (SlS w1 (some ⟨w.heap.size,0,none⟩) 1 1 [abS]):=hW_ (by rw[<-hw1];exact Sl.lit6 w _ _ rfl _ _ rfl rfl (by simp) _);have HU1:=hW_ (hU.below hb1);have HB1:=hW_ hb1;have HW1:=hW_ hw1;clear hw1 hb1 hU;go_enter Tryz.func8,Tryz.ntmps8;go_wp2_with (fail);rw[HW1.out];refine(yT (M:=[abS]) (N:=[]) w1 HS1.out Sl.none (fun s hs=>by obtain rfl:=List.mem_singleton.1 hs;exact show 2<=maxLen by unfold maxLen;omega) (by simp) (by omega) (by omega)).mono ?_
 rintro e w2 ⟨hpost,hb2⟩;rw[R6_eq,show pK [abS] []= [] from rfl,voc_R0]at hpost;rcases hpost with⟨_,⟨ta,tn,tc,ma,mn,mc,sa,sn,sc⟩,rfl,hv⟩ | ⟨hn,_⟩;rotate_left
 ·exact absurd good_R0 hn
 obtain⟨w3,hw3⟩:∃w3,w2.alloc (.cells #[.slice ta tn tc, .slice ma mn mc, .slice sa sn sc] 26)=w3:=⟨_,rfl⟩;have hb3:Below w2.heap.size w2 w3:=hw3▸aA w2 _;have HB3:Hid (Below w.heap.size w w3):=hW_ (HB1.out.trans ((hb2.trans (hb3.mono hb2.size)).mono HB1.out.size));have HV3:Hid (xE w3 ⟨ta,tn,tc,ma,mn,mc,sa,sn,sc⟩ V6):=hW_ (hv.below hb3);have HU3:=hW_ ((HU1.out.below hb2).below hb3);have HW3:=hW_ hw3;clear hw3 hb2 hb3 hv;simp only[Vd.val];go_wp2_with (fail);rw[HW3.out];refine(tL (dd:=⟨ta,tn,tc,ma,mn,mc,sa,sn,sc⟩) (kind:=2) (N:=[]) (T:=[]) (room:=4) w3 HV3.out ⟨fun s hs=>Nat.le_trans (O7.1.2.1 s hs) (by unfold maxLen;omega),⟨(fun s hs=>(by cases hs)),(show 0<=1048576 by omega)⟩⟩ Sl.none (by simp) (by omega) (SlF.nothing _) (by omega) HU3.out).mono ?_
 rintro e w5 ⟨hpost,hb5⟩;rcases hpost with⟨h,_⟩ | ⟨_,h,_⟩ | ⟨_,_,g,cb,mb,rfl,hcod⟩
 ·exact absurd O7 h
 ·exact absurd okKit_3 h
 have hT5:=Cdr.new hcod (by omega);rw[show D4 ([]:List Rg)=usR from rfl]at hT5;have hs35:=hb5.size;have HNW:=hW_ (lP w5 hT5 hs35 (keep:=9) (depth:=2) (most:=99) (by omega) (by omega) (by omega));have HB5:Hid (Below w.heap.size w w5):=hW_ (HB3.out.trans (hb5.mono HB3.out.size));have HS3:Hid (w.heap.size<=w3.heap.size/\w3.heap.size<=w5.heap.size):=hW_ ⟨HB3.out.size,hs35⟩;clear hb5 hcod hT5 hs35;go_wp2_with (fail);refine HNW.out.mono ?_
 rintro E w6 ⟨tb,pb,wb,Q,col,rfl,h6,hb6,hc6⟩;obtain⟨w7,hw7⟩:∃w7,w6.alloc (.cells #[.int .i64 97, .int .i64 98, .int .i64 32, .int .i64 99] 3)=w7:=⟨_,rfl⟩;have hb7:Below w6.heap.size w6 w7:=hw7▸aA w6 _;have hS7:SlI w7 (some ⟨w6.heap.size,0,none⟩) A6.length 4 A6:=by rw[<-hw7];exact dN w6 A6 _ rfl _ 4 rfl rfl (by omega) _
 have hz6:∀q,q<w3.heap.size->col q=0:=fun q hq=>hc6 q (by have:=HS3.out;omega) (fun h=>by have:=h.1;omega)
 have hc66:col w6.heap.size=0:=h6.c0 _ (Nat.le_refl _);have hT:=nP (m:=0) (B:=A6) (h6.below hb7) (tkI_nil (by decide +kernel)) List.Pairwise.nil O7 ⟨by simp,fun s hs=>by simp at hs,by simp⟩ (by simp) I0 (by omega) (by omega) (by omega) ⟨Nat.le_refl _,Nat.le_refl _⟩ hS7 (M1 (by decide)) (by simp) (show 0+4<=70000 by omega) (show(0:Int)+((0+4:Nat):Int)<1000000 by omega) (by have:=HS3.out;have:=hb6.size;have:=hb7.size;omega) (by simp) (fun ad e h0=>by obtain rfl:=Option.some.inj e;exact hc66) (show((0+4:Nat):Int)<=99/\(99:Int)<=65536 by omega);rw[show([]:List Int).take 0++A6=A6 from rfl,text6,show([]:List Int).filter (fun x=>!decide (x>((0:Nat):Int)))= [] from rfl]at hT;have HT:=hW_ hT;have HW7:=hW_ hw7;have HB7:Hid (Below w3.heap.size w5 w7):=hW_ ((hb6.trans (hb7.mono hb6.size)).mono HS3.out.2);have HZ6:=hW_ hz6;clear h6 hb6 hc6 hw7 hb7 hS7 hz6 hc66 hT;go_wp2_with (fail);rw[HW7.out];refine HT.out.mono ?_
 rintro E w8 ⟨x,rfl,v8,P8,Q8,col8,d8,S8,hx,ho8,h8,hI8,hinc8,hd8,hcol8,hvc8,hk8⟩;obtain rfl:=Ending.returned.inj hx;have ho8':Own w8 w7.heap.size v8 [256,32,99]:=ho8;obtain⟨a8,k8,rfl,-⟩:=ho8'.sl;have hs8:SlI w8 a8 3 k8 [256,32,99]:=by
  obtain⟨ra,rc,e3,hsl⟩:=ho8'.sl;obtain⟨rfl,-,rfl⟩:=Value.slice.inj e3;exact hsl
 have hz8:∀q,q<w3.heap.size->col8 q=0:=fun q hq=>by
  rw[hcol8 q (by have:=HB7.out.size;have:=HS3.out;omega)];exact HZ6.out q hq
 have hb8:Below w3.heap.size w7 w8:=hk8.below (Nat.le_trans HS3.out.2 HB7.out.size) (fun q hq=>by
  apply Classical.byContradiction;intro h;exact hq (HZ6.out q (by omega)))
 obtain⟨w8b,hw8b⟩:∃w8b,w8.alloc (.cells #[.int .i64 0, .slice a8 3 k8] 44)=w8b:=⟨_,rfl⟩;have hb8b:Below w8.heap.size w8 w8b:=hw8b▸aA w8 _;have hx8:w8b.heap[w8.heap.size]?=some (.cells #[.int .i64 0, .slice a8 3 k8] 44):=by rw[<-hw8b];exact heap_alloc_new w8 _
 have hlt8:w8.heap.size<w8b.heap.size:=by rw[<-hw8b];simp
 have hc8:col8 w8.heap.size=0:=h8.c0 _ (Nat.le_refl _);have hs8b:=SlI.below hs8 hb8b;have ha8:=aBS hs8;have hb58:=(HB7.out.trans hb8).trans (hb8b.mono (by have:=HS3.out;have:=(HB7.out.trans hb8).size;omega));have hF:=fix_ok O7 ⟨by simp,fun s hs=>by simp at hs,by simp⟩ I0 ⟨by omega,by omega⟩ hI8 hinc8 (n:=4) ⟨Nat.zero_le _,Nat.le_refl _,fun x hx=>by cases hx⟩ (a':=2) (t':=1) (by show 0+fP 2 usR A6 false=2;rw[n6]) (by show 0+(T5 V6 [] 2 usR A6 false).length=1;rw[com6];rfl);have hFx:=aAu (n:=4) (h8.below hb8b) hI8 O7 (by simp) I0 (by omega) (by omega) (by omega) ⟨Nat.zero_le _,Nat.le_refl _,fun x hx=>by cases hx⟩ (by omega) hF rfl (show 4<=70000 by omega) (by have h:(A6.length:Int)=4:=rfl;omega) (by have:=HS3.out;have:=hb58.size;omega) (by simp) (by have:=hI8.slen hinc8;have h:A6.length=4:=rfl;omega);have HFX:=hW_ hFx;have HW8:=hW_ hw8b;have H8:=hW_ (And.intro hs8b (And.intro hz8 (And.intro hb58 (And.intro hvc8 (And.intro hF (And.intro hd8 (And.intro hx8 (And.intro hlt8 (And.intro hc8 ha8)))))))));clear ho8 ho8' h8 hI8 hinc8 hd8 hcol8 hvc8 hk8 hs8 hz8 hb8 hb58 hF hFx hx hw8b hb8b hx8 hlt8 hc8 hs8b ha8;go_wp2_with (fail);rw[HW8.out];refine HFX.out.mono ?_
 rintro E w9 ⟨rfl,P9,col9,d9,h9,hd9,hcol9,hk9⟩;obtain⟨hs8,hz8,hb58,hvc8,hF,hd8,hx8,hlt8,hc8,ha8⟩:=H8.out;have hs9:SlI w9 a8 3 k8 [256,32,99]:=hs8.keep0 (fun ad e h0=>hk9.block _ (aBS hs8 ad e h0) (fun hq=>hq (hvc8 _ (by rw[e];rfl))));have hx9:=(hk9.block _ hlt8 (fun hq=>hq hc8)).trans hx8;have hc9':col9 w8.heap.size=0:=(hcol9 _ hlt8).trans hc8;have hz9:∀q,q<w3.heap.size->col9 q=0:=fun q hq=>by
  rw[hcol9 q (by have:=hb58.size;have:=HS3.out;omega)];exact hz8 q hq
 have hv9:∀ad,a8=some ad->col9 ad.block=0:=fun ad e=>by
  rw[hcol9 _ (by have:=ha8 ad e (by omega);omega)];exact hvc8 _ (by rw[e];rfl)
 have hb9:Below w3.heap.size w8b w9:=hk9.below (Nat.le_trans HS3.out.2 hb58.size) (fun q hq=>by
  apply Classical.byContradiction;intro h;exact hq (hz8 q (by omega)))
 have hb59:=hb58.trans hb9;obtain⟨w10,hw10⟩:∃w10,w9.alloc (.cells #[.int .i64 100] 3)=w10:=⟨_,rfl⟩;have hb10:Below w9.heap.size w9 w10:=hw10▸aA w9 _;have hS10:SlI w10 (some ⟨w9.heap.size,0,none⟩) [(100:Int)].length 1 [100]:=by rw[<-hw10];exact dN w9 [100] _ rfl _ 1 rfl rfl (by omega) _
 have hc9:col9 w9.heap.size=0:=h9.c0 _ (Nat.le_refl _);have hT:=nP (m:=4) (B:=[100]) (h9.below hb10) hF.tk hF.inc O7 ⟨by simp,fun s hs=>by simp at hs,by simp⟩ (by simp) I0 (by omega) (by omega) (by omega) ⟨Nat.le_refl _,Nat.le_refl _⟩ hS10 (M1 (by decide)) (show 4<=70000 by omega) (show 4+1<=70000 by omega) (by have h:(A6.length:Int)=4:=rfl;show _+((4+1:Nat):Int)<1000000;omega) (by have:=HS3.out;have:=hb59.size;have:=hb10.size;omega) (by simp) (fun ad e h0=>by obtain rfl:=Option.some.inj e;exact hc9) (show((4+1:Nat):Int)<=99/\(99:Int)<=65536 by omega);rw[show A6.take 4++ [(100:Int)]=A6++ [100] from rfl,text7,show([]:List Int).filter (fun x=>!decide (x>((4:Nat):Int)))= [] from rfl]at hT;have HT9:=hW_ hT;have HD9:=hW_ (tkDone h9);have HW10:=hW_ hw10;have H9:=hW_ (And.intro hs9 (And.intro hz9 (And.intro hv9 (And.intro hb59 (And.intro hb10 (And.intro hd9 (And.intro hx9 hc9')))))));clear h9 hd9 hcol9 hk9 hs8 hz8 hb58 hvc8 hF hd8 hs9 hz9 hv9 hb9 hb59 hw10 hb10 hS10 hc9 hT hx8 hlt8 hc8 ha8 hx9 hc9';go_wp2_with (go_at_call 29;refine HD9.out.mono ?_;rintro E W9 ⟨rfl,rfl⟩);rw[HW10.out];refine HT9.out.mono ?_
 rintro E w11 ⟨x,rfl,v11,P11,Q11,col11,d11,S11,hx,ho11,h11,hI11,hinc11,hd11,hcol11,hvc11,hk11⟩;obtain rfl:=Ending.returned.inj hx;obtain⟨hs9,hz9,hv9,hb59,hb10,hd9,hx9,hc9'⟩:=H9.out;have ho11':Own w11 w10.heap.size v11 [100]:=ho11;obtain⟨a11,k11,rfl,-⟩:=ho11'.sl;have hs11:SlI w11 a11 1 k11 [100]:=by
  obtain⟨ra,rc,e3,hsl⟩:=ho11'.sl;obtain⟨rfl,-,rfl⟩:=Value.slice.inj e3;exact hsl
 have hs12:SlI w11 a8 3 k8 [256,32,99]:=(SlI.below hs9 hb10).keep0 (fun ad e h0=>hk11.block _ (Nat.lt_of_lt_of_le (aBS hs9 ad e h0) hb10.size) (fun hq=>hq (hv9 ad e)));have hb11:Below w3.heap.size w10 w11:=hk11.below (by have:=HS3.out;have:=hb59.size;have:=hb10.size;omega) (fun q hq=>by
  apply Classical.byContradiction;intro h;exact hq (hz9 q (by omega)))
 have hb511:Below w3.heap.size w5 w11:=(hb59.trans (hb10.mono (by have:=HS3.out;have:=hb59.size;omega))).trans hb11;have hl9:=(Array.getElem?_eq_some_iff.1 hx9).1;have hx11:=(hk11.block w8.heap.size (Nat.lt_of_lt_of_le hl9 hb10.size) (fun hq=>hq hc9')).trans ((hb10.block _ hl9).trans hx9);have HB11:Hid (Below w.heap.size w w11):=hW_ (HB5.out.trans (hb511.mono HS3.out.1));have HS11:=hW_ hs11;have HS12:=hW_ hs12;have H11:=hW_ h11;have HX11:=hW_ hx11;have HBS:Hid (w3.heap.size<=w11.heap.size):=hW_ (by have:=HS3.out;have:=hb511.size;omega);clear ho11 ho11' h11 hI11 hinc11 hd11 hcol11 hvc11 hk11 hs9 hz9 hv9 hb59 hb10 hd9 hs11 hs12 hb11 hb511 hx hx9 hc9' hl9 hx11;rw[show(([256,32,99]:List Int).length-wA [256,32,99] [256,32,99,100]:Nat)=0 from by decide +kernel,show((0:Nat):Int)=0 from rfl];obtain⟨n0,n1⟩:=zH HX11.out;have n0':=eA (aA w11 (.cells #[.int .i64 0, .slice a11 1 k11] 44)) _ _ n0;have n1':=eA (aA w11 (.cells #[.int .i64 0, .slice a11 1 k11] 44)) _ _ n1;clear n0 n1;go_wp2_with (fail);obtain⟨w12,hw12⟩:∃w12,w11.alloc (.cells #[.int .i64 0, .slice a11 1 k11] 44)=w12:=⟨_,rfl⟩;have hb12:Below w11.heap.size w11 w12:=hw12▸aA w11 _;have hx12:w12.heap[w11.heap.size]?=some (.cells #[.int .i64 0, .slice a11 1 k11] 44):=by rw[<-hw12];exact heap_alloc_new w11 _
 obtain⟨w13,hw13⟩:∃w13,w12.alloc (.cells #[.int .i64 256, .int .i64 32, .int .i64 99] 3)=w13:=⟨_,rfl⟩;have hb13:Below w12.heap.size w12 w13:=hw13▸aA w12 _;have hS13:SlI w13 (some ⟨w11.heap.size+1,0,none⟩) 3 3 [256,32,99]:=by rw[<-hw13];exact dN w12 [256,32,99] _ rfl _ 3 (by rw[<-hw12];simp) rfl (by omega) _
 have hA13:SlI w13 a8 3 k8 [256,32,99]:=SlI.below (SlI.below HS12.out hb12) hb13;rw[hw12,hw13];refine(same22 w13 0 [256,32,99] hA13 hS13).mono ?_
 rintro E w14 ⟨rfl,hb14⟩;have hb1114:Below w11.heap.size w11 w14:=hb12.trans ((hb13.trans (hb14.mono hb13.size)).mono hb12.size);have hl12:=(Array.getElem?_eq_some_iff.1 hx12).1;have hx14:=((hb13.trans (hb14.mono hb13.size)).block _ hl12).trans hx12;obtain⟨m0,m1⟩:=zH hx14;have HB14:=hW_ hb1114;clear hw12 hb12 hx12 hw13 hb13 hS13 hA13 hb14 hb1114 hl12 hx14 n0' n1';go_wp2_with (fail);obtain⟨w15,hw15⟩:∃w15,w14.alloc (.cells #[.int .i64 100] 3)=w15:=⟨_,rfl⟩;have hb15:Below w14.heap.size w14 w15:=hw15▸aA w14 _;have hS15:SlI w15 (some ⟨w14.heap.size,0,none⟩) 1 1 [100]:=by rw[<-hw15];exact dN w14 [100] _ rfl _ 1 rfl rfl (by omega) _
 rw[hw15];refine(same22 w15 0 [100] (SlI.below (SlI.below HS11.out HB14.out) hb15) hS15).mono ?_
 rintro E w16 ⟨rfl,hb16⟩;have hb1116:Below w11.heap.size w11 w16:=HB14.out.trans ((hb15.trans (hb16.mono hb15.size)).mono HB14.out.size);have hWN:=tkWindow (H11.out.below hb1116) (by have:=HBS.out;have:=hb1116.size;omega);have HWN:=hW_ hWN;have HB16:Hid (Below w.heap.size w w16):=hW_ (HB11.out.trans (hb1116.mono HB11.out.size));clear hw15 hb15 hS15 hb16 hb1116 hWN m0 m1;go_wp2_with (first
  | (go_at_call 32;refine HWN.out.mono ?_;rintro E w17 ⟨g',eb',rb',rfl,hwq,-,-,hb17⟩;have HQ:=hW_ (I8 hwq.b);have HB17:=hW_ (HB16.out.trans (hb17.mono HB16.out.size));clear hwq hb17)
  | (go_at_call 37;refine HQ.out.mono ?_;rintro E w18 ⟨rfl,hb18⟩;have HB18:=hW_ (HB17.out.trans (hb18.mono HB17.out.size));clear hb18;rw[uF,show(((1-9:Nat):Int)+((List.drop (1-9) ([256,32,99,100]:List Int)).length:Int))=4 from rfl]))
 go_ret;exact⟨rfl,HB18.out⟩
theorem r22yes {keep depth most:Int} {ta ma sa no to_:Option Addr} {an ac mn mc sn sc nn nc tn tc:Nat} {kind:Int} (w:World) (hk:0<=keep/\keep<=4096) (hd:0<=depth/\depth<=64) (hm:0<=most/\most<=65536):
  Calls Tryz.prog 25 #[.agg #[.slice ta an ac, .slice ma mn mc, .slice sa sn sc, .slice no nn nc, .int .i64 kind, .slice to_ tn tc], .int .i64 keep, .int .i64 depth, .int .i64 most] w fun E w'=>E= .returned (.tuple #[.agg #[.slice ta an ac, .slice ma mn mc, .slice sa sn sc, .slice no nn nc, .int .i64 kind, .slice to_ tn tc, .slice none 0 0, .slice none 0 0, .int .i64 keep, .int .i64 depth, .int .i64 most, .int .i64 0, .bool false], .int .i64 0])/\Below w.heap.size w w':=by
 have g1:decide (keep<0)=false:=decide_eq_false (by omega);have g2:decide (keep>4096)=false:=decide_eq_false (by omega);have g2':decide (4096<keep)=false:=decide_eq_false (by omega);have g3:decide (depth<0)=false:=decide_eq_false (by omega);have g4:decide (depth>64)=false:=decide_eq_false (by omega);have g4':decide (64<depth)=false:=decide_eq_false (by omega);have g5:decide (most<0)=false:=decide_eq_false (by omega);have g6:decide (most>65536)=false:=decide_eq_false (by omega);have g6':decide (65536<most)=false:=decide_eq_false (by omega);clear hk hd hm;go_enter Tryz.func25,Tryz.ntmps25;go_wp2_with (fail);refine bodyPost_ret (v:= .tuple #[.agg #[.slice ta an ac, .slice ma mn mc, .slice sa sn sc, .slice no nn nc, .int .i64 kind, .slice to_ tn tc, .slice none 0 0, .slice none 0 0, .int .i64 keep, .int .i64 depth, .int .i64 most, .int .i64 0, .bool false], .int .i64 0]) ?_ rfl ⟨rfl,?_⟩
 ·simp[results,Tryz.results25,go_sem]
 ·exact(aA w _).alloc (aA w _).size _
theorem r22no {keep depth most:Int} {ta ma sa no to_:Option Addr} {an ac mn mc sn sc nn nc tn tc:Nat} {kind:Int} (w:World) (h:¬((0<=keep/\keep<=4096)/\(0<=depth/\depth<=64)/\(0<=most/\most<=65536))):
  Calls Tryz.prog 25 #[.agg #[.slice ta an ac, .slice ma mn mc, .slice sa sn sc, .slice no nn nc, .int .i64 kind, .slice to_ tn tc], .int .i64 keep, .int .i64 depth, .int .i64 most] w fun E w'=>E= .returned (.tuple #[.agg #[.slice none 0 0, .slice none 0 0, .slice none 0 0, .slice none 0 0, .int .i64 0, .slice none 0 0, .slice none 0 0, .slice none 0 0, .int .i64 0, .int .i64 0, .int .i64 0, .int .i64 0, .bool false], .int .i64 1])/\Below w.heap.size w w':=by
 have hh:keep<0\/(0<=keep/\keep>4096)\/((0<=keep/\keep<=4096)/\(depth<0\/(0<=depth/\depth>64)\/((0<=depth/\depth<=64)/\(most<0\/(0<=most/\most>65536))))):=by omega
 rcases hh with h1 | h1 | ⟨h0,h1 | h1 | ⟨h2,h1 | h1⟩⟩
 all_goals
  first | have g0:decide (keep<0)=false:=decide_eq_false (by omega) | have g0:decide (keep<0)=true:=decide_eq_true (by omega) | skip
  first | have g1:decide (keep>4096)=false:=decide_eq_false (by omega) | have g1:decide (keep>4096)=true:=decide_eq_true (by omega) | skip
  first | have g2:decide (4096<keep)=false:=decide_eq_false (by omega) | have g2:decide (4096<keep)=true:=decide_eq_true (by omega) | skip
  first | have g3:decide (depth<0)=false:=decide_eq_false (by omega) | have g3:decide (depth<0)=true:=decide_eq_true (by omega) | skip
  first | have g4:decide (depth>64)=false:=decide_eq_false (by omega) | have g4:decide (depth>64)=true:=decide_eq_true (by omega) | skip
  first | have g5:decide (64<depth)=false:=decide_eq_false (by omega) | have g5:decide (64<depth)=true:=decide_eq_true (by omega) | skip
  first | have g6:decide (most<0)=false:=decide_eq_false (by omega) | have g6:decide (most<0)=true:=decide_eq_true (by omega) | skip
  first | have g7:decide (most>65536)=false:=decide_eq_false (by omega) | have g7:decide (most>65536)=true:=decide_eq_true (by omega) | skip
  first | have g8:decide (65536<most)=false:=decide_eq_false (by omega) | have g8:decide (65536<most)=true:=decide_eq_true (by omega) | skip
  try clear h0
  try clear h2
  clear h h1;go_enter Tryz.func25,Tryz.ntmps25;go_wp2_with (fail);refine bodyPost_ret (v:= .tuple #[.agg #[.slice none 0 0, .slice none 0 0, .slice none 0 0, .slice none 0 0, .int .i64 0, .slice none 0 0, .slice none 0 0, .slice none 0 0, .int .i64 0, .int .i64 0, .int .i64 0, .int .i64 0, .bool false], .int .i64 1]) ?_ rfl ⟨rfl,?_⟩
  ·simp[results,Tryz.results25,go_sem]
  ·first | exact Below.refl _ _ | exact aA w _ | exact(aA w _).alloc (aA w _).size _
theorem uI (w:World):Calls Tryz.prog 38 #[.pointer none] w fun E w'=>E= .returned (.int .i64 1)/\w'=w:=by
 go_enter Tryz.func38,Tryz.ntmps38;go_wp2_with (fail);go_ret;exact⟨rfl,rfl⟩
theorem tnLen (w:World):Calls Tryz.prog 9 #[.pointer none] w fun E w'=>E= .returned (.int .i64 0)/\w'=w:=by
 go_enter Tryz.func9,Tryz.ntmps9;go_wp2_with (fail);go_ret;exact⟨rfl,rfl⟩
theorem tnSaved (w:World):Calls Tryz.prog 28 #[.pointer none] w fun E w'=>E= .returned (.int .i64 0)/\w'=w:=by
 go_enter Tryz.func28,Tryz.ntmps28;go_wp2_with (fail);go_ret;exact⟨rfl,rfl⟩
theorem tnFixed (w:World):Calls Tryz.prog 20 #[.pointer none] w fun E w'=>E= .returned (.int .i64 0)/\w'=w:=by
 go_enter Tryz.func20,Tryz.ntmps20;go_wp2_with (fail);go_ret;exact⟨rfl,rfl⟩
theorem tnDone (w:World):Calls Tryz.prog 29 #[.pointer none] w fun E w'=>E= .returned (.int .i64 0)/\w'=w:=by
 go_enter Tryz.func29,Tryz.ntmps29;go_wp2_with (fail);go_ret;exact⟨rfl,rfl⟩
theorem tnOpen (w:World):Calls Tryz.prog 30 #[.pointer none] w fun E w'=>E= .returned (.int .i64 0)/\w'=w:=by
 go_enter Tryz.func30,Tryz.ntmps30;go_wp2_with (fail);go_ret;exact⟨rfl,rfl⟩
theorem tnEnded (w:World):Calls Tryz.prog 31 #[.pointer none] w fun E w'=>E= .returned (.bool false)/\w'=w:=by
 go_enter Tryz.func31,Tryz.ntmps31;go_wp2_with (fail);go_ret;exact⟨rfl,rfl⟩
theorem tnWindow (w:World):Calls Tryz.prog 32 #[.pointer none] w fun E w'=>E= .returned (.pointer none)/\w'=w:=by
 go_enter Tryz.func32,Tryz.ntmps32;go_wp2_with (fail);go_ret;exact⟨rfl,rfl⟩
theorem tnCopy (w:World):Calls Tryz.prog 33 #[.pointer none] w fun E w'=>E= .returned (.pointer none)/\w'=w:=by
 go_enter Tryz.func33,Tryz.ntmps33;go_wp2_with (fail);go_ret;exact⟨rfl,rfl⟩
theorem tnSave (w:World):Calls Tryz.prog 12 #[.pointer none] w fun E w'=>E= .returned (.int .i64 1)/\w'=w:=by
 go_enter Tryz.func12,Tryz.ntmps12;go_wp2_with (go_at_call 38;refine(uI _).mono ?_;rintro E w' ⟨rfl,rfl⟩);go_ret;exact⟨rfl,rfl⟩
theorem tnSettle (w:World):Calls Tryz.prog 26 #[.pointer none] w fun E w'=>E= .returned (.int .i64 1)/\w'=w:=by
 go_enter Tryz.func26,Tryz.ntmps26;go_wp2_with (go_at_call 38;refine(uI _).mono ?_;rintro E w' ⟨rfl,rfl⟩);go_ret;exact⟨rfl,rfl⟩
theorem tnFix (n:Int) (w:World):Calls Tryz.prog 14 #[.pointer none, .int .i64 n] w fun E w'=>E= .returned (.int .i64 1)/\w'=w:=by
 go_enter Tryz.func14,Tryz.ntmps14;go_wp2_with (go_at_call 38;refine(uI _).mono ?_;rintro E w' ⟨rfl,rfl⟩);go_ret;exact⟨rfl,rfl⟩
theorem tnEnd (w:World):Calls Tryz.prog 27 #[.pointer none] w fun E w'=>E= .returned (.int .i64 1)/\w'=w:=by
 go_enter Tryz.func27,Tryz.ntmps27;go_wp2_with (go_at_call 38;refine(uI _).mono ?_;rintro E w' ⟨rfl,rfl⟩);go_ret;exact⟨rfl,rfl⟩
theorem tnTurn (n:Int) (ao:Option Addr) (k c:Nat) (w:World):Calls Tryz.prog 10 #[.pointer none, .int .i64 n, .slice ao k c] w fun E w'=>E= .returned (.tuple #[.agg #[.int .i64 0, .slice none 0 0], .int .i64 1])/\Below w.heap.size w w':=by
 go_enter Tryz.func10,Tryz.ntmps10;go_wp2_with (go_at_call 38;refine(uI _).mono ?_;rintro E w' ⟨rfl,rfl⟩);refine bodyPost_ret (v:= .tuple #[.agg #[.int .i64 0, .slice none 0 0], .int .i64 1]) ?_ rfl ⟨rfl,aA w _⟩
 simp[results,Tryz.results10,go_sem]
theorem tnBack (n:Int) (w:World):Calls Tryz.prog 13 #[.pointer none, .int .i64 n] w fun E w'=>E= .returned (.tuple #[.agg #[.int .i64 0, .slice none 0 0], .int .i64 1])/\Below w.heap.size w w':=by
 go_enter Tryz.func13,Tryz.ntmps13;go_wp2_with (go_at_call 38;refine(uI _).mono ?_;rintro E w' ⟨rfl,rfl⟩);refine bodyPost_ret (v:= .tuple #[.agg #[.int .i64 0, .slice none 0 0], .int .i64 1]) ?_ rfl ⟨rfl,aA w _⟩
 simp[results,Tryz.results13,go_sem]
theorem mU (n m:Int) (w:World):Calls Tryz.prog 21 #[.pointer none, .int .i64 n, .int .i64 m] w fun E w'=>E= .returned (.tuple #[.slice none 0 0, .int .i64 1])/\w'=w:=by
 go_enter Tryz.func21,Tryz.ntmps21;go_wp2_with (fail);refine bodyPost_ret (v:= .tuple #[.slice none 0 0, .int .i64 1]) ?_ rfl ⟨rfl,rfl⟩
 simp[results,Tryz.results21,go_sem]
theorem rT {V:Vc} {dd:Vd} {N:List ByteArray} {kind:Int} {T:List Rg} {room:Int} {no to_:Option Addr} {nn nc tn tc:Nat} {keep depth most:Int} (w:World) (hV:xE w dd V) (hok:(∀s∈V.tokens,s.size<=maxLen)/\lO V.specials) (hN:SlS w no nn nc N) (hNs:∀s∈N,s.size<=maxLen)
  (hT:SlF 3 w to_ tn tc (flat Rg.enc T)) (hU:Usu w):
  Frame.Law Tryz.prog 5 #[.agg #[.slice dd.ta dd.tn dd.tc, .slice dd.ma dd.mn dd.mc, .slice dd.sa dd.sn dd.sc, .slice no nn nc, .int .i64 kind, .slice to_ tn tc, .int .i64 room], .int .i64 keep, .int .i64 depth, .int .i64 most] w:=by
 unfold Frame.Law;obtain⟨ta,tn',tc',ma,mn,mc,sa,sn,sc'⟩:=dd;obtain⟨w0,hw0⟩:∃w0,w.alloc (.cells #[.slice ta tn' tc', .slice ma mn mc, .slice sa sn sc', .slice no nn nc, .int .i64 kind, .slice to_ tn tc, .int .i64 room] 29)=w0:=⟨_,rfl⟩;have hb0:Below w.heap.size w w0:=hw0▸aA w _;have hx0:w0.heap[w.heap.size]?=some (.cells #[.slice ta tn' tc', .slice ma mn mc, .slice sa sn sc', .slice no nn nc, .int .i64 kind, .slice to_ tn tc, .int .i64 room] 29):=by rw[<-hw0];exact heap_alloc_new w _
 have hmade:=zY (dd:=⟨ta,tn',tc',ma,mn,mc,sa,sn,sc'⟩) (kind:=kind) (room:=room) w0 (hV.below hb0) hok (Sl.below hN hb0) hNs (hT.below hb0) (hU.below hb0);have HU:=hW_ hU;have HB0:=hW_ hb0;have HW0:=hW_ hw0;obtain⟨c0,c1,c2,c3,c4,c5,c6⟩:=box7 hx0;rw[<-HW0.out]at c0 c1 c2 c3 c4 c5 c6;clear hV hok hN hNs hT hU hb0 hw0 hx0;go_enter Tryz.func5,Tryz.ntmps5;go_wp2_with (fail);rw[HW0.out];clear c0 c1 c2 c3 c4 c5 c6;refine hmade.mono ?_
 rintro e w1 ⟨hpost,hb1⟩;have hZ01:Hid (w0.heap.size<=w1.heap.size):=hW_ hb1.size;have HB01:=hW_ hb1;have HB1:Hid (Below w.heap.size w w1):=hW_ (HB0.out.trans (hb1.mono HB0.out.size));clear hb1 hmade;rcases hpost with⟨rfl,-⟩ | ⟨hM,hOK,hG,g,cb,mb,to2,tn2,tc2,rfl,hTC,hCR,hTB⟩
 ·unfold noC;have hb2:=HB1.out.alloc HB1.out.size (.cells #[.slice none 0 0, .slice none 0 0, .slice none 0 0, .slice none 0 0, .int .i64 0, .slice none 0 0] 33);have HB2:=hW_ hb2;clear hb2;go_wp2_with (fail);refine(lI _ (HU.out.below HB2.out)).mono ?_
  rintro e w3 ⟨rfl,hb3⟩;have HB3:=hW_ (HB2.out.trans (hb3.mono HB2.out.size));clear hb3;go_wp2_with (fail);go_ret;exact⟨rfl,HB3.out⟩
 obtain⟨w2,hw2⟩:∃w2,w1.alloc (.cells #[.slice ta tn' tc', .slice ma mn mc, .slice sa sn sc', .slice no nn nc, .int .i64 kind, .slice to2 tn2 tc2] 33)=w2:=⟨_,rfl⟩;have hb2:Below w1.heap.size w1 w2:=hw2▸aA w1 _;have hx2:w2.heap[w1.heap.size]?=some (.cells #[.slice ta tn' tc', .slice ma mn mc, .slice sa sn sc', .slice no nn nc, .int .i64 kind, .slice to2 tn2 tc2] 33):=by rw[<-hw2];exact heap_alloc_new w1 _
 have hz2:w1.heap.size<w2.heap.size:=by rw[<-hw2];simp
 have HB2:Hid (Below w.heap.size w w2):=hW_ (HB1.out.trans (hb2.mono HB1.out.size));have hK1:=Cdr.new hTC hOK.2.2.2.2.1;have HK1:=hW_ (hK1.below hb2);have HCR:=hW_ (hCR.below hb2);have HM:=hW_ hM;have HOK:=hW_ hOK;have HX2:=hW_ hx2;have HZ2:=hW_ hz2;have HW2:=hW_ hw2;have HN1:Hid (N.length<=16/\0<=kind/\kind<=3/\oA (D4 T)/\0<=room/\room<=1048576):=hW_ ⟨hOK.1.1,hOK.2.1,hOK.2.2.1,aDA hOK.2.2.2.1,hOK.2.2.2.2.1,hOK.2.2.2.2.2⟩;clear hb2 hx2 hz2 hw2 hTC hCR hTB hM hOK hG hK1;unfold cVal
 by_cases hk:(0<=keep/\keep<=4096)/\(0<=depth/\depth<=64)/\(0<=most/\most<=65536)
 (obtain⟨K,rfl⟩:∃K:Nat,keep=K:=⟨keep.toNat,by omega⟩;have HNW:=hW_ (lP w2 HK1.out (by have:=hZ01.out;have:=HZ2.out;omega) (keep:=K) (by omega) hk.2.1 hk.2.2);have HR:=hW_ (fun w=>r22yes (ta:=ta) (ma:=ma) (sa:=sa) (no:=no) (to_:=to2) (an:=tn') (ac:=tc') (mn:=mn) (mc:=mc) (sn:=sn) (sc:=sc') (nn:=nn) (nc:=nc) (tn:=tn2) (tc:=tc2) (kind:=kind) w hk.1 hk.2.1 hk.2.2);clear hk;go_wp2_with (fail);rw[HW2.out];refine HNW.out.mono ?_;rintro E w3 ⟨tb,pb,wb,Q,col,rfl,-,hb3,-⟩;have HB3:Hid (Below w.heap.size w w3):=hW_ (HB2.out.trans (hb3.mono HB2.out.size));obtain⟨b0,b1,b2,b3,b4,b5,bf⟩:=vQ ((hb3.block _ HZ2.out).trans HX2.out);clear hb3)
 rotate_left
 (have HNW:=hW_ (yV w2 (c:=some ⟨g,0,none⟩) (.inr hk) (fun ad e=>⟨g,(Option.some.inj e).symm⟩));have HR:=hW_ (fun w=>r22no (ta:=ta) (ma:=ma) (sa:=sa) (no:=no) (to_:=to2) (an:=tn') (ac:=tc') (mn:=mn) (mc:=mc) (sn:=sn) (sc:=sc') (nn:=nn) (nc:=nc) (tn:=tn2) (tc:=tc2) (kind:=kind) w hk);clear hk;go_wp2_with (fail);rw[HW2.out];refine HNW.out.mono ?_;rintro E w3 ⟨rfl,hb3⟩;have HB3:Hid (Below w.heap.size w w3):=hW_ (HB2.out.trans (hb3.mono HB2.out.size));obtain⟨b0,b1,b2,b3,b4,b5,bf⟩:=vQ ((hb3.block _ HZ2.out).trans HX2.out);clear hb3)
 all_goals
  go_wp2_with (first
   | (go_at_call 25;refine(HR.out w3).mono ?_;rintro E w4 ⟨rfl,hb4⟩;have HB4:Hid (Below w.heap.size w w4):=hW_ (HB3.out.trans (hb4.mono HB3.out.size));clear hb4)
   | (go_at_call 24;refine(yV _ (c:=none) (.inl rfl) (fun ad e=>(by cases e))).mono ?_;rintro E w5 ⟨rfl,hb5⟩;have HB5:Hid (Below w.heap.size w w5):=hW_ ((HB4.out.alloc HB4.out.size _).trans (hb5.mono (HB4.out.alloc HB4.out.size _).size));clear hb5)
   | (go_at_call 10;refine(tnTurn _ _ _ _ _).mono ?_;rintro E w6 ⟨rfl,hb6⟩;have HB6:Hid (Below w.heap.size w w6):=hW_ (HB5.out.trans (hb6.mono HB5.out.size));clear hb6)
   | (go_at_call 13;refine(tnBack _ _).mono ?_;rintro E w7 ⟨rfl,hb7⟩;have HB7:Hid (Below w.heap.size w w7):=hW_ ((HB6.out.alloc HB6.out.size _).trans (hb7.mono (HB6.out.alloc HB6.out.size _).size));clear hb7)
   | (go_at_call 21;refine(mU _ _ _).mono ?_;rintro E W9 ⟨rfl,rfl⟩)
   | (go_at_call 8;refine(lI _ (HU.out.below (HB7.out.alloc HB7.out.size _))).mono ?_;rintro e w8 ⟨rfl,hb8⟩;have HB8:Hid (Below w.heap.size w w8):=hW_ ((HB7.out.alloc HB7.out.size _).trans (hb8.mono (HB7.out.alloc HB7.out.size _).size));clear hb8)
   | (go_at_call 12;refine(tnSave _).mono ?_;rintro E W9 ⟨rfl,rfl⟩)
   | (go_at_call 26;refine(tnSettle _).mono ?_;rintro E W9 ⟨rfl,rfl⟩)
   | (go_at_call 27;refine(tnEnd _).mono ?_;rintro E W9 ⟨rfl,rfl⟩)
   | (go_at_call 9;refine(tnLen _).mono ?_;rintro E W9 ⟨rfl,rfl⟩)
   | (go_at_call 28;refine(tnSaved _).mono ?_;rintro E W9 ⟨rfl,rfl⟩)
   | (go_at_call 20;refine(tnFixed _).mono ?_;rintro E W9 ⟨rfl,rfl⟩)
   | (go_at_call 29;refine(tnDone _).mono ?_;rintro E W9 ⟨rfl,rfl⟩)
   | (go_at_call 30;refine(tnOpen _).mono ?_;rintro E W9 ⟨rfl,rfl⟩)
   | (go_at_call 31;refine(tnEnded _).mono ?_;rintro E W9 ⟨rfl,rfl⟩)
   | (go_at_call 32;refine(tnWindow _).mono ?_;rintro E W9 ⟨rfl,rfl⟩)
   | (go_at_call 33;refine(tnCopy _).mono ?_;rintro E W9 ⟨rfl,rfl⟩)
   | (go_at_call 14;refine(tnFix _ _).mono ?_;rintro E W9 ⟨rfl,rfl⟩))
  go_ret;exact⟨rfl,HB8.out⟩
open Go.ChangeShapes Go.WideShapes Go.RowKit
theorem aDR {H:Type} {enc:TypeId×Value->H} {P:Program} {w:World} {base:Nat} {spare:Nat->Bool} {held:Bool} {t1 t2 t3 t4:TypeId} {args:Array Value} {ds:List (DataW H)} {ps:List MemPlace} (h:DataW.TrodAll enc P w base spare held [t1,t2,t3,t4] args.toList ds ps):
  ∃v1 v2 v3 v4 d1 d2 d3 d4 p1 p2 p3 p4,args= #[v1,v2,v3,v4]/\ds= [d1,d2,d3,d4]/\ps=p1++p2++p3++p4/\DataW.Trod enc P w base spare held t1 v1 d1 p1/\DataW.Trod enc P w base spare held t2 v2 d2 p2/\DataW.Trod enc P w base spare held t3 v3 d3 p3/\DataW.Trod enc P w base spare held t4 v4 d4 p4:=by
 obtain⟨v1,vs,d1,ds1,p1,q1,hargs,rfl,rfl,hd1,hr1⟩:=trodAll_cons h;obtain⟨v2,vs2,d2,ds2,p2,q2,rfl,rfl,rfl,hd2,hr2⟩:=trodAll_cons hr1;obtain⟨v3,vs3,d3,ds3,p3,q3,rfl,rfl,rfl,hd3,hr3⟩:=trodAll_cons hr2;obtain⟨v4,vs4,d4,ds4,p4,q4,rfl,rfl,rfl,hd4,hr4⟩:=trodAll_cons hr3;obtain⟨rfl,rfl,rfl⟩:=trodAll_nil hr4;exact⟨v1,v2,v3,v4,d1,d2,d3,d4,p1,p2,p3,p4,by cases args;simp_all,rfl,by simp,hd1,hd2,hd3,hd4⟩
end Go.Proofs.YtahiballegpbgaaGreatDoor
