/- Walk: encode.Coder.Encode. -/
import Derived.Test.YtimkkkdabmhedaaGreatDoorF19
import Derived.Test.YtimkkkdabmhedaaGreatDoorF8
import Derived.Test.YtimkkkdabmhedaaGreatDoorF7
import Derived.Test.YtimkkkdabmhedaaGreatDoorF1
import Derived.Test.YtimkkkdabmhedaaGreatDoorF15
set_option linter.unusedVariables false
set_option maxHeartbeats 4000000
set_option maxRecDepth 100000
namespace Go.Proofs.YtimkkkdabmhedaaGreatDoor
open Go.RowKit Go.ChangeMaps
def lfR (n:Nat):List Int:=(List.range n).map (fun(i:Nat)=>(i:Int)-1)
def rtR (n:Nat):List Int:=(List.range n).map (fun(i:Nat)=>(i:Int)+1)
theorem mQ (n:Nat):(lfR n).length=n:=by simp[lfR]
theorem gN (n:Nat):(rtR n).length=n:=by simp[rtR]
theorem lfR_take {n k:Nat} (h:k<n):(lfR n).take k++ [(k:Int)-1]=(lfR n).take (k+1):=by
 rw[<-sF (by rw[mQ];exact h)];congr 2;simp[ix,lfR,List.getD,h]
theorem rtR_take {n k:Nat} (h:k<n):(rtR n).take k++ [(k:Int)+1]=(rtR n).take (k+1):=by
 rw[<-sF (by rw[gN];exact h)];congr 2;simp[ix,rtR,List.getD,h]
theorem Z8 {V:Vc} {B:List Int} {k yn:Nat} (h:B[k]?=some (yn:Int)):(cB V B).take k++ [ofT V.tokens (one yn)]=(cB V B).take (k+1):=by
 have hk:=(List.getElem?_eq_some_iff.1 h).1;rw[<-sF (by rw[wE];exact hk)];congr 2;have h2:=(List.getElem?_eq_some_iff.1 h).2;simp[ix,cB,List.getD,hk,h2]
theorem rY {V:Vc} {eb eg:Nat} {B:List Int} {ao:Option Addr} {n c:Nat} (w:World) (hE:gS w eb eg V) (hM:May V) (hS:SlB w ao n c B) (hby:∀y∈B,0<=y/\y<256) (hn0:0<n) (hn:n<=100000):
  Calls Tryz.prog 91 #[.pointer (some ⟨eg,0,none⟩), .slice ao n c] w fun e w'=>∃v,e= .returned v/\Own w' w.heap.size v (fG V B)/\Below w.heap.size w w':=by
 obtain⟨lo,cs,to_,tcc,pg,hx,hcs,hto,hpt⟩:=hE;have hBn:=hS.len;have hel:eg<w.heap.size:=(Array.getElem?_eq_some_iff.1 hx).1;have c1:w.cell? ⟨eg,1,none⟩=some (.pointer (some ⟨pg,0,none⟩)):=by simp[World.cell?,hx,hcs.2.2.1]
 have G1:=fun w' (hg:Ge w w')=>hg.at w w' c1
 have gr:=Ge.refl w;have HN:Hid (∀W,Ge w W->Calls Tryz.prog 121 #[] W fun e w'=>∃g mb,e= .returned (.pointer (some ⟨g,0,none⟩))/\Ge w w'/\AgV w' w.heap.size g mb (.slice none 0 0) []):=hW_ (fun W hW=>(aAO W).mono (by
  rintro e w' ⟨g,mb,rfl,h1,h2,_⟩;exact⟨g,mb,rfl,hW.below h2,h1.mono hW.size⟩))
 have HCS:=hW_ hcs;have HX:=hW_ hx;have HS:=hW_ hS;have HPT:=hW_ hpt;have HBN:=hW_ hBn;have HBY:=hW_ hby;have HM:=hW_ hM;have gn0:¬(n:Int)=0:=by omega
 have gn1:((n:Int)==0)=false:=by simpa using gn0
 have HEL:=hW_ hel;clear hx hcs hto hpt hS hBn hby hM hel;go_enter Tryz.func91,Tryz.ntmps91;go_wp2_with (fail);refine aBS ?keyP ?keyF ?keyH
 case keyF=>
  intro key
  go_region_held3 (Ge w) (first | (with_reducible assumption) | (with_reducible refine Ge.drew ?_;with_reducible assumption) | (with_reducible refine Ge.alloc ?_ _;with_reducible assumption) | (with_reducible refine Ge.alloc (Ge.drew ?_) _;with_reducible assumption) | (with_reducible refine Ge.drew (Ge.alloc ?_ _);with_reducible assumption) | (with_reducible refine Ge.set4 ?_ (Nat.le_refl _) _ _ _ _ _ _ _ _;with_reducible assumption) | (with_reducible refine Ge.set4 (Ge.drew ?_) (Nat.le_refl _) _ _ _ _ _ _ _ _;with_reducible assumption) | (with_reducible refine Ge.drew (Ge.set4 ?_ (Nat.le_refl _) _ _ _ _ _ _ _ _);with_reducible assumption) | (with_reducible refine Ge.drewN ?_ _;with_reducible assumption)) ((go_at_call 121;refine(HN.out _ (by exact bA (Below.refl _ _) _)).mono ?_;rintro e w1 ⟨g,mb,rfl,hg1,ha1⟩;have HA1:=hW_ ha1;clear ha1))
  all_goals(revert w1 g mb;exact key.out)
 intro w1 g mb hg1 HA1 hW;obtain⟨W1,hW1⟩:∃W1,w1.alloc (.cells #[.slice none 0 0, .slice none 0 0, .slice none 0 0, .func (.func 120) #[.pointer (some ⟨pg,0,none⟩)] #[], .pointer (some ⟨g,0,none⟩)] 183)=W1:=⟨_,rfl⟩;have hbx:=heap_alloc_new w1 (.cells #[.slice none 0 0, .slice none 0 0, .slice none 0 0, .func (.func 120) #[.pointer (some ⟨pg,0,none⟩)] #[], .pointer (some ⟨g,0,none⟩)] 183);have hA2:=HA1.out.below (aA w1 (.cells #[.slice none 0 0, .slice none 0 0, .slice none 0 0, .func (.func 120) #[.pointer (some ⟨pg,0,none⟩)] #[], .pointer (some ⟨g,0,none⟩)] 183));rw[hW1]at hbx hA2 hW |-;obtain⟨kb,hkb⟩:∃kb,w1.heap.size=kb:=⟨_,rfl⟩;have hgl:g<w1.heap.size:=(Array.getElem?_eq_some_iff.1 HA1.out.pile.box).1;have hml:mb<w1.heap.size:=HA1.out.pile.at_.lt;have hs1:w.heap.size<=w1.heap.size:=hg1.size;rw[hkb]at hbx hgl hml hs1 |-;have HBL:Hid (Bld W1 w.heap.size kb g mb pg (V3 (.slice none 0 0) (.slice none 0 0) (.slice none 0 0)) (V3 ([]:List Int) [] [])):=hW_ ⟨hbx,fun j hj=>by
  rcases(by omega:j=0\/j=1\/j=2)with rfl | rfl | rfl<;>exact Own.nil _ _,hA2,⟨hs1,hW.size⟩,fun j hj q hq=>by
  rcases(by omega:j=0\/j=1\/j=2)with rfl | rfl | rfl<;>simp[Value.ownBlock,V3]at hq,⟨by omega,by omega⟩⟩
 have HW1:=hW_ hW;clear hW1 hbx hA2 hW hkb hgl hml hs1 hg1 HA1 G1 gr c1;go_wp2_with (fail);go_loopw [30] (fun i wr=>∃(k:Nat) (v1 v2 v3:Value),k<=n/\i= .int .i64 k/\Hid (Bld wr w.heap.size kb g mb pg (V3 v1 v2 v3) (V3 ((cB V B).take k) ((lfR n).take k) ((rtR n).take k)))/\Hid (Below w.heap.size w wr)) (fun i _=>n-(intOf i).toNat)
 case atStart=>exact⟨0,_,_,_,Nat.zero_le _,rfl,HBL,hW_ HW1.out⟩
 case round=>
  obtain⟨k,v1,v2,v3,hk,rfl,HB,HBW⟩:=hrel
  by_cases hlt:k<n
  ·obtain⟨yn,hyn,hy⟩:∃yn:Nat,B[k]?=some (yn:Int)/\yn<256:=by
    have hkB:k<B.length:=by have:=HBN.out;omega
    have h1:=HBY.out _ (List.getElem_mem hkB);exact⟨B[k].toNat,by rw[List.getElem?_eq_getElem hkB];congr 1;omega,by omega⟩
   obtain⟨bb,bo,hao,hcb⟩:=Sl.at_ (Sl.below HS.out HBW.out) k (.int .u8 yn) (by rw[List.getElem?_map,hyn];rfl);subst hao;have hxr:=(HBW.out.block eg HEL.out).trans HX.out;have c1:wr.cell? ⟨eg,2+yn,none⟩=some (.int .i64 (ofT V.tokens (one yn))):=by
    have:=HCS.out.2.2.2 yn hy;simp[World.cell?,hxr,this]
   have HAT:=hW_ (Z8 (V:=V) hyn);have hl1:((cB V B).take k).length=k:=by rw[List.length_take,wE];have:=HBN.out;omega
   have hl2:((lfR n).take k).length=k:=by rw[List.length_take,mQ];omega
   have hl3:((rtR n).take k).length=k:=by rw[List.length_take,gN];omega
   have HL1:=hW_ hl1;have HL2:=hW_ hl2;have HL3:=hW_ hl3;obtain⟨a,ha⟩:∃a,ofT V.tokens (one yn)=a:=⟨_,rfl⟩;rw[ha]at c1 HAT;obtain⟨b0,b1,b2,bf⟩:=HB.out.cells;have HR1:Hid (Own wr w.heap.size v1 ((cB V B).take k)):=hW_ (HB.out.row 0 (by omega));have hkc:(2:Nat)+yn*1=2+yn:=by omega
   have gy:(yn:Int)<256:=by omega
   have gk:(k:Int)<(n:Int):=by omega
   have HLO:=hW_ HB.out.lo.2;have e0:=dA (aA wr (.cells #[.int .i64 a] 3)) _ _ b0;clear hyn hxr hl1 hl2 hl3 ha;go_wp2_with (fail);refine aBS ?keyQ ?keyG ?keyI
   case keyG=>
    intro key
    go_region_law (refine F3 (by rfl) _ _ (by rfl) (base:=w.heap.size) (k:=k) (y:=a) (by rfl) (by exact World.ownsRow.alloc HR1.out _) HL1.out (by rfl) (by exact heap_alloc_new _ _) (by omega) (by simp;have:=HLO.out;omega) ?_;intro gg cap w2 ho2 hg2 hat2;obtain⟨k0,k1,k2,kf⟩:=HB.out.after (by exact lC rfl rfl rfl rfl) 0 (by omega) hg2;have HST:=hW_ (HB.out.step0 (by exact lC rfl rfl rfl rfl) ho2 hg2 hat2 HAT.out);clear ho2 hg2 hat2)
    all_goals(clear k0 k1 k2 kf;revert w2 gg cap;exact key.out)
   intro gg cap w2 HST;have hs:=HST.out;obtain⟨W2,hW2⟩:∃W2,w2.setCell ⟨kb,0,none⟩ (.slice (some ⟨gg,0,none⟩) (k+1) cap)=W2:=⟨_,rfl⟩;rw[hW2]at hs;have hs2:=hs.1;have HB2:=hW_ hs2;have HBW2:Hid (Below w.heap.size w W2):=hW_ (HBW.out.trans hs.2);rw[hW2];clear hs hs2 HST hW2 b0 b1 b2 bf e0 c1 hcb HB HR1;obtain⟨b0,b1,b2,bf⟩:=HB2.out.cells;have HR2:Hid (Own W2 w.heap.size v2 ((lfR n).take k)):=hW_ (HB2.out.row 1 (by omega));have HLO2:=hW_ HB2.out.lo.2;have qs:IntKind.i64.wrap ((k:Int)-1)=(k:Int)-1:=by rw[IntKind.wrap_i64];omega
   have qp:IntKind.i64.wrap ((k:Int)+1)=(k:Int)+1:=by rw[IntKind.wrap_i64];omega
   go_wp2_with (first
    | (at_builtin;refine B4 rfl _ _ rfl (base:=w.heap.size) (k:=k) (y:=(k:Int)-1) rfl (by exact World.ownsRow.alloc HR2.out _) HL2.out rfl (by exact heap_alloc_new _ _) (by omega) (by simp;have:=HLO2.out;omega) ?_;intro gg3 cap3 w3 ho3 hg3 hat3;obtain⟨k0,k1,k2,kf⟩:=HB2.out.after (by exact lC rfl rfl rfl rfl) 1 (by omega) hg3;have HST3:=hW_ (HB2.out.step1 (by exact lC rfl rfl rfl rfl) ho3 hg3 hat3 (lfR_take hlt));clear ho3 hg3 hat3)
    | (at_builtin;refine B4 rfl _ _ rfl (base:=w.heap.size) (k:=k) (y:=(k:Int)+1) rfl (by exact World.ownsRow.alloc (HST3.out.1.row 2 (by omega)) _) HL3.out rfl (by exact uI (by simp)) (by omega) (by have:=HST3.out.1.lo.2;simp at this |-;omega) ?_;intro gg4 cap4 w4 ho4 hg4 hat4;obtain⟨m0,m1,m2,mf⟩:=HST3.out.1.after (by exact lC rfl rfl rfl rfl) 2 (by omega) hg4;have HST4:=hW_ (HST3.out.1.step2 (by exact lC rfl rfl rfl rfl) ho4 hg4 hat4 (rtR_take hlt));clear ho4 hg4 hat4))
   go_roundw
   case rel=>exact⟨k+1,_,_,_,by omega,by go_num,hW_ HST4.out.1,hW_ ((HBW2.out.trans HST3.out.2).trans HST4.out.2)⟩
   case measure=>simp[intOf];omega
  ·obtain rfl:k=n:=by omega
   have hRl:(cB V B).length=k:=by rw[wE];exact HBN.out
   have hbl:=HB.out;rw[List.take_of_length_le (Nat.le_of_eq hRl),List.take_of_length_le (Nat.le_of_eq (mQ k)),List.take_of_length_le (Nat.le_of_eq (gN k))]at hbl;obtain⟨rb,lb,tb,rc,lc,tc,rfl,hch⟩:=hbl.chain hn0 hRl (mQ k) (gN k);obtain⟨m,hm⟩:∃m,k=m+1:=⟨k-1,by omega⟩;have qm:(k:Int)-1=(m:Int):=by omega
   have qw:IntKind.i64.wrap ((k:Int)-1)=(m:Int):=by rw[IntKind.wrap_i64];omega
   have gm:(m:Int)<(k:Int):=by omega
   have gm0:(0:Int)<=(m:Int):=by omega
   obtain⟨b0,b1,b2,b3,b4⟩:=hch.cells;obtain⟨y0,hy0⟩:∃y0,(rtR k)[m]?=some y0:=⟨_,List.getElem?_eq_getElem (by rw[gN];omega)⟩
   have t0:=hch.right.cell hy0;have tf:=hch.right.frozen;simp only at b0 b1 b2 b3 b4 t0 tf;have HCH:=hW_ hch;have HRL:=hW_ hRl;have HMM:=hW_ hm;clear hbl hch hy0 hRl HBL HB hm;go_wp2_with (fail);obtain⟨W5,hW5⟩:∃W5,wr.setCell ⟨tb,m,none⟩ (.int .i64 (-1))=W5:=⟨_,rfl⟩;have HC5:Hid (ChV W5 ⟨w.heap.size,k,kb,g,mb,rb,lb,tb,rc,lc,tc,pg⟩ (.slice none 0 0) (cB V B) (lfR k) ((rtR k).set m (-1)) []):=hW_ (hW5▸HCH.out.setRight m (-1));have HB5:Hid (Below w.heap.size w W5):=hW_ (hW5▸Below.setCell HBW.out (by show w.heap.size<=tb;exact HCH.out.right.lt.1) _);have HLK:Hid (Lnk k (I9 (cB V B)) (cB V B) (lfR k) ((rtR k).set m (-1))):=hW_ (by
    have:=aCA (R:=cB V B) (by rw[HRL.out];exact hn0) (lfR k) ((rtR k).set m (-1)) (by rw[HRL.out];rfl) (by rw[HRL.out,show k-1=m by have:=HMM.out;omega];rfl);rw[HRL.out]at this;exact this)
   have HWF:Hid (WfR (cB V B)):=hW_ (fun y hy=>by
    obtain⟨z,_,rfl⟩:=List.mem_map.1 hy;exact ofT_wf HM.out.1.1 _)
   have HTB:Hid (Tb w ⟨w.heap.size,k,kb,g,mb,rb,lb,tb,rc,lc,tc,pg⟩ V.merges):=hW_ ⟨⟨eb,HPT.out⟩,HM.out.2.1.2.2.imp (fun h=>h.2),HM.out.2.1.1,rfl⟩;rw[hW5];clear hW5 b0 b1 b2 b3 b4 t0 tf;go_wp2_with (fail);go_loopw [83] (fun i wr=>∃(j:Nat) (va:Value) (L:List Ent),j<=k/\i= .int .i64 j/\Hid (ChV wr ⟨w.heap.size,k,kb,g,mb,rb,lb,tb,rc,lc,tc,pg⟩ va (cB V B) (lfR k) ((rtR k).set m (-1)) L)/\Hid (∀x,agL L x=agK V.merges (I9 (cB V B)) j x)/\Hid (L.length<=j)/\Hid (Below w.heap.size w wr)) (fun i _=>k-(intOf i).toNat)
   case atStart=>exact⟨0,_,[],Nat.zero_le _,rfl,HC5,hW_ (fun x=>(agK_zero _ _ x).symm),hW_ (Nat.le_refl _),HB5⟩
   case round=>
    obtain⟨j,va,L,hj,rfl,HC,HA,HLL,HBJ⟩:=hrel
    by_cases hjk:j<k
    ·have hat:(I9 (cB V B))[j]?=some (j,(cB V B)[j]'(by rw[HRL.out];exact hjk)):=cO (List.getElem?_eq_getElem _)
     have HLO:=hW_ (iH (c:=⟨w.heap.size,k,kb,g,mb,rb,lb,tb,rc,lc,tc,pg⟩) (C:=I9 (cB V B)) j j _ wr HTB.out HBJ.out HC.out (by simp only;omega) (by have:=HLL.out;omega) HLK.out HWF.out hat);clear hat;go_wp2_with (fail);go_at_call 122;refine HLO.out.mono ?_
     rintro e w7 ⟨rfl,v7,L7,hC7,hg7,hl7,hT7⟩;have HC7:=hW_ hC7;have HA7:Hid (∀x,agL L7 x=agK V.merges (I9 (cB V B)) (j+1) x):=hW_ (fun x=>by rw[hg7,agK_succ,HA.out]);have HL7:Hid (L7.length<=j+1):=hW_ (by have:=HLL.out;omega);have HB7:Hid (Below w.heap.size w w7):=hW_ (HBJ.out.trans (xQ HC.out.ag hT7 HC.out.base));clear hC7 hg7 hl7 hT7 HLO;go_wp2_with (fail);go_roundw
     case rel=>exact⟨j+1,v7,L7,by omega,by go_num,HC7,HA7,HL7,HB7⟩
     case measure=>simp[intOf];omega
    ·obtain rfl:j=k:=by omega
     have HA5:Hid (∀x,agL L x=agI V.merges (I9 (cB V B)) x):=hW_ (fun x=>by rw[HA.out,agK_all HLK.out.lt]);obtain⟨b0,b1,b2,b3,b4⟩:=HC.out.cells;simp only at b0 b1 b2 b3 b4;clear HA HC5 HB5 HBW HCH;go_wp2_with (fail);go_at_call 123;refine(oU wr HC.out.ag).mono ?_
     rintro e w8 ⟨x,ok,v8,L8,rfl,hA8,hT8,hy8,hn8⟩;have HA8:=hW_ hA8;have HT8:=hW_ hT8;have HY8:=hW_ hy8;have HN8:=hW_ hn8;clear hA8 hT8 hy8 hn8 b0 b1 b2 b3 b4;go_wp2_with (fail);have HLP:Hid (Lp w (w8.alloc (.cells #[.int .i64 x.place, .int .i64 x.order, .int .i64 x.out] 186)) ⟨w.heap.size,j,kb,g,mb,rb,lb,tb,rc,lc,tc,pg⟩ V.merges (cB V B) w8.heap.size x ok v8 (cB V B) (lfR j) ((rtR j).set m (-1)) L8 (I9 (cB V B))):=hW_ (Lp.new HC.out HLK.out HWF.out (Way.start V.merges (by rw[HRL.out];exact hn0)) HBJ.out HA5.out (by rw[kK,HRL.out];have:=HLL.out;simp only;omega) HA8.out HT8.out HY8.out HN8.out);have HCL:Hid ((I9 (cB V B)).length=j):=hW_ (by rw[kK,HRL.out]);obtain⟨W9,hW9⟩:∃W9,w8.alloc (.cells #[.int .i64 x.place, .int .i64 x.order, .int .i64 x.out] 186)=W9:=⟨_,rfl⟩;obtain⟨e9,he9⟩:∃e9,w8.heap.size=e9:=⟨_,rfl⟩;rw[hW9,he9]at HLP;rw[hW9,he9];clear hW9 he9 HC HLK HWF HBJ HA5 HLL HA8 HT8 HY8 HN8
     go_loopg [9,10] j (fun(q:Nat) p b wr=>∃(eb':Nat) (x:Ent) (ok:Bool) (va:Value) (Rw Lf Rt:List Int) (L:List Ent) (C:Ch),q=C.length/\p= .pointer (some ⟨eb',0,none⟩)/\b= .bool ok/\Hid (Lp w wr ⟨w.heap.size,j,kb,g,mb,rb,lb,tb,rc,lc,tc,pg⟩ V.merges (cB V B) eb' x ok va Rw Lf Rt L C))
     case atStart=>exact⟨e9,x,ok,v8,_,_,_,L8,_,HCL.out.symm,rfl,rfl,HLP⟩
     case round=>
      obtain⟨eb',x,ok,va,Rw,Lf,Rt,L,C,rfl,rfl,rfl,HL⟩:=hrel
      cases ok with
      | true=>
       obtain⟨hy1,hy2,hy3⟩:=HL.out.yes rfl;obtain⟨pl,od,d⟩:=x;simp only at hy1 hy2 hy3;obtain⟨pre,post,pn,q,a,b,rfl,rfl,hway⟩:=aDc HL.out.way HL.out.ln.ok hy1 hy2;have HD:=hW_ (agI_wf HM.out.2.1 HM.out.1.1 hy1);have HY3:=hW_ hy3;have HWY:=hW_ hway;obtain⟨x0,x1,x2⟩:=lE HL.out.box;simp only at x0 x1 x2;have hcnt:=HL.out.cnt;simp only[if_true]at hcnt;have HCT:=hW_ hcnt;clear hy1 hy2 hy3 hway hcnt;go_wp2_with (fail);go_at_call 124;refine(X2 (c:=⟨w.heap.size,j,kb,g,mb,rb,lb,tb,rc,lc,tc,pg⟩) pn q a b od d wr HTB.out HL.out.bel HL.out.ch (by simp only;omega) (by have:=HCT.out;omega) HL.out.ln HL.out.wf HD.out HY3.out).mono ?_
       rintro e w5 ⟨rfl,v5,Rw5,Lf5,Rt5,L5,hC5,hK5,hW5,hA5,hl5,hF5⟩;have hne:=HL.out.ne;have hlt5:=(Array.getElem?_eq_some_iff.1 HL.out.box).1;have hx5:w5.heap[eb']?=some (.cells #[.int .i64 pn, .int .i64 od, .int .i64 d] 186):=(hF5.block eb' hlt5 hne.2.1 hne.2.2.1 hne.2.2.2.1 hne.2.2.2.2.1 hne.2.2.2.2.2.1 (fun e=>hne.2.2.2.2.2.2.1 e)).trans HL.out.box
       have HC5:=hW_ hC5;have HK5:=hW_ hK5;have HW5:=hW_ hW5;have HA5:=hW_ hA5;have HL5:=hW_ hl5;have HB5:Hid (Below w.heap.size w w5):=hW_ (HL.out.bel.trans (hF5.base HL.out.ch));clear hC5 hK5 hW5 hA5 hl5 hF5 hne hlt5 x0 x1 x2;obtain⟨x0,x1,x2⟩:=lE hx5;have hb6:=aA w5 (.cells #[.int .i64 pn, .int .i64 od, .int .i64 d] 186);have hC6:=HC5.out.below hb6;obtain⟨b0,b1,b2,b3,b4⟩:=hC6.cells;simp only at b0 b1 b2 b3 b4;have HTK:=hW_ (oU _ hC6.ag);have HC6:=hW_ hC6;have hbx:=heap_alloc_new w5 (.cells #[.int .i64 pn, .int .i64 od, .int .i64 d] 186);obtain⟨W6,hW6⟩:∃W6,w5.alloc (.cells #[.int .i64 pn, .int .i64 od, .int .i64 d] 186)=W6:=⟨_,rfl⟩;rw[hW6]at HTK HC6 hbx;have HB6:Hid (Below w.heap.size w W6):=hW_ (hW6▸HB5.out.trans (hb6.mono HB5.out.size));have HS6:Hid (W6.heap.size=w5.heap.size+1):=hW_ (by rw[<-hW6];simp);have HBX:=hW_ hbx;have HW6:=hW_ hW6;clear hx5 hb6 hC6 hW6 hbx;go_wp2_with (fail);rw[HW6.out];go_at_call 123;refine HTK.out.mono ?_
       rintro e w7 ⟨x7,ok7,v7,L7,rfl,hA7,hT7,hy7,hn7⟩;have k1:=(Array.getElem?_eq_some_iff.1 HC5.out.box).1;have k2:=(Array.getElem?_eq_some_iff.1 HC5.out.ag.pile.box).1;have k3:=HC5.out.ag.pile.at_.lt;have k4:=HC5.out.row.lt.2;have k5:=HC5.out.left.lt.2;have k6:=HC5.out.right.lt.2;simp only at k1 k2 k3 k4 k5 k6;have hv5:v5.ownBlock≠some w5.heap.size:=fun e=>by have:=(World.ownsRow.lt HC5.out.ag.pile.row _ e).2;omega
       have hb5:w.heap.size<=w5.heap.size:=HB5.out.size;have hs6:w5.heap.size<W6.heap.size:=by have:=HS6.out;omega
       have hx7:w7.heap[w5.heap.size]?=some (.cells #[.int .i64 pn, .int .i64 od, .int .i64 d] 186):=(hT7.block w5.heap.size hs6 (by omega) (by omega) hv5).trans HBX.out
       have HNE:Hid (w5.heap.size≠kb/\w5.heap.size≠g/\w5.heap.size≠mb/\w5.heap.size≠rb/\w5.heap.size≠lb/\w5.heap.size≠tb/\v5.ownBlock≠some w5.heap.size/\w.heap.size<=w5.heap.size):=hW_ ⟨by omega,by omega,by omega,by omega,by omega,by omega,hv5,hb5⟩;have HA7:=hW_ hA7;have HT7:=hW_ hT7;have HY7:=hW_ hy7;have HN7:=hW_ hn7;have HX7:=hW_ hx7;have yf:∀o,w7.frozen? ⟨w5.heap.size,o,none⟩=false:=fun o=>by simp[World.frozen?,hx7]
       have HS6b:=hW_ hs6;clear hA7 hT7 hy7 hn7 k1 k2 k3 k4 k5 k6 hv5 hb5 hs6 b0 b1 b2 b3 b4 x0 x1 x2;obtain⟨x0,x1,x2⟩:=lE hx7;clear hx7;have HLP:Hid (Lp w (((w7.setCell ⟨w5.heap.size,0,none⟩ (.int .i64 x7.place)).setCell ⟨w5.heap.size,1,none⟩ (.int .i64 x7.order)).setCell ⟨w5.heap.size,2,none⟩ (.int .i64 x7.out)) ⟨w.heap.size,j,kb,g,mb,rb,lb,tb,rc,lc,tc,pg⟩ V.merges (cB V B) w5.heap.size x7 ok7 v7 Rw5 Lf5 Rt5 L7 (pre++(pn,d)::post)):=hW_ (Lp.stored HC6.out HK5.out HW5.out HWY.out HB6.out HA5.out (by have h1:=HL5.out;have h2:=HCT.out;simp at h2 |-;omega) HA7.out HT7.out HY7.out HN7.out HX7.out HS6b.out HNE.out);go_wp2_with (fail)
       go_roundg (pre++(pn,d)::post).length
       case measure=>simp
       case rel=>exact⟨w5.heap.size,x7,ok7,v7,Rw5,Lf5,Rt5,L7,pre++(pn,d)::post,rfl,rfl,rfl,HLP⟩
      | false=>
       go_wp2_with (fail);have hno:=HL.out.no rfl;have HEND:Hid (C.map (·.2)=fG V B):=hW_ (by
        have h1:=HL.out.way.done (agI_none HL.out.ln.ok hno);rw[h1];unfold fG;rw[wE])
       have HP0:Hid (plC C 0=0):=hW_ (by obtain⟨a,ha⟩:=HL.out.way.zero;rw[plC_at ha];rfl);have HCN:Hid (C.length<=1048576):=hW_ (by have:=HL.out.cnt;simp at this;omega);clear hno;obtain⟨W4,hW4⟩:∃W4,W4=wr:=⟨_,rfl⟩;subst hW4;go_loopw [11,12] (fun o i wq=>∃(y:Nat),y<=C.length/\i= .int .i64 (plC C y)/\lenS o=y/\Hid (Own wq W4.heap.size o ((C.map (·.2)).take y))/\Hid (Below W4.heap.size W4 wq)) (fun o _ _=>C.length-lenS o)
       case atStart=>exact⟨0,Nat.zero_le _,by rw[HP0.out],rfl,hW_ (Own.nil _ _),hW_ (Below.refl _ _)⟩
       case round=>
        obtain⟨y,hy,rfl,hly,HO,HBQ⟩:=hrel
        by_cases hyc:y<C.length
        ·obtain⟨p,a,hat⟩:∃(p:Nat) (a:Int),C[y]?=some (p,a):=⟨_,_,List.getElem?_eq_getElem hyc⟩
         rw[plC_at hat];have hpn:=HL.out.ln.lt _ (List.mem_of_getElem? hat);have hC:=HL.out.ch.below HBQ.out;obtain⟨b0,b1,b2,b3,b4⟩:=hC.cells;have r0:=hC.row.cell (HL.out.ln.row _ _ _ hat);simp only at b0 b1 b2 b3 b4 r0 hpn;have gp:(p:Int)<(j:Int):=by omega
         have gp0:(0:Int)<=(p:Int):=by omega
         have gpn:¬(p:Int)= -1:=by omega
         have HTK:Hid ((C.map (·.2)).take y++ [a]=(C.map (·.2)).take (y+1)):=hW_ (by
          rw[<-sF (by rw[List.length_map];exact hyc)];congr 2;simp[ix,List.getD,hat])
         have HLN:Hid (((C.map (·.2)).take y).length=y):=hW_ (by rw[List.length_take,List.length_map];omega);have HAT:=hW_ hat;have HRT:=hW_ (HL.out.ln.right _ _ _ hat);clear hat hC hpn;go_wp2_with (at_builtin;refine B4 rfl _ _ rfl (base:=W4.heap.size) (k:=y) (y:=a) rfl (by exact World.ownsRow.alloc HO.out _) HLN.out rfl (by exact uI (by simp)) (by have:=HCN.out;omega) (by have:=HBQ.out.size;simp;omega) ?_;intro gg cap w2 ho2 hg2 hat2;have hb2:Below W4.heap.size W4 w2:=Below.grown (HBQ.out.trans (Below.mono (by exact lC rfl rfl rfl rfl) HBQ.out.size)) hg2 (by have:=HBQ.out.size;simp;omega) (fun q hq=>(World.ownsRow.lt HO.out q hq).1);obtain⟨d0,d1,d2,d3,d4⟩:=(HL.out.ch.below hb2).cells;have t0:=(HL.out.ch.below hb2).right.cell HRT.out;rw[nxt_pl]at t0;simp only at d0 d1 d2 d3 d4 t0;have HO2:=hW_ ho2;have HB2:=hW_ hb2;clear ho2 hg2 hat2 hb2);go_roundw
         case rel=>exact⟨y+1,by omega,rfl,rfl,hW_ (by rw[<-HTK.out];exact HO2.out),HB2⟩
         case measure=>rw[hly];show C.length-(y+1)<C.length-y;omega
        ·obtain rfl:y=C.length:=by omega
         have hpe:plC C C.length= -1:=plC_end (Nat.le_refl _);rw[hpe];clear hpe;go_wp2_with (fail);go_ret;refine⟨_,rfl,?_,HL.out.bel.trans (HBQ.out.mono HL.out.bel.size)⟩;have h1:=HO.out.mono HL.out.bel.size;rw[List.take_of_length_le (by simp),HEND.out]at h1;exact h1
open Go
def fY (p:Pt):Bool:=decide (p.cls=3) || decide (p.cls=4)
def A8 (L:List Pt) (i:Nat) (c:Int):Nat:=((L.drop i).takeWhile (fun p=>decide (p.cls=c))).length
def spN (L:List Pt) (i:Nat):Nat:=((L.drop i).takeWhile fY).length
def nsN (L:List Pt) (i:Nat):Nat:=((L.drop i).takeWhile (fun p=>!fY p)).length
def isC (L:List Pt) (i:Nat) (c:Int):Bool:=match L[i]? with | some p=>decide (p.cls=c) | none=>false
def spC (L:List Pt) (i:Nat):Bool:=match L[i]? with | some p=>fY p | none=>false
def uE (L:List Pt) (i:Nat):Bool:=match L[i]? with | some p=>p.sure | none=>false
def aAE (wide:Bool) (p:Pt):Int:=if wide=true/\65<=p.code/\p.code<=90 then p.code+32 else p.code
def cdC (L:List Pt) (wide:Bool) (i:Nat):Int:=match L[i]? with | some p=>aAE wide p | none=> -1
def ptC (L:List Pt) (i:Nat):Pt:=match L[i]? with | some p=>p | none=>⟨0,0,0,false⟩
def tC (L:List Pt):Nat->Nat
 | 0=>0
 | n+1=>if isC L n 4 then n+1 else tC L n
def I2 (c:Int):Prop:=c=115\/c=116\/c=109\/c=100
instance (c:Int):Decidable (I2 c):=by unfold I2;infer_instance
def N5 (c:Int):Prop:=c=114\/c=118\/c=108
instance (c:Int):Decidable (N5 c):=by unfold N5;infer_instance
def iL (c d:Int):Prop:=(c=114/\d=101)\/(c=118/\d=101)\/(c=108/\d=108)
instance (c d:Int):Decidable (iL c d):=by unfold iL;infer_instance
def C5 (L:List Pt) (wide:Bool):Nat:=if cdC L wide 0≠39 then 0 else if I2 (cdC L wide 1)then 2 else if iL (cdC L wide 1) (cdC L wide 2)then 3 else 0
def eB (L:List Pt) (c:Int):Nat:=if(ptC L 0).code=32/\isC L 1 c=true then 1+A8 L 1 c else A8 L 0 c
def rA (L:List Pt):Nat×Nat:=if spN L 0<L.length/\1<spN L 0 then(spN L 0-1,spN L 0+1)else(spN L 0,spN L 0+1)
def pE (L:List Pt):Nat×Nat:=
 if 0<C5 L false then(C5 L false,C5 L false)
 else if 0<eB L 1 then(eB L 1,eB L 1+1)
 else if 0<eB L 2 then(eB L 2,eB L 2+1)
 else if 0<eB L 0 then(eB L 0,eB L 0+1)
 else rA L
def jH (L:List Pt):Bool:=decide ((ptC L 0).cls=0) || decide ((ptC L 0).cls=3)
def bE (L:List Pt):Nat×Nat:=
 if 0<C5 L true then(C5 L true,C5 L true)
 else if 0<A8 L 0 1 then(A8 L 0 1,A8 L 0 1+1)
 else if jH L=true/\isC L 1 1=true then(1+A8 L 1 1,1+A8 L 1 1+1)
 else if 0<A8 L 0 2 then(min (A8 L 0 2) 3,min (min (A8 L 0 2) 3+1) 3)
 else if 0<eB L 0 then(eB L 0+A8 L (eB L 0) 4,eB L 0+A8 L (eB L 0) 4+1)
 else if 0<tC L (spN L 0)then(tC L (spN L 0),spN L 0+1)
 else rA L
def tE (L:List Pt):Nat×Nat:=(spN L 0+nsN L (spN L 0),spN L 0+nsN L (spN L 0)+1)
def lH (kind:Int) (L:List Pt):Nat×Nat:=if kind=1 then tE L else if kind=2 then pE L else bE L
def dE (L:List Pt) (wide:Bool):Prop:=cdC L wide 0=39/\zA L<3/\(zA L<2\/N5 (cdC L wide 1))
instance (L:List Pt) (wide:Bool):Decidable (dE L wide):=by unfold dE;infer_instance
def A6 (kind:Int) (t:List Rg) (b:List Int) (final:Bool):Int×Bool:=
 if kind=0 then((b.length:Int),final)
 else(bB (pts t b) (lH kind (pts t b)).1,final || (decide ((lH kind (pts t b)).2<=zA (pts t b)) && (decide (kind=1) || !decide (dE (pts t b) (decide (kind=3))))))
theorem bI {α:Type} (p:α->Bool) (L:List α) (i:Nat):i+((L.drop i).takeWhile p).length<=max i L.length:=by
 have h1:=List.takeWhile_prefix (l:=L.drop i) p;have:=h1.length_le;rw[List.length_drop]at this;omega
theorem B1 (L:List Pt) (i:Nat) (c:Int):i+A8 L i c<=max i L.length:=bI _ L i
theorem bG (L:List Pt) (i:Nat):i+spN L i<=max i L.length:=bI _ L i
theorem nsN_le (L:List Pt) (i:Nat):i+nsN L i<=max i L.length:=bI _ L i
theorem wK {α:Type} {p:α->Bool} {L:List α} {i:Nat} {x:α} (h:L[i]?=some x):((L.drop i).takeWhile p).length=if p x=true then((L.drop (i+1)).takeWhile p).length+1 else 0:=by
 have hi:=(List.getElem?_eq_some_iff.1 h).1;have e:L.drop i=x::L.drop (i+1):=by
  rw[List.drop_eq_getElem_cons hi];congr 1;have:=List.getElem?_eq_getElem hi;rw[h]at this;simpa using this.symm
 rw[e,List.takeWhile_cons];split
 ·simp
 ·simp
theorem U4 {α:Type} {p:α->Bool} {L:List α} {i:Nat} (h:L[i]?=none):((L.drop i).takeWhile p).length=0:=by
 rw[List.drop_eq_nil_of_le (by simpa using h)];rfl
theorem G9 {L:List Pt} {i:Nat} {c:Int} (h:isC L i c=true):A8 L i c=A8 L (i+1) c+1/\i<L.length:=by
 unfold isC at h
 cases hp:L[i]? with
 | none=>rw[hp]at h;simp at h
 | some p=>
  rw[hp]at h;unfold A8;rw[wK hp,if_pos (by simpa using h)];exact⟨rfl,(List.getElem?_eq_some_iff.1 hp).1⟩
theorem kQ {L:List Pt} {i:Nat} {c:Int} (h:isC L i c=false):A8 L i c=0:=by
 unfold isC at h;unfold A8
 cases hp:L[i]? with
 | none=>exact U4 hp
 | some p=>rw[hp]at h;rw[wK hp,if_neg (by simpa using h)]
theorem dN {L:List Pt} {i:Nat} (h:spC L i=true):spN L i=spN L (i+1)+1/\i<L.length:=by
 unfold spC at h
 cases hp:L[i]? with
 | none=>rw[hp]at h;simp at h
 | some p=>
  rw[hp]at h;unfold spN;rw[wK hp,if_pos (by simpa using h)];exact⟨rfl,(List.getElem?_eq_some_iff.1 hp).1⟩
theorem uZ {L:List Pt} {i:Nat} (h:spC L i=false):spN L i=0:=by
 unfold spC at h;unfold spN
 cases hp:L[i]? with
 | none=>exact U4 hp
 | some p=>rw[hp]at h;rw[wK hp,if_neg (by simpa using h)]
theorem pV {L:List Pt} {i:Nat} (hi:i<L.length) (h:spC L i=false):nsN L i=nsN L (i+1)+1:=by
 unfold spC at h;unfold nsN;rw[List.getElem?_eq_getElem hi]at h;rw[wK (List.getElem?_eq_getElem hi),if_pos (by simpa using h)]
theorem mR {L:List Pt} {i:Nat} (h:¬i<L.length\/spC L i=true):nsN L i=0:=by
 unfold nsN
 cases hp:L[i]? with
 | none=>exact U4 hp
 | some p=>
  have hi:=(List.getElem?_eq_some_iff.1 hp).1;have h2:spC L i=true:=h.resolve_left (fun g=>g hi);unfold spC at h2;rw[hp]at h2;rw[wK hp,if_neg (by simpa using h2)]
theorem J9 (L:List Pt):∀n,tC L n<=n
 | 0=>Nat.le_refl _
 | n+1=>by
  have:=J9 L n;simp only[tC];split<;>omega
theorem xN {L:List Pt} {i:Nat} {c:Int} (h:isC L i c=true):i<L.length:=(G9 h).2
theorem aBF {L:List Pt} {w:Bool} {i:Nat} (h:cdC L w i≠ -1):i<L.length:=by
 unfold cdC at h
 cases hp:L[i]? with
 | none=>rw[hp]at h;simp at h
 | some p=>exact(List.getElem?_eq_some_iff.1 hp).1
theorem K9 (L:List Pt) (w:Bool):C5 L w<=L.length:=by
 unfold C5;split
 ·omega
 ·split
  ·next h=>have:=aBF (L:=L) (w:=w) (i:=1) (by unfold I2 at h;omega);omega
  ·split
   ·next h=>have:=aBF (L:=L) (w:=w) (i:=2) (by unfold iL at h;omega);omega
   ·omega
theorem zC (L:List Pt) (c:Int):eB L c<=L.length:=by
 unfold eB;split
 ·next h=>have:=B1 L 1 c;have:=xN h.2;omega
 ·have:=B1 L 0 c;omega
theorem tZ (L:List Pt):(rA L).1<=L.length/\1<=(rA L).2:=by
 have:=bG L 0;unfold rA;split<;>simp<;>omega
theorem dP {L:List Pt} (h:0<spN L 0):1<=(rA L).1:=by
 unfold rA;split<;>simp<;>omega
theorem bL (kind:Int) (L:List Pt):(lH kind L).1<=L.length/\1<=(lH kind L).2:=by
 have hs:=tZ L;unfold lH;split
 ·unfold tE;have:=bG L 0;have:=nsN_le L (spN L 0);simp;omega
 ·split
  ·unfold pE;have:=K9 L false;have:=zC L 0;have:=zC L 1;have:=zC L 2
   repeat' split
   all_goals first
    | exact hs
    | (simp only;omega)
  ·unfold bE;have:=K9 L true;have:=B1 L 0 1;have:=B1 L 0 2;have:=zC L 0;have:=B1 L (eB L 0) 4;have:=J9 L (spN L 0);have:=bG L 0
   repeat' split
   all_goals first
    | exact hs
    | (simp only;omega)
    | (rename_i h _ _ _;have:=B1 L 1 1;have:=xN h.2;simp only;omega)
    | (rename_i h;have:=B1 L 1 1;have:=xN h.2;simp only;omega)
theorem Q7 {L:List Pt} {c:Int} (h:0<L.length) (hc:(ptC L 0).cls=c):0<A8 L 0 c:=by
 have:isC L 0 c=true:=by
  unfold isC ptC at *
  cases hp:L[0]? with
  | none=>have:=List.getElem?_eq_none_iff.1 hp;omega
  | some p=>rw[hp]at hc;simpa using hc
 have:=(G9 this).1;omega
theorem aAY {L:List Pt} (h:0<L.length) (hc:(ptC L 0).cls=3\/(ptC L 0).cls=4):0<spN L 0:=by
 have:spC L 0=true:=by
  unfold spC ptC at *
  cases hp:L[0]? with
  | none=>have:=List.getElem?_eq_none_iff.1 hp;omega
  | some p=>rw[hp]at hc;simpa[fY]using hc
 have:=(dN this).1;omega
theorem nsN_pos {L:List Pt} (h:0<L.length) (hc:spC L 0=false):0<nsN L 0:=by
 have:=pV h hc;omega
theorem wN {L:List Pt} {c:Int} (h:0<L.length) (hc:(ptC L 0).cls=c):0<eB L c:=by
 unfold eB;split
 ·omega
 ·exact Q7 h hc
theorem cutF_pos {kind:Int} {L:List Pt} (h:0<L.length) (hg:∀p∈L,bP p):1<=(lH kind L).1:=by
 have h0:bP (ptC L 0):=by
  unfold ptC;rw[List.getElem?_eq_getElem h];exact hg _ (List.getElem_mem h)
 obtain⟨_,_,g1,g2⟩:=h0;unfold lH;split
 ·unfold tE
  cases hs:spC L 0 with
  | true=>have:=(dN hs).1;simp only;omega
  | false=>
   have e:=uZ hs;rw[e];have:=nsN_pos h hs;simp only;omega
 ·split
  ·unfold pE
   repeat' split
   all_goals first
    | (simp only;omega)
    | skip
   next h1 h2 h3 h4=>
    refine dP (aAY h ?_);have a1:(ptC L 0).cls≠1:=fun e=>h2 (wN h e)
    have a2:(ptC L 0).cls≠2:=fun e=>h3 (wN h e)
    have a0:(ptC L 0).cls≠0:=fun e=>h4 (wN h e)
    omega
  ·unfold bE
   repeat' split
   all_goals first
    | (simp only;omega)
    | skip
   next h1 h2 h3 h4 h5 h6=>
    refine dP (aAY h ?_);have a1:(ptC L 0).cls≠1:=fun e=>h2 (Q7 h e)
    have a2:(ptC L 0).cls≠2:=fun e=>h4 (Q7 h e)
    have a0:(ptC L 0).cls≠0:=fun e=>h5 (wN h e)
    omega
theorem eH {kind:Int} {t:List Rg} (ht:kA t) {b:List Int} (hb:∀x∈b,0<=x/\x<256) (h0:b≠[]) (final:Bool):1<=(A6 kind t b final).1/\(A6 kind t b final).1<=b.length:=by
 have hl:=List.length_pos_iff.2 h0;unfold A6;split
 ·simp only;omega
 ·have hp:=aBd (t:=t) h0;have h1:=cutF_pos (kind:=kind) hp (oX ht hb);have h2:=bL kind (pts t b);have h3:=D0 (t:=t) b (lH kind (pts t b)).1;simp only;omega
theorem qP (kind:Int) (t:List Rg) (b:List Int):(A6 kind t b true).2=true:=by
 unfold A6;split<;>simp
def isB (x:Int):Bool:=decide (0<=x) && decide (x<256)
theorem C0 {x:Int}:isB x=true↔0<=x/\x<256:=by simp[isB]
def A5 (text:List Int):List Int:=text.takeWhile isB
theorem fN {text:List Int}:∀x∈A5 text,0<=x/\x<256:=by
 induction text with
 | nil=>intro x hx;simp[A5]at hx
 | cons c l ih=>
  intro x hx;unfold A5 at hx ih;rw[List.takeWhile_cons]at hx;split at hx
  ·next hc=>
   rcases List.mem_cons.1 hx with rfl | h
   ·exact C0.1 hc
   ·exact ih x h
  ·simp at hx
theorem Q5 (text:List Int):(A5 text).length<=text.length:=(List.takeWhile_prefix isB).length_le
def vB (kind:Int) (t:List Rg) (final:Bool):Nat->List Int->Bool->List (Int×Bool)
 | 0,_,_=>[]
 | k+1,text,op=>if text= []then []
  else if A5 text= []then(1,true)::vB kind t final k (text.drop 1) op
  else((A6 kind t (A5 text) (final || decide ((A5 text).length<text.length))).1,!(op || !(A6 kind t (A5 text) (final || decide ((A5 text).length<text.length))).2)) ::
   vB kind t final k (text.drop (A6 kind t (A5 text) (final || decide ((A5 text).length<text.length))).1.toNat) (op || !(A6 kind t (A5 text) (final || decide ((A5 text).length<text.length))).2)
def B6 (kind:Int) (t:List Rg) (text:List Int) (final:Bool):List (Int×Bool):=vB kind t final text.length text false
section
variable {kind:Int} {t:List Rg} {final:Bool}
theorem vE (k:Nat) (op:Bool):vB kind t final k [] op= []:=by cases k<;>simp[vB]
theorem E8 (ht:kA t):∀{k j:Nat} {text:List Int} {op:Bool},text.length<=k->text.length<=j->vB kind t final k text op=vB kind t final j text op
 | 0,j,text,op,h,_=>by
  have:text= []:=List.eq_nil_of_length_eq_zero (by omega);subst this;rw[vE,vE]
 | k+1,0,text,op,_,h=>by
  have:text= []:=List.eq_nil_of_length_eq_zero (by omega);subst this;rw[vE,vE]
 | k+1,j+1,text,op,h1,h2=>by
  simp only[vB]
  by_cases h0:text= []
  ·rw[if_pos h0,if_pos h0]
  ·have hl:=List.length_pos_iff.2 h0;rw[if_neg h0,if_neg h0]
   by_cases hr:A5 text= []
   ·rw[if_pos hr,if_pos hr,E8 ht (k:=k) (j:=j) (text:=text.drop 1) (by simp only[List.length_drop];omega) (by simp only[List.length_drop];omega)]
   ·rw[if_neg hr,if_neg hr];have hn:=eH (kind:=kind) ht fN hr (final || decide ((A5 text).length<text.length));rw[E8 ht (k:=k) (j:=j) (text:=text.drop _) (by simp only[List.length_drop];omega) (by simp only[List.length_drop];omega)]
theorem pG {k:Nat} {m:Int} {l:List Int} {op:Bool} (hm:isB m=false):vB kind t final (k+1) (m::l) op=(1,true)::vB kind t final k l op:=by
 simp only[vB];rw[if_neg (by simp),if_pos (by simp[A5,hm])];rfl
theorem tH {k:Nat} {text:List Int} {op:Bool} (hr:A5 text≠[]) {n:Int} {d:Bool} (hn:A6 kind t (A5 text) (final || decide ((A5 text).length<text.length))=(n,d)):
  vB kind t final (k+1) text op=(n,!(op || !d))::vB kind t final k (text.drop n.toNat) (op || !d):=by
 have h0:text≠[]:=fun e=>hr (by rw[e];rfl)
 simp only[vB];rw[if_neg h0,if_neg hr,hn]
def C1 (run:List Int):List Int->List (List Int×Bool)
 | []=>[(run,false)]
 | s::l=>if isB s then C1 (run++ [s]) l else(run,true)::C1 [] l
def pA (kind:Int) (t:List Rg) (final:Bool):Nat->List Int->Bool->List (Int×Bool)×Bool
 | 0,_,sure=>([],sure)
 | k+1,run,sure=>if run= []then([],sure)else
  (((A6 kind t run final).1,sure && (A6 kind t run final).2)::(pA kind t final k (run.drop (A6 kind t run final).1.toNat) (sure && (A6 kind t run final).2)).1,
   (pA kind t final k (run.drop (A6 kind t run final).1.toNat) (sure && (A6 kind t run final).2)).2)
def mE (kind:Int) (t:List Rg) (final:Bool) (st:List (Int×Bool)×Bool) (r:List Int×Bool):List (Int×Bool)×Bool:=
 (st.1++(pA kind t (r.2 || final) r.1.length r.1 st.2).1++(if r.2=true then [(1,(pA kind t (r.2 || final) r.1.length r.1 st.2).2)]else []),(pA kind t (r.2 || final) r.1.length r.1 st.2).2)
theorem cX {run:List Int} (h:∀x∈run,0<=x/\x<256):A5 run=run:=by
 have:=List.takeWhile_append_of_pos (p:=isB) (l₁:=run) (l₂:=[]) (fun x hx=>C0.2 (h x hx));simpa[A5]using this
theorem Z4 {run l:List Int} {m:Int} (h:∀x∈run,0<=x/\x<256) (hm:isB m=false):A5 (run++m::l)=run:=by
 unfold A5;rw[List.takeWhile_append_of_pos (fun x hx=>C0.2 (h x hx))];simp[hm]
theorem Q3 (ht:kA t):∀{k:Nat} {run:List Int} {op:Bool},run.length<=k->(∀x∈run,0<=x/\x<256)->vB kind t final k run op=(pA kind t final k run (!op)).1
 | 0,run,op,h,_=>by simp[vB,pA]
 | k+1,run,op,h,hb=>by
  by_cases h0:run= []
  ·subst h0;simp[vB,pA]
  ·have hr:=cX hb;have hn:=eH (kind:=kind) ht hb h0 final;rw[tH (n:=(A6 kind t run final).1) (d:=(A6 kind t run final).2) (by rw[hr];exact h0) (by rw[hr];simp)];simp only[pA];rw[if_neg h0];have ih:=Q3 ht (k:=k) (run:=run.drop (A6 kind t run final).1.toNat) (op:=op || !(A6 kind t run final).2) (by simp only[List.length_drop];omega) (fun x hx=>hb x (List.mem_of_mem_drop hx));rw[ih];have e:(!(op || !(A6 kind t run final).2))=(!op && (A6 kind t run final).2):=by cases op<;>cases (A6 kind t run final).2<;>rfl
   rw[e]
theorem mN:∀{k:Nat} {run:List Int},(pA kind t true k run true).2=true
 | 0,run=>rfl
 | k+1,run=>by
  simp only[pA];split
  ·rfl
  ·rw[qP];exact mN
theorem rT (ht:kA t) {m:Int} (hm:isB m=false) (l:List Int):∀{k:Nat} {run:List Int},run.length<=k->(∀x∈run,0<=x/\x<256)->
  vB kind t final (k+1+l.length) (run++m::l) false=(pA kind t true k run true).1++(1,true)::vB kind t final l.length l false
 | 0,run,h,_=>by
  have:run= []:=List.eq_nil_of_length_eq_zero (by omega);subst this;rw[show 0+1+l.length=l.length+1 by omega];simp only[List.nil_append,pA];exact pG hm
 | k+1,run,h,hb=>by
  by_cases h0:run= []
  ·subst h0;simp only[List.nil_append,pA,if_true];rw[show k+1+1+l.length=(k+1+l.length)+1 by omega,pG hm,E8 ht (k:=k+1+l.length) (j:=l.length) (by omega) (Nat.le_refl _)]
  ·have hr:=Z4 (l:=l) hb hm;have hn:=eH (kind:=kind) ht hb h0 true;have hf:=qP kind t run;have hlt:(decide (run.length<(run++m::l).length))=true:=by simp
   rw[show k+1+1+l.length=(k+1+l.length)+1 by omega];rw[tH (n:=(A6 kind t run true).1) (d:=true) (by rw[hr];exact h0) (by rw[hr,hlt,Bool.or_true];exact Prod.ext rfl hf)];simp only[pA];rw[if_neg h0,hf];have e:(run++m::l).drop (A6 kind t run true).1.toNat=run.drop (A6 kind t run true).1.toNat++m::l:=List.drop_append_of_le_length (by omega);have ih:=rT ht hm l (k:=k) (run:=run.drop (A6 kind t run true).1.toNat) (by simp only[List.length_drop];omega) (fun x hx=>hb x (List.mem_of_mem_drop hx));simp only[Bool.or_false,Bool.not_true,Bool.not_false,Bool.and_true,List.cons_append];rw[e,ih]
theorem mP (ht:kA t):∀{k j:Nat} {run:List Int} {sure:Bool},run.length<=k->run.length<=j->(∀x∈run,0<=x/\x<256)->pA kind t final k run sure=pA kind t final j run sure
 | 0,0,run,sure,_,_,_=>rfl
 | 0,j+1,run,sure,h,_,_=>by
  have:run= []:=List.eq_nil_of_length_eq_zero (by omega);subst this;simp[pA]
 | k+1,0,run,sure,_,h,_=>by
  have:run= []:=List.eq_nil_of_length_eq_zero (by omega);subst this;simp[pA]
 | k+1,j+1,run,sure,h1,h2,hb=>by
  simp only[pA]
  by_cases h0:run= []
  ·rw[if_pos h0,if_pos h0]
  ·rw[if_neg h0,if_neg h0];have hn:=eH (kind:=kind) ht hb h0 final;rw[mP ht (k:=k) (j:=j) (run:=run.drop (A6 kind t run final).1.toNat) (by simp only[List.length_drop];omega) (by simp only[List.length_drop];omega) (fun x hx=>hb x (List.mem_of_mem_drop hx))]
theorem kM (ht:kA t):∀{text run:List Int} {acc:List (Int×Bool)},(∀x∈run,0<=x/\x<256)->
  ((C1 run text).foldl (mE kind t final) (acc,true)).1=acc++B6 kind t (run++text) final
 | [],run,acc,hb=>by
  simp only[C1,List.foldl_cons,List.foldl_nil,mE,Bool.false_or,Bool.false_eq_true,if_false,List.append_nil,B6];rw[Q3 ht (Nat.le_refl _) hb];simp
 | s::l,run,acc,hb=>by
  simp only[C1]
  cases hs:isB s with
  | true=>
   simp only[if_true];rw[kM ht (text:=l) (run:=run++ [s]) (fun x hx=>by
    rcases List.mem_append.1 hx with h | h
    ·exact hb x h
    ·simp at h;subst h;exact C0.1 hs)]
   simp
  | false=>
   simp only[Bool.false_eq_true,if_false,List.foldl_cons];have hp:=mN (kind:=kind) (t:=t) (k:=run.length) (run:=run);have e:mE kind t final (acc,true) (run,true)=(acc++(pA kind t true run.length run true).1++ [(1,true)],true):=by
    simp only[mE,Bool.true_or,if_true,hp]
   rw[e,kM ht (text:=l) (run:=[]) (by simp)];have h2:=rT (kind:=kind) (t:=t) (final:=final) ht hs l (k:=run.length) (run:=run) (Nat.le_refl _) hb;unfold B6;rw[show(run++s::l).length=run.length+1+l.length by simp;omega,h2];simp
end
def C9 (V:Vc) (N:List ByteArray) (s:Int):Int:=ix (iC V.specials N) (s-256).toNat
def A4 (V:Vc) (N:List ByteArray) (s:Int):Int:=if s<0\/256+(N.length:Int)<=s then 1 else if 256<=s/\C9 V N s<0 then 4 else 0
def lA (V:Vc) (N:List ByteArray):List Int->Int
 | []=>0
 | s::l=>if A4 V N s=0 then lA V N l else A4 V N s
theorem wP {V:Vc} {N:List ByteArray} {A:List Int} {k:Nat} (hk:k<A.length):lA V N (A.drop k)=if A4 V N (ix A k)=0 then lA V N (A.drop (k+1))else A4 V N (ix A k):=by
 rw[List.drop_eq_getElem_cons hk];have:A[k]=ix A k:=by simp[ix,List.getD,hk]
 rw[this];rfl
theorem uB {V:Vc} {N:List ByteArray}:∀{A:List Int},lA V N A=0↔∀s∈A,A4 V N s=0
 | []=>by simp[lA]
 | s::l=>by
  unfold lA
  by_cases h:A4 V N s=0
  ·rw[if_pos h,uB];simp[h]
  ·rw[if_neg h];simp[h]
noncomputable def tB (V:Vc) (N:List ByteArray) (A:List Int):List Int:=
 if lA V N A≠0\/A= []then []else if A.length=1/\256<=ix A 0 then [C9 V N (ix A 0)]else if A.all isB=true then fG V A else []
noncomputable def qB (V:Vc) (N:List ByteArray):List (Int×Bool)->List Int->List Int
 | [],_=>[]
 | p::ps,A=>tB V N (A.take p.1.toNat)++qB V N ps (A.drop p.1.toNat)
noncomputable def qL (V:Vc) (N:List ByteArray) (kind:Int) (T:List Rg) (A:List Int):List Int:=qB V N (B6 kind T A true) A
theorem nN {V:Vc} {N:List ByteArray}:∀{ps:List (Int×Bool)} {p:Int×Bool} {A:List Int},qB V N (ps++ [p]) A=qB V N ps A++tB V N ((A.drop (ps.map (fun x=>x.1.toNat)).sum).take p.1.toNat)
 | [],p,A=>by simp[qB]
 | x::ps,p,A=>by
  simp only[List.cons_append,qB,List.map_cons,List.sum_cons];rw[nN,List.append_assoc,List.drop_drop]
open Go.ChangeShapes Go.WideShapes Go.ChangeAt Go.RowKit Go.Joins Go.Deep
theorem kX:∃f0 f1 f2:Field,Tryz.prog.underlying 93=some (.struct #[f0,f1,f2])/\f0.type=3/\f1.type=3/\f2.type=3/\oneCellFields Tryz.prog #[f0,f1,f2]=true:=
 ⟨_,_,_,Tryz.underlying93,rfl,rfl,rfl,by kernel_rfl⟩
theorem aBE:Tryz.prog.cellsOf 93=3:=by kernel_rfl
theorem aBR:∃f0 f1 f2:Field,Tryz.prog.underlying 26=some (.struct #[f0,f1,f2])/\(f0.type=22/\f0.offset=0)/\(f1.type=23/\f1.offset=1)/\(f2.type=24/\f2.offset=2):=
 ⟨_,_,_,Tryz.underlying26,⟨rfl,rfl⟩,⟨rfl,rfl⟩,⟨rfl,rfl⟩⟩
theorem aCB:∃f0 f1 f2 f3 f4:Field,Tryz.prog.underlying 29=some (.struct #[f0,f1,f2,f3,f4])/\(f0.type=26/\f0.offset=0)/\(f1.type=22/\f1.offset=3)/\(f2.type=3/\f2.offset=4)/\(f3.type=27/\f3.offset=5)/\(f4.type=3/\f4.offset=6):=
 ⟨_,_,_,_,_,Tryz.underlying29,⟨rfl,rfl⟩,⟨rfl,rfl⟩,⟨rfl,rfl⟩,⟨rfl,rfl⟩,⟨rfl,rfl⟩⟩
theorem cellsKit:Tryz.prog.cellsOf 29=7:=by kernel_rfl
theorem Y5:Tryz.prog.cellsOf 22=1:=by kernel_rfl
theorem cellsSlM:Tryz.prog.cellsOf 23=1:=by kernel_rfl
theorem cellsSlP:Tryz.prog.cellsOf 24=1:=by kernel_rfl
theorem cellsSlR:Tryz.prog.cellsOf 27=1:=by kernel_rfl
theorem cellsI:Tryz.prog.cellsOf 3=1:=by kernel_rfl
section
variable {H:Type} {enc:TypeId×Value->H} {W:World} {held:Bool}
theorem jX {fuel:Nat} {v:Value} {y:DataW H×List MemPlace} (h:DataW.trod enc Tryz.prog W 0 (fun _=>true) held fuel 27 [v]=some y):
  ∃ao n c T,v= .slice ao n c/\SlF 3 W ao n c (flat Rg.enc T):=by
 obtain⟨f0,f1,f2,hu,e0,e1,e2,hone⟩:=kX;rcases bF Tryz.underlying27 hu hone (by rw[aBE];rfl) h with⟨hcs,_⟩ | ⟨a,len,cap,m,D,Pl,hcs,_,hl,hm,hmm,_,hrow⟩
 ·simp at hcs;subst hcs;exact⟨_,_,_,[],rfl,SlF.nothing _⟩
 ·simp at hcs;subst hcs;simp at hmm;subst hmm;obtain⟨M,hM,_⟩:=U8 (enc:=Rg.enc) (s:=3) (n:=len) (cap:=m) (w:=W) (a:=a) (R:=fun _=>True) Rg.enc_len (by omega) hl hm (by
   intro i hi;obtain⟨ys,n',_,_,_,hf⟩:=hrow i (by omega);obtain⟨u0,y0,c0,_,t0⟩:=hf 0 f0 rfl;obtain⟨u1,y1,c1,_,t1⟩:=hf 1 f1 rfl;obtain⟨u2,y2,c2,_,t2⟩:=hf 2 f2 rfl;rw[e0]at t0;rw[e1]at t1;rw[e2]at t2;obtain⟨z0,ez0,_,_⟩:=DataW.trod_int Tryz.underlying3 t0;obtain⟨z1,ez1,_,_⟩:=DataW.trod_int Tryz.underlying3 t1;obtain⟨z2,ez2,_,_⟩:=DataW.trod_int Tryz.underlying3 t2;simp at ez0 ez1 ez2;subst ez0 ez1 ez2;refine⟨⟨z0,z1,z2⟩,fun j u hu=> ?_,trivial⟩
   match j,hu with
   | 0,hu=>simp[Rg.enc]at hu;subst hu;exact c0
   | 1,hu=>simp[Rg.enc]at hu;subst hu;exact c1
   | 2,hu=>simp[Rg.enc]at hu;subst hu;exact c2
   | j+3,hu=>simp[Rg.enc]at hu)
  exact⟨_,_,_,M,rfl,hM⟩
theorem array7 {α:Type} {cs:Array α} (h:cs.size=7):∃c0 c1 c2 c3 c4 c5 c6,cs= #[c0,c1,c2,c3,c4,c5,c6]:=by
 obtain⟨l⟩:=cs
 match l,h with
 | [c0,c1,c2,c3,c4,c5,c6],_=>exact⟨c0,c1,c2,c3,c4,c5,c6,rfl⟩
theorem kit_open {v:Value} {d:DataW H} {p:List MemPlace} {r:Reach} {b0:Nat}
  (hv:Value.okWide Tryz.prog W r b0 29 v) (h:DataW.Trod enc Tryz.prog W 0 (fun _=>true) held 29 v d p):
  ∃(dd:Vd) (V:Vc) (no:Option Addr) (nn nc:Nat) (N:List ByteArray) (kind:Int) (to_:Option Addr) (tn tc:Nat) (T:List Rg) (room:Int),
   v= .agg #[.slice dd.ta dd.tn dd.tc, .slice dd.ma dd.mn dd.mc, .slice dd.sa dd.sn dd.sc, .slice no nn nc, .int .i64 kind, .slice to_ tn tc, .int .i64 room]/\
   jF W dd V/\(∀s∈V.tokens,s.size<=maxLen)/\(∀s∈V.specials,s.name.size<=maxLen)/\(SlS W no nn nc N/\∀s∈N,s.size<=maxLen)/\SlF 3 W to_ tn tc (flat Rg.enc T):=by
 obtain⟨f0,f1,f2,f3,f4,hk,⟨a0,b0'⟩,⟨a1,b1⟩,⟨a2,b2⟩,⟨a3,b3⟩,⟨a4,b4⟩⟩:=aCB;obtain⟨g0,g1,g2,hg,⟨x0,y0⟩,⟨x1,y1⟩,⟨x2,y2⟩⟩:=aBR;obtain⟨cs,rfl,hsz⟩:=okWide_struct hk hv;rw[cellsKit]at hsz;obtain⟨c0,c1,c2,c3,c4,c5,c6,rfl⟩:=array7 hsz;obtain⟨fuel,hf⟩:=h;have hcells:(Value.cells (.agg #[c0,c1,c2,c3,c4,c5,c6])).toList= [c0,c1,c2,c3,c4,c5,c6]:=by simp[Value.cells]
 rw[hcells]at hf;obtain⟨xs,n,_,_,_,hxl,hfs⟩:=DataW.trod_struct hk hf
 match xs,hxl,hfs with
 | [z0,z1,z2,z3,z4],_,hfs=>
  have t0:=hfs 0 f0 rfl;have t1:=hfs 1 f1 rfl;have t2:=hfs 2 f2 rfl;have t3:=hfs 3 f3 rfl;have t4:=hfs 4 f4 rfl;rw[a0,b0',cellsVoc]at t0;rw[a1,b1,Y5]at t1;rw[a2,b2,cellsI]at t2;rw[a3,b3,cellsSlR]at t3;rw[a4,b4,cellsI]at t4;simp only[List.drop_zero,List.take_succ_cons,List.take_zero,List.drop_succ_cons,List.getElem?_cons_zero,List.getElem?_cons_succ]at t0 t1 t2 t3 t4;obtain⟨ys,m,_,_,_,hyl,hgs⟩:=DataW.trod_struct hg t0
  match ys,hyl,hgs with
  | [q0,q1,q2],_,hgs=>
   have r0:=hgs 0 g0 rfl;have r1:=hgs 1 g1 rfl;have r2:=hgs 2 g2 rfl;rw[x0,y0,Y5]at r0;rw[x1,y1,cellsSlM]at r1;rw[x2,y2,cellsSlP]at r2;simp only[List.drop_zero,List.take_succ_cons,List.take_zero,List.drop_succ_cons,List.getElem?_cons_zero,List.getElem?_cons_succ]at r0 r1 r2;obtain⟨ta,tn',tc',T',rfl,hT,hsT⟩:=iP r0;obtain⟨ma,mn,mc,M,rfl,hM⟩:=X0 r1;obtain⟨sa,sn,sc,S,rfl,hS,hsS⟩:=zW r2;obtain⟨no,nn,nc,N,rfl,hN,hsN⟩:=iP t1;obtain⟨k,ek,_,_⟩:=DataW.trod_int Tryz.underlying3 t2;obtain⟨to_,tn,tc,T,rfl,hR⟩:=jX t3;obtain⟨ro,er,_,_⟩:=DataW.trod_int Tryz.underlying3 t4;simp only[List.cons.injEq,and_true]at ek er;subst ek er;exact⟨⟨ta,tn',tc',ma,mn,mc,sa,sn,sc⟩,⟨T',M,S⟩,no,nn,nc,N,k,to_,tn,tc,T,ro,rfl,⟨hT,hM,hS⟩,hsT,hsS,⟨hN,hsN⟩,hR⟩
end
end Go.Proofs.YtimkkkdabmhedaaGreatDoor
