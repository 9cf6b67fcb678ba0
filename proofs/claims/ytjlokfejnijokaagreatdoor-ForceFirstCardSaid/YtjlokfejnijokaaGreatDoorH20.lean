/- Walk: encode.Coder.Encode. -/
import Derived.Test.YtjlokfejnijokaaGreatDoorH19
import Derived.Test.YtjlokfejnijokaaGreatDoorH7
import Derived.Test.YtjlokfejnijokaaGreatDoorH1
import Derived.Test.YtjlokfejnijokaaGreatDoorH15
set_option linter.unusedVariables false
set_option maxHeartbeats 4000000
set_option maxRecDepth 100000
namespace Go.Proofs.YtjlokfejnijokaaGreatDoor
open Go.RowKit Go.ChangeMaps
def lfR (n:Nat):List Int:=(List.range n).map (fun(i:Nat)=>(i:Int)-1)
def rtR (n:Nat):List Int:=(List.range n).map (fun(i:Nat)=>(i:Int)+1)
theorem cP (n:Nat):(lfR n).length=n:=by simp[lfR]
theorem L6 (n:Nat):(rtR n).length=n:=by simp[rtR]
theorem lfR_take {n k:Nat} (h:k<n):(lfR n).take k++ [(k:Int)-1]=(lfR n).take (k+1):=by
 rw[<-D6 (by rw[cP];exact h)];congr 2;simp[ix,lfR,List.getD,h]
theorem rtR_take {n k:Nat} (h:k<n):(rtR n).take k++ [(k:Int)+1]=(rtR n).take (k+1):=by
 rw[<-D6 (by rw[L6];exact h)];congr 2;simp[ix,rtR,List.getD,h]
theorem Y9 {V:Vc} {B:List Int} {k yn:Nat} (h:B[k]?=some (yn:Int)):(pB V B).take k++ [ofT V.tokens (one yn)]=(pB V B).take (k+1):=by
 have hk:=(List.getElem?_eq_some_iff.1 h).1;rw[<-D6 (by rw[zF];exact hk)];congr 2;have h2:=(List.getElem?_eq_some_iff.1 h).2;simp[ix,pB,List.getD,hk,h2]
theorem oX {V:Vc} {eb eg:Nat} {B:List Int} {ao:Option Addr} {n c:Nat} (w:World) (hE:aR w eb eg V) (hM:May V) (hS:SlB w ao n c B) (hby:∀y∈B,0<=y/\y<256) (hn0:0<n) (hn:n<=100000):
  Calls Tryz.prog 112 #[.pointer (some ⟨eg,0,none⟩), .slice ao n c] w fun e w'=>∃v,e= .returned v/\Own w' w.heap.size v (vH V B)/\Below w.heap.size w w':=by
 obtain⟨lo,cs,to_,tcc,pg,hx,hcs,hto,hpt⟩:=hE;have hBn:=hS.len;have hel:eg<w.heap.size:=(Array.getElem?_eq_some_iff.1 hx).1;have c1:w.cell? ⟨eg,1,none⟩=some (.pointer (some ⟨pg,0,none⟩)):=by simp[World.cell?,hx,hcs.2.2.1]
 have G1:=fun w' (hg:Ge w w')=>hg.at w w' c1
 have gr:=Ge.refl w;have HN:Hid (∀W,Ge w W->Calls Tryz.prog 170 #[] W fun e w'=>∃g mb,e= .returned (.pointer (some ⟨g,0,none⟩))/\Ge w w'/\AgV w' w.heap.size g mb (.slice none 0 0) []):=hW_ (fun W hW=>(aAl W).mono (by
  rintro e w' ⟨g,mb,rfl,h1,h2,_⟩;exact⟨g,mb,rfl,hW.below h2,h1.mono hW.size⟩))
 have HCS:=hW_ hcs;have HX:=hW_ hx;have HS:=hW_ hS;have HPT:=hW_ hpt;have HBN:=hW_ hBn;have HBY:=hW_ hby;have HM:=hW_ hM;have gn0:¬(n:Int)=0:=by omega
 have gn1:((n:Int)==0)=false:=by simpa using gn0
 have HEL:=hW_ hel;clear hx hcs hto hpt hS hBn hby hM hel;go_enter Tryz.func112,Tryz.ntmps112;go_wp2_with (fail);refine viaP ?keyP ?keyF ?keyH
 case keyF=>
  intro key
  go_region_held3 (Ge w) (first | (with_reducible assumption) | (with_reducible refine Ge.drew ?_;with_reducible assumption) | (with_reducible refine Ge.alloc ?_ _;with_reducible assumption) | (with_reducible refine Ge.alloc (Ge.drew ?_) _;with_reducible assumption) | (with_reducible refine Ge.drew (Ge.alloc ?_ _);with_reducible assumption) | (with_reducible refine Ge.set4 ?_ (Nat.le_refl _) _ _ _ _ _ _ _ _;with_reducible assumption) | (with_reducible refine Ge.set4 (Ge.drew ?_) (Nat.le_refl _) _ _ _ _ _ _ _ _;with_reducible assumption) | (with_reducible refine Ge.drew (Ge.set4 ?_ (Nat.le_refl _) _ _ _ _ _ _ _ _);with_reducible assumption) | (with_reducible refine Ge.drewN ?_ _;with_reducible assumption)) ((go_at_call 170;refine(HN.out _ (by exact bA (Below.refl _ _) _)).mono ?_;rintro e w1 ⟨g,mb,rfl,hg1,ha1⟩;have HA1:=hW_ ha1;clear ha1))
  all_goals(revert w1 g mb;exact key.out)
 intro w1 g mb hg1 HA1 hW;obtain⟨W1,hW1⟩:∃W1,w1.alloc (.cells #[.slice none 0 0, .slice none 0 0, .slice none 0 0, .func (.func 169) #[.pointer (some ⟨pg,0,none⟩)] #[], .pointer (some ⟨g,0,none⟩)] 229)=W1:=⟨_,rfl⟩;have hbx:=heap_alloc_new w1 (.cells #[.slice none 0 0, .slice none 0 0, .slice none 0 0, .func (.func 169) #[.pointer (some ⟨pg,0,none⟩)] #[], .pointer (some ⟨g,0,none⟩)] 229);have hA2:=HA1.out.below (aA w1 (.cells #[.slice none 0 0, .slice none 0 0, .slice none 0 0, .func (.func 169) #[.pointer (some ⟨pg,0,none⟩)] #[], .pointer (some ⟨g,0,none⟩)] 229));rw[hW1]at hbx hA2 hW |-;obtain⟨kb,hkb⟩:∃kb,w1.heap.size=kb:=⟨_,rfl⟩;have hgl:g<w1.heap.size:=(Array.getElem?_eq_some_iff.1 HA1.out.pile.box).1;have hml:mb<w1.heap.size:=HA1.out.pile.at_.lt;have hs1:w.heap.size<=w1.heap.size:=hg1.size;rw[hkb]at hbx hgl hml hs1 |-;have HBL:Hid (Bld W1 w.heap.size kb g mb pg (V3 (.slice none 0 0) (.slice none 0 0) (.slice none 0 0)) (V3 ([]:List Int) [] [])):=hW_ ⟨hbx,fun j hj=>by
  rcases(by omega:j=0\/j=1\/j=2)with rfl | rfl | rfl<;>exact Own.nil _ _,hA2,⟨hs1,hW.size⟩,fun j hj q hq=>by
  rcases(by omega:j=0\/j=1\/j=2)with rfl | rfl | rfl<;>simp[Value.ownBlock,V3]at hq,⟨by omega,by omega⟩⟩
 have HW1:=hW_ hW;clear hW1 hbx hA2 hW hkb hgl hml hs1 hg1 HA1 G1 gr c1;go_wp2_with (fail);go_loopw [30] (fun i wr=>∃(k:Nat) (v1 v2 v3:Value),k<=n/\i= .int .i64 k/\Hid (Bld wr w.heap.size kb g mb pg (V3 v1 v2 v3) (V3 ((pB V B).take k) ((lfR n).take k) ((rtR n).take k)))/\Hid (Below w.heap.size w wr)) (fun i _=>n-(intOf i).toNat)
 case atStart=>exact⟨0,_,_,_,Nat.zero_le _,rfl,HBL,hW_ HW1.out⟩
 case round=>
  obtain⟨k,v1,v2,v3,hk,rfl,HB,HBW⟩:=hrel
  by_cases hlt:k<n
  ·obtain⟨yn,hyn,hy⟩:∃yn:Nat,B[k]?=some (yn:Int)/\yn<256:=by
    have hkB:k<B.length:=by have:=HBN.out;omega
    have h1:=HBY.out _ (List.getElem_mem hkB);exact⟨B[k].toNat,by rw[List.getElem?_eq_getElem hkB];congr 1;omega,by omega⟩
   obtain⟨bb,bo,hao,hcb⟩:=Sl.at_ (Sl.below HS.out HBW.out) k (.int .u8 yn) (by rw[List.getElem?_map,hyn];rfl);subst hao;have hxr:=(HBW.out.block eg HEL.out).trans HX.out;have c1:wr.cell? ⟨eg,2+yn,none⟩=some (.int .i64 (ofT V.tokens (one yn))):=by
    have:=HCS.out.2.2.2 yn hy;simp[World.cell?,hxr,this]
   have HAT:=hW_ (Y9 (V:=V) hyn);have hl1:((pB V B).take k).length=k:=by rw[List.length_take,zF];have:=HBN.out;omega
   have hl2:((lfR n).take k).length=k:=by rw[List.length_take,cP];omega
   have hl3:((rtR n).take k).length=k:=by rw[List.length_take,L6];omega
   have HL1:=hW_ hl1;have HL2:=hW_ hl2;have HL3:=hW_ hl3;obtain⟨a,ha⟩:∃a,ofT V.tokens (one yn)=a:=⟨_,rfl⟩;rw[ha]at c1 HAT;obtain⟨b0,b1,b2,bf⟩:=HB.out.cells;have HR1:Hid (Own wr w.heap.size v1 ((pB V B).take k)):=hW_ (HB.out.row 0 (by omega));have hkc:(2:Nat)+yn*1=2+yn:=by omega
   have gy:(yn:Int)<256:=by omega
   have gk:(k:Int)<(n:Int):=by omega
   have HLO:=hW_ HB.out.lo.2;have e0:=eA (aA wr (.cells #[.int .i64 a] 3)) _ _ b0;clear hyn hxr hl1 hl2 hl3 ha;go_wp2_with (fail);refine viaP ?keyQ ?keyG ?keyI
   case keyG=>
    intro key
    go_region_law (refine mR (by rfl) _ _ (by rfl) (base:=w.heap.size) (k:=k) (y:=a) (by rfl) (by exact World.ownsRow.alloc HR1.out _) HL1.out (by rfl) (by exact heap_alloc_new _ _) (by omega) (by simp;have:=HLO.out;omega) ?_;intro gg cap w2 ho2 hg2 hat2;obtain⟨k0,k1,k2,kf⟩:=HB.out.after (by exact kI rfl rfl rfl rfl) 0 (by omega) hg2;have HST:=hW_ (HB.out.step0 (by exact kI rfl rfl rfl rfl) ho2 hg2 hat2 HAT.out);clear ho2 hg2 hat2)
    all_goals(clear k0 k1 k2 kf;revert w2 gg cap;exact key.out)
   intro gg cap w2 HST;have hs:=HST.out;obtain⟨W2,hW2⟩:∃W2,w2.setCell ⟨kb,0,none⟩ (.slice (some ⟨gg,0,none⟩) (k+1) cap)=W2:=⟨_,rfl⟩;rw[hW2]at hs;have hs2:=hs.1;have HB2:=hW_ hs2;have HBW2:Hid (Below w.heap.size w W2):=hW_ (HBW.out.trans hs.2);rw[hW2];clear hs hs2 HST hW2 b0 b1 b2 bf e0 c1 hcb HB HR1;obtain⟨b0,b1,b2,bf⟩:=HB2.out.cells;have HR2:Hid (Own W2 w.heap.size v2 ((lfR n).take k)):=hW_ (HB2.out.row 1 (by omega));have HLO2:=hW_ HB2.out.lo.2;have qs:IntKind.i64.wrap ((k:Int)-1)=(k:Int)-1:=by rw[IntKind.wrap_i64];omega
   have qp:IntKind.i64.wrap ((k:Int)+1)=(k:Int)+1:=by rw[IntKind.wrap_i64];omega
   go_wp2_with (first
    | (at_builtin;refine kF rfl _ _ rfl (base:=w.heap.size) (k:=k) (y:=(k:Int)-1) rfl (by exact World.ownsRow.alloc HR2.out _) HL2.out rfl (by exact heap_alloc_new _ _) (by omega) (by simp;have:=HLO2.out;omega) ?_;intro gg3 cap3 w3 ho3 hg3 hat3;obtain⟨k0,k1,k2,kf⟩:=HB2.out.after (by exact kI rfl rfl rfl rfl) 1 (by omega) hg3;have HST3:=hW_ (HB2.out.step1 (by exact kI rfl rfl rfl rfl) ho3 hg3 hat3 (lfR_take hlt));clear ho3 hg3 hat3)
    | (at_builtin;refine kF rfl _ _ rfl (base:=w.heap.size) (k:=k) (y:=(k:Int)+1) rfl (by exact World.ownsRow.alloc (HST3.out.1.row 2 (by omega)) _) HL3.out rfl (by exact bY (by simp)) (by omega) (by have:=HST3.out.1.lo.2;simp at this |-;omega) ?_;intro gg4 cap4 w4 ho4 hg4 hat4;obtain⟨m0,m1,m2,mf⟩:=HST3.out.1.after (by exact kI rfl rfl rfl rfl) 2 (by omega) hg4;have HST4:=hW_ (HST3.out.1.step2 (by exact kI rfl rfl rfl rfl) ho4 hg4 hat4 (rtR_take hlt));clear ho4 hg4 hat4))
   go_roundw
   case rel=>exact⟨k+1,_,_,_,by omega,by go_num,hW_ HST4.out.1,hW_ ((HBW2.out.trans HST3.out.2).trans HST4.out.2)⟩
   case measure=>simp[intOf];omega
  ·obtain rfl:k=n:=by omega
   have hRl:(pB V B).length=k:=by rw[zF];exact HBN.out
   have hbl:=HB.out;rw[List.take_of_length_le (Nat.le_of_eq hRl),List.take_of_length_le (Nat.le_of_eq (cP k)),List.take_of_length_le (Nat.le_of_eq (L6 k))]at hbl;obtain⟨rb,lb,tb,rc,lc,tc,rfl,hch⟩:=hbl.chain hn0 hRl (cP k) (L6 k);obtain⟨m,hm⟩:∃m,k=m+1:=⟨k-1,by omega⟩;have qm:(k:Int)-1=(m:Int):=by omega
   have qw:IntKind.i64.wrap ((k:Int)-1)=(m:Int):=by rw[IntKind.wrap_i64];omega
   have gm:(m:Int)<(k:Int):=by omega
   have gm0:(0:Int)<=(m:Int):=by omega
   obtain⟨b0,b1,b2,b3,b4⟩:=hch.cells;obtain⟨y0,hy0⟩:∃y0,(rtR k)[m]?=some y0:=⟨_,List.getElem?_eq_getElem (by rw[L6];omega)⟩
   have t0:=hch.right.cell hy0;have tf:=hch.right.frozen;simp only at b0 b1 b2 b3 b4 t0 tf;have HCH:=hW_ hch;have HRL:=hW_ hRl;have HMM:=hW_ hm;clear hbl hch hy0 hRl HBL HB hm;go_wp2_with (fail);obtain⟨W5,hW5⟩:∃W5,wr.setCell ⟨tb,m,none⟩ (.int .i64 (-1))=W5:=⟨_,rfl⟩;have HC5:Hid (ChV W5 ⟨w.heap.size,k,kb,g,mb,rb,lb,tb,rc,lc,tc,pg⟩ (.slice none 0 0) (pB V B) (lfR k) ((rtR k).set m (-1)) []):=hW_ (hW5▸HCH.out.setRight m (-1));have HB5:Hid (Below w.heap.size w W5):=hW_ (hW5▸Below.setCell HBW.out (by show w.heap.size<=tb;exact HCH.out.right.lt.1) _);have HLK:Hid (Lnk k (iI (pB V B)) (pB V B) (lfR k) ((rtR k).set m (-1))):=hW_ (by
    have:=aBP (R:=pB V B) (by rw[HRL.out];exact hn0) (lfR k) ((rtR k).set m (-1)) (by rw[HRL.out];rfl) (by rw[HRL.out,show k-1=m by have:=HMM.out;omega];rfl);rw[HRL.out]at this;exact this)
   have HWF:Hid (WfR (pB V B)):=hW_ (fun y hy=>by
    obtain⟨z,_,rfl⟩:=List.mem_map.1 hy;exact ofT_wf HM.out.1.1 _)
   have HTB:Hid (Tb w ⟨w.heap.size,k,kb,g,mb,rb,lb,tb,rc,lc,tc,pg⟩ V.merges):=hW_ ⟨⟨eb,HPT.out⟩,HM.out.2.1.2.2.imp (fun h=>h.2),HM.out.2.1.1,rfl⟩;rw[hW5];clear hW5 b0 b1 b2 b3 b4 t0 tf;go_wp2_with (fail);go_loopw [83] (fun i wr=>∃(j:Nat) (va:Value) (L:List Ent),j<=k/\i= .int .i64 j/\Hid (ChV wr ⟨w.heap.size,k,kb,g,mb,rb,lb,tb,rc,lc,tc,pg⟩ va (pB V B) (lfR k) ((rtR k).set m (-1)) L)/\Hid (∀x,agL L x=agK V.merges (iI (pB V B)) j x)/\Hid (L.length<=j)/\Hid (Below w.heap.size w wr)) (fun i _=>k-(intOf i).toNat)
   case atStart=>exact⟨0,_,[],Nat.zero_le _,rfl,HC5,hW_ (fun x=>(agK_zero _ _ x).symm),hW_ (Nat.le_refl _),HB5⟩
   case round=>
    obtain⟨j,va,L,hj,rfl,HC,HA,HLL,HBJ⟩:=hrel
    by_cases hjk:j<k
    ·have hat:(iI (pB V B))[j]?=some (j,(pB V B)[j]'(by rw[HRL.out];exact hjk)):=yM (List.getElem?_eq_getElem _)
     have HLO:=hW_ (bG (c:=⟨w.heap.size,k,kb,g,mb,rb,lb,tb,rc,lc,tc,pg⟩) (C:=iI (pB V B)) j j _ wr HTB.out HBJ.out HC.out (by simp only;omega) (by have:=HLL.out;omega) HLK.out HWF.out hat);clear hat;go_wp2_with (fail);go_at_call 171;refine HLO.out.mono ?_
     rintro e w7 ⟨rfl,v7,L7,hC7,hg7,hl7,hT7⟩;have HC7:=hW_ hC7;have HA7:Hid (∀x,agL L7 x=agK V.merges (iI (pB V B)) (j+1) x):=hW_ (fun x=>by rw[hg7,agK_succ,HA.out]);have HL7:Hid (L7.length<=j+1):=hW_ (by have:=HLL.out;omega);have HB7:Hid (Below w.heap.size w w7):=hW_ (HBJ.out.trans (oP HC.out.ag hT7 HC.out.base));clear hC7 hg7 hl7 hT7 HLO;go_wp2_with (fail);go_roundw
     case rel=>exact⟨j+1,v7,L7,by omega,by go_num,HC7,HA7,HL7,HB7⟩
     case measure=>simp[intOf];omega
    ·obtain rfl:j=k:=by omega
     have HA5:Hid (∀x,agL L x=agI V.merges (iI (pB V B)) x):=hW_ (fun x=>by rw[HA.out,agK_all HLK.out.lt]);obtain⟨b0,b1,b2,b3,b4⟩:=HC.out.cells;simp only at b0 b1 b2 b3 b4;clear HA HC5 HB5 HBW HCH;go_wp2_with (fail);go_at_call 172;refine(jT wr HC.out.ag).mono ?_
     rintro e w8 ⟨x,ok,v8,L8,rfl,hA8,hT8,hy8,hn8⟩;have HA8:=hW_ hA8;have HT8:=hW_ hT8;have HY8:=hW_ hy8;have HN8:=hW_ hn8;clear hA8 hT8 hy8 hn8 b0 b1 b2 b3 b4;go_wp2_with (fail);have HLP:Hid (Lp w (w8.alloc (.cells #[.int .i64 x.place, .int .i64 x.order, .int .i64 x.out] 232)) ⟨w.heap.size,j,kb,g,mb,rb,lb,tb,rc,lc,tc,pg⟩ V.merges (pB V B) w8.heap.size x ok v8 (pB V B) (lfR j) ((rtR j).set m (-1)) L8 (iI (pB V B))):=hW_ (Lp.new HC.out HLK.out HWF.out (Way.start V.merges (by rw[HRL.out];exact hn0)) HBJ.out HA5.out (by rw[wJ,HRL.out];have:=HLL.out;simp only;omega) HA8.out HT8.out HY8.out HN8.out);have HCL:Hid ((iI (pB V B)).length=j):=hW_ (by rw[wJ,HRL.out]);obtain⟨W9,hW9⟩:∃W9,w8.alloc (.cells #[.int .i64 x.place, .int .i64 x.order, .int .i64 x.out] 232)=W9:=⟨_,rfl⟩;obtain⟨e9,he9⟩:∃e9,w8.heap.size=e9:=⟨_,rfl⟩;rw[hW9,he9]at HLP;rw[hW9,he9];clear hW9 he9 HC HLK HWF HBJ HA5 HLL HA8 HT8 HY8 HN8
     go_loopg [9,10] j (fun(q:Nat) p b wr=>∃(eb':Nat) (x:Ent) (ok:Bool) (va:Value) (Rw Lf Rt:List Int) (L:List Ent) (C:Ch),q=C.length/\p= .pointer (some ⟨eb',0,none⟩)/\b= .bool ok/\Hid (Lp w wr ⟨w.heap.size,j,kb,g,mb,rb,lb,tb,rc,lc,tc,pg⟩ V.merges (pB V B) eb' x ok va Rw Lf Rt L C))
     case atStart=>exact⟨e9,x,ok,v8,_,_,_,L8,_,HCL.out.symm,rfl,rfl,HLP⟩
     case round=>
      obtain⟨eb',x,ok,va,Rw,Lf,Rt,L,C,rfl,rfl,rfl,HL⟩:=hrel
      cases ok with
      | true=>
       obtain⟨hy1,hy2,hy3⟩:=HL.out.yes rfl;obtain⟨pl,od,d⟩:=x;simp only at hy1 hy2 hy3;obtain⟨pre,post,pn,q,a,b,rfl,rfl,hway⟩:=aCs HL.out.way HL.out.ln.ok hy1 hy2;have HD:=hW_ (agI_wf HM.out.2.1 HM.out.1.1 hy1);have HY3:=hW_ hy3;have HWY:=hW_ hway;obtain⟨x0,x1,x2⟩:=wD HL.out.box;simp only at x0 x1 x2;have hcnt:=HL.out.cnt;simp only[if_true]at hcnt;have HCT:=hW_ hcnt;clear hy1 hy2 hy3 hway hcnt;go_wp2_with (fail);go_at_call 173;refine(pW (c:=⟨w.heap.size,j,kb,g,mb,rb,lb,tb,rc,lc,tc,pg⟩) pn q a b od d wr HTB.out HL.out.bel HL.out.ch (by simp only;omega) (by have:=HCT.out;omega) HL.out.ln HL.out.wf HD.out HY3.out).mono ?_
       rintro e w5 ⟨rfl,v5,Rw5,Lf5,Rt5,L5,hC5,hK5,hW5,hA5,hl5,hF5⟩;have hne:=HL.out.ne;have hlt5:=(Array.getElem?_eq_some_iff.1 HL.out.box).1;have hx5:w5.heap[eb']?=some (.cells #[.int .i64 pn, .int .i64 od, .int .i64 d] 232):=(hF5.block eb' hlt5 hne.2.1 hne.2.2.1 hne.2.2.2.1 hne.2.2.2.2.1 hne.2.2.2.2.2.1 (fun e=>hne.2.2.2.2.2.2.1 e)).trans HL.out.box
       have HC5:=hW_ hC5;have HK5:=hW_ hK5;have HW5:=hW_ hW5;have HA5:=hW_ hA5;have HL5:=hW_ hl5;have HB5:Hid (Below w.heap.size w w5):=hW_ (HL.out.bel.trans (hF5.base HL.out.ch));clear hC5 hK5 hW5 hA5 hl5 hF5 hne hlt5 x0 x1 x2;obtain⟨x0,x1,x2⟩:=wD hx5;have hb6:=aA w5 (.cells #[.int .i64 pn, .int .i64 od, .int .i64 d] 232);have hC6:=HC5.out.below hb6;obtain⟨b0,b1,b2,b3,b4⟩:=hC6.cells;simp only at b0 b1 b2 b3 b4;have HTK:=hW_ (jT _ hC6.ag);have HC6:=hW_ hC6;have hbx:=heap_alloc_new w5 (.cells #[.int .i64 pn, .int .i64 od, .int .i64 d] 232);obtain⟨W6,hW6⟩:∃W6,w5.alloc (.cells #[.int .i64 pn, .int .i64 od, .int .i64 d] 232)=W6:=⟨_,rfl⟩;rw[hW6]at HTK HC6 hbx;have HB6:Hid (Below w.heap.size w W6):=hW_ (hW6▸HB5.out.trans (hb6.mono HB5.out.size));have HS6:Hid (W6.heap.size=w5.heap.size+1):=hW_ (by rw[<-hW6];simp);have HBX:=hW_ hbx;have HW6:=hW_ hW6;clear hx5 hb6 hC6 hW6 hbx;go_wp2_with (fail);rw[HW6.out];go_at_call 172;refine HTK.out.mono ?_
       rintro e w7 ⟨x7,ok7,v7,L7,rfl,hA7,hT7,hy7,hn7⟩;have k1:=(Array.getElem?_eq_some_iff.1 HC5.out.box).1;have k2:=(Array.getElem?_eq_some_iff.1 HC5.out.ag.pile.box).1;have k3:=HC5.out.ag.pile.at_.lt;have k4:=HC5.out.row.lt.2;have k5:=HC5.out.left.lt.2;have k6:=HC5.out.right.lt.2;simp only at k1 k2 k3 k4 k5 k6;have hv5:v5.ownBlock≠some w5.heap.size:=fun e=>by have:=(World.ownsRow.lt HC5.out.ag.pile.row _ e).2;omega
       have hb5:w.heap.size<=w5.heap.size:=HB5.out.size;have hs6:w5.heap.size<W6.heap.size:=by have:=HS6.out;omega
       have hx7:w7.heap[w5.heap.size]?=some (.cells #[.int .i64 pn, .int .i64 od, .int .i64 d] 232):=(hT7.block w5.heap.size hs6 (by omega) (by omega) hv5).trans HBX.out
       have HNE:Hid (w5.heap.size≠kb/\w5.heap.size≠g/\w5.heap.size≠mb/\w5.heap.size≠rb/\w5.heap.size≠lb/\w5.heap.size≠tb/\v5.ownBlock≠some w5.heap.size/\w.heap.size<=w5.heap.size):=hW_ ⟨by omega,by omega,by omega,by omega,by omega,by omega,hv5,hb5⟩;have HA7:=hW_ hA7;have HT7:=hW_ hT7;have HY7:=hW_ hy7;have HN7:=hW_ hn7;have HX7:=hW_ hx7;have yf:∀o,w7.frozen? ⟨w5.heap.size,o,none⟩=false:=fun o=>by simp[World.frozen?,hx7]
       have HS6b:=hW_ hs6;clear hA7 hT7 hy7 hn7 k1 k2 k3 k4 k5 k6 hv5 hb5 hs6 b0 b1 b2 b3 b4 x0 x1 x2;obtain⟨x0,x1,x2⟩:=wD hx7;clear hx7;have HLP:Hid (Lp w (((w7.setCell ⟨w5.heap.size,0,none⟩ (.int .i64 x7.place)).setCell ⟨w5.heap.size,1,none⟩ (.int .i64 x7.order)).setCell ⟨w5.heap.size,2,none⟩ (.int .i64 x7.out)) ⟨w.heap.size,j,kb,g,mb,rb,lb,tb,rc,lc,tc,pg⟩ V.merges (pB V B) w5.heap.size x7 ok7 v7 Rw5 Lf5 Rt5 L7 (pre++(pn,d)::post)):=hW_ (Lp.stored HC6.out HK5.out HW5.out HWY.out HB6.out HA5.out (by have h1:=HL5.out;have h2:=HCT.out;simp at h2 |-;omega) HA7.out HT7.out HY7.out HN7.out HX7.out HS6b.out HNE.out);go_wp2_with (fail)
       go_roundg (pre++(pn,d)::post).length
       case measure=>simp
       case rel=>exact⟨w5.heap.size,x7,ok7,v7,Rw5,Lf5,Rt5,L7,pre++(pn,d)::post,rfl,rfl,rfl,HLP⟩
      | false=>
       go_wp2_with (fail);have hno:=HL.out.no rfl;have HEND:Hid (C.map (·.2)=vH V B):=hW_ (by
        have h1:=HL.out.way.done (agI_none HL.out.ln.ok hno);rw[h1];unfold vH;rw[zF])
       have HP0:Hid (plC C 0=0):=hW_ (by obtain⟨a,ha⟩:=HL.out.way.zero;rw[plC_at ha];rfl);have HCN:Hid (C.length<=1048576):=hW_ (by have:=HL.out.cnt;simp at this;omega);clear hno;obtain⟨W4,hW4⟩:∃W4,W4=wr:=⟨_,rfl⟩;subst hW4;go_loopw [11,12] (fun o i wq=>∃(y:Nat),y<=C.length/\i= .int .i64 (plC C y)/\lenS o=y/\Hid (Own wq W4.heap.size o ((C.map (·.2)).take y))/\Hid (Below W4.heap.size W4 wq)) (fun o _ _=>C.length-lenS o)
       case atStart=>exact⟨0,Nat.zero_le _,by rw[HP0.out],rfl,hW_ (Own.nil _ _),hW_ (Below.refl _ _)⟩
       case round=>
        obtain⟨y,hy,rfl,hly,HO,HBQ⟩:=hrel
        by_cases hyc:y<C.length
        ·obtain⟨p,a,hat⟩:∃(p:Nat) (a:Int),C[y]?=some (p,a):=⟨_,_,List.getElem?_eq_getElem hyc⟩
         rw[plC_at hat];have hpn:=HL.out.ln.lt _ (List.mem_of_getElem? hat);have hC:=HL.out.ch.below HBQ.out;obtain⟨b0,b1,b2,b3,b4⟩:=hC.cells;have r0:=hC.row.cell (HL.out.ln.row _ _ _ hat);simp only at b0 b1 b2 b3 b4 r0 hpn;have gp:(p:Int)<(j:Int):=by omega
         have gp0:(0:Int)<=(p:Int):=by omega
         have gpn:¬(p:Int)= -1:=by omega
         have HTK:Hid ((C.map (·.2)).take y++ [a]=(C.map (·.2)).take (y+1)):=hW_ (by
          rw[<-D6 (by rw[List.length_map];exact hyc)];congr 2;simp[ix,List.getD,hat])
         have HLN:Hid (((C.map (·.2)).take y).length=y):=hW_ (by rw[List.length_take,List.length_map];omega);have HAT:=hW_ hat;have HRT:=hW_ (HL.out.ln.right _ _ _ hat);clear hat hC hpn;go_wp2_with (at_builtin;refine kF rfl _ _ rfl (base:=W4.heap.size) (k:=y) (y:=a) rfl (by exact World.ownsRow.alloc HO.out _) HLN.out rfl (by exact bY (by simp)) (by have:=HCN.out;omega) (by have:=HBQ.out.size;simp;omega) ?_;intro gg cap w2 ho2 hg2 hat2;have hb2:Below W4.heap.size W4 w2:=Below.grown (HBQ.out.trans (Below.mono (by exact kI rfl rfl rfl rfl) HBQ.out.size)) hg2 (by have:=HBQ.out.size;simp;omega) (fun q hq=>(World.ownsRow.lt HO.out q hq).1);obtain⟨d0,d1,d2,d3,d4⟩:=(HL.out.ch.below hb2).cells;have t0:=(HL.out.ch.below hb2).right.cell HRT.out;rw[nxt_pl]at t0;simp only at d0 d1 d2 d3 d4 t0;have HO2:=hW_ ho2;have HB2:=hW_ hb2;clear ho2 hg2 hat2 hb2);go_roundw
         case rel=>exact⟨y+1,by omega,rfl,rfl,hW_ (by rw[<-HTK.out];exact HO2.out),HB2⟩
         case measure=>rw[hly];show C.length-(y+1)<C.length-y;omega
        ·obtain rfl:y=C.length:=by omega
         have hpe:plC C C.length= -1:=plC_end (Nat.le_refl _);rw[hpe];clear hpe;go_wp2_with (fail);go_ret;refine⟨_,rfl,?_,HL.out.bel.trans (HBQ.out.mono HL.out.bel.size)⟩;have h1:=HO.out.mono HL.out.bel.size;rw[List.take_of_length_le (by simp),HEND.out]at h1;exact h1
open Go
def uZ (p:Pt):Bool:=decide (p.cls=3) || decide (p.cls=4)
def eB (L:List Pt) (i:Nat) (c:Int):Nat:=((L.drop i).takeWhile (fun p=>decide (p.cls=c))).length
def spN (L:List Pt) (i:Nat):Nat:=((L.drop i).takeWhile uZ).length
def nsN (L:List Pt) (i:Nat):Nat:=((L.drop i).takeWhile (fun p=>!uZ p)).length
def isC (L:List Pt) (i:Nat) (c:Int):Bool:=match L[i]? with | some p=>decide (p.cls=c) | none=>false
def spC (L:List Pt) (i:Nat):Bool:=match L[i]? with | some p=>uZ p | none=>false
def D7 (L:List Pt) (i:Nat):Bool:=match L[i]? with | some p=>p.sure | none=>false
def cdOf (wide:Bool) (p:Pt):Int:=if wide=true/\65<=p.code/\p.code<=90 then p.code+32 else p.code
def cdC (L:List Pt) (wide:Bool) (i:Nat):Int:=match L[i]? with | some p=>cdOf wide p | none=> -1
def ptC (L:List Pt) (i:Nat):Pt:=match L[i]? with | some p=>p | none=>⟨0,0,0,false⟩
def rF (L:List Pt):Nat->Nat
 | 0=>0
 | n+1=>if isC L n 4 then n+1 else rF L n
def sR (c:Int):Prop:=c=115\/c=116\/c=109\/c=100
instance (c:Int):Decidable (sR c):=by unfold sR;infer_instance
def O8 (c:Int):Prop:=c=114\/c=118\/c=108
instance (c:Int):Decidable (O8 c):=by unfold O8;infer_instance
def nP (c d:Int):Prop:=(c=114/\d=101)\/(c=118/\d=101)\/(c=108/\d=108)
instance (c d:Int):Decidable (nP c d):=by unfold nP;infer_instance
def iF (L:List Pt) (wide:Bool):Nat:=if cdC L wide 0≠39 then 0 else if sR (cdC L wide 1)then 2 else if nP (cdC L wide 1) (cdC L wide 2)then 3 else 0
def gB (L:List Pt) (c:Int):Nat:=if(ptC L 0).code=32/\isC L 1 c=true then 1+eB L 1 c else eB L 0 c
def tA (L:List Pt):Nat×Nat:=if spN L 0<L.length/\1<spN L 0 then(spN L 0-1,spN L 0+1)else(spN L 0,spN L 0+1)
def aJ (L:List Pt):Nat×Nat:=
 if 0<iF L false then(iF L false,iF L false)
 else if 0<gB L 1 then(gB L 1,gB L 1+1)
 else if 0<gB L 2 then(gB L 2,gB L 2+1)
 else if 0<gB L 0 then(gB L 0,gB L 0+1)
 else tA L
def fI (L:List Pt):Bool:=decide ((ptC L 0).cls=0) || decide ((ptC L 0).cls=3)
def N7 (L:List Pt):Nat×Nat:=
 if 0<iF L true then(iF L true,iF L true)
 else if 0<eB L 0 1 then(eB L 0 1,eB L 0 1+1)
 else if fI L=true/\isC L 1 1=true then(1+eB L 1 1,1+eB L 1 1+1)
 else if 0<eB L 0 2 then(min (eB L 0 2) 3,min (min (eB L 0 2) 3+1) 3)
 else if 0<gB L 0 then(gB L 0+eB L (gB L 0) 4,gB L 0+eB L (gB L 0) 4+1)
 else if 0<rF L (spN L 0)then(rF L (spN L 0),spN L 0+1)
 else tA L
def N6 (L:List Pt):Nat×Nat:=(spN L 0+nsN L (spN L 0),spN L 0+nsN L (spN L 0)+1)
def lH (kind:Int) (L:List Pt):Nat×Nat:=if kind=1 then N6 L else if kind=2 then aJ L else N7 L
def tI (L:List Pt) (wide:Bool):Prop:=cdC L wide 0=39/\C1 L<3/\(C1 L<2\/O8 (cdC L wide 1))
instance (L:List Pt) (wide:Bool):Decidable (tI L wide):=by unfold tI;infer_instance
def bB (kind:Int) (t:List Rg) (b:List Int) (final:Bool):Int×Bool:=
 if kind=0 then((b.length:Int),final)
 else(dB (pts t b) (lH kind (pts t b)).1,final || (decide ((lH kind (pts t b)).2<=C1 (pts t b)) && (decide (kind=1) || !decide (tI (pts t b) (decide (kind=3))))))
theorem dH {α:Type} (p:α->Bool) (L:List α) (i:Nat):i+((L.drop i).takeWhile p).length<=max i L.length:=by
 have h1:=List.takeWhile_prefix (l:=L.drop i) p;have:=h1.length_le;rw[List.length_drop]at this;omega
theorem pC (L:List Pt) (i:Nat) (c:Int):i+eB L i c<=max i L.length:=dH _ L i
theorem H9 (L:List Pt) (i:Nat):i+spN L i<=max i L.length:=dH _ L i
theorem nsN_le (L:List Pt) (i:Nat):i+nsN L i<=max i L.length:=dH _ L i
theorem J5 {α:Type} {p:α->Bool} {L:List α} {i:Nat} {x:α} (h:L[i]?=some x):((L.drop i).takeWhile p).length=if p x=true then((L.drop (i+1)).takeWhile p).length+1 else 0:=by
 have hi:=(List.getElem?_eq_some_iff.1 h).1;have e:L.drop i=x::L.drop (i+1):=by
  rw[List.drop_eq_getElem_cons hi];congr 1;have:=List.getElem?_eq_getElem hi;rw[h]at this;simpa using this.symm
 rw[e,List.takeWhile_cons];split
 ·simp
 ·simp
theorem vT {α:Type} {p:α->Bool} {L:List α} {i:Nat} (h:L[i]?=none):((L.drop i).takeWhile p).length=0:=by
 rw[List.drop_eq_nil_of_le (by simpa using h)];rfl
theorem I8 {L:List Pt} {i:Nat} {c:Int} (h:isC L i c=true):eB L i c=eB L (i+1) c+1/\i<L.length:=by
 unfold isC at h
 cases hp:L[i]? with
 | none=>rw[hp]at h;simp at h
 | some p=>
  rw[hp]at h;unfold eB;rw[J5 hp,if_pos (by simpa using h)];exact⟨rfl,(List.getElem?_eq_some_iff.1 hp).1⟩
theorem aAy {L:List Pt} {i:Nat} {c:Int} (h:isC L i c=false):eB L i c=0:=by
 unfold isC at h;unfold eB
 cases hp:L[i]? with
 | none=>exact vT hp
 | some p=>rw[hp]at h;rw[J5 hp,if_neg (by simpa using h)]
theorem T3 {L:List Pt} {i:Nat} (h:spC L i=true):spN L i=spN L (i+1)+1/\i<L.length:=by
 unfold spC at h
 cases hp:L[i]? with
 | none=>rw[hp]at h;simp at h
 | some p=>
  rw[hp]at h;unfold spN;rw[J5 hp,if_pos (by simpa using h)];exact⟨rfl,(List.getElem?_eq_some_iff.1 hp).1⟩
theorem spN_no {L:List Pt} {i:Nat} (h:spC L i=false):spN L i=0:=by
 unfold spC at h;unfold spN
 cases hp:L[i]? with
 | none=>exact vT hp
 | some p=>rw[hp]at h;rw[J5 hp,if_neg (by simpa using h)]
theorem aAC {L:List Pt} {i:Nat} (hi:i<L.length) (h:spC L i=false):nsN L i=nsN L (i+1)+1:=by
 unfold spC at h;unfold nsN;rw[List.getElem?_eq_getElem hi]at h;rw[J5 (List.getElem?_eq_getElem hi),if_pos (by simpa using h)]
theorem nsN_no {L:List Pt} {i:Nat} (h:¬i<L.length\/spC L i=true):nsN L i=0:=by
 unfold nsN
 cases hp:L[i]? with
 | none=>exact vT hp
 | some p=>
  have hi:=(List.getElem?_eq_some_iff.1 hp).1;have h2:spC L i=true:=h.resolve_left (fun g=>g hi);unfold spC at h2;rw[hp]at h2;rw[J5 hp,if_neg (by simpa using h2)]
theorem nM (L:List Pt):∀n,rF L n<=n
 | 0=>Nat.le_refl _
 | n+1=>by
  have:=nM L n;simp only[rF];split<;>omega
theorem qM {L:List Pt} {i:Nat} {c:Int} (h:isC L i c=true):i<L.length:=(I8 h).2
theorem aAZ {L:List Pt} {w:Bool} {i:Nat} (h:cdC L w i≠ -1):i<L.length:=by
 unfold cdC at h
 cases hp:L[i]? with
 | none=>rw[hp]at h;simp at h
 | some p=>exact(List.getElem?_eq_some_iff.1 hp).1
theorem eK (L:List Pt) (w:Bool):iF L w<=L.length:=by
 unfold iF;split
 ·omega
 ·split
  ·next h=>have:=aAZ (L:=L) (w:=w) (i:=1) (by unfold sR at h;omega);omega
  ·split
   ·next h=>have:=aAZ (L:=L) (w:=w) (i:=2) (by unfold nP at h;omega);omega
   ·omega
theorem D1 (L:List Pt) (c:Int):gB L c<=L.length:=by
 unfold gB;split
 ·next h=>have:=pC L 1 c;have:=qM h.2;omega
 ·have:=pC L 0 c;omega
theorem wY (L:List Pt):(tA L).1<=L.length/\1<=(tA L).2:=by
 have:=H9 L 0;unfold tA;split<;>simp<;>omega
theorem N8 {L:List Pt} (h:0<spN L 0):1<=(tA L).1:=by
 unfold tA;split<;>simp<;>omega
theorem wM (kind:Int) (L:List Pt):(lH kind L).1<=L.length/\1<=(lH kind L).2:=by
 have hs:=wY L;unfold lH;split
 ·unfold N6;have:=H9 L 0;have:=nsN_le L (spN L 0);simp;omega
 ·split
  ·unfold aJ;have:=eK L false;have:=D1 L 0;have:=D1 L 1;have:=D1 L 2
   repeat' split
   all_goals first
    | exact hs
    | (simp only;omega)
  ·unfold N7;have:=eK L true;have:=pC L 0 1;have:=pC L 0 2;have:=D1 L 0;have:=pC L (gB L 0) 4;have:=nM L (spN L 0);have:=H9 L 0
   repeat' split
   all_goals first
    | exact hs
    | (simp only;omega)
    | (rename_i h _ _ _;have:=pC L 1 1;have:=qM h.2;simp only;omega)
    | (rename_i h;have:=pC L 1 1;have:=qM h.2;simp only;omega)
theorem P0 {L:List Pt} {c:Int} (h:0<L.length) (hc:(ptC L 0).cls=c):0<eB L 0 c:=by
 have:isC L 0 c=true:=by
  unfold isC ptC at *
  cases hp:L[0]? with
  | none=>have:=List.getElem?_eq_none_iff.1 hp;omega
  | some p=>rw[hp]at hc;simpa using hc
 have:=(I8 this).1;omega
theorem aAv {L:List Pt} (h:0<L.length) (hc:(ptC L 0).cls=3\/(ptC L 0).cls=4):0<spN L 0:=by
 have:spC L 0=true:=by
  unfold spC ptC at *
  cases hp:L[0]? with
  | none=>have:=List.getElem?_eq_none_iff.1 hp;omega
  | some p=>rw[hp]at hc;simpa[uZ]using hc
 have:=(T3 this).1;omega
theorem nsN_pos {L:List Pt} (h:0<L.length) (hc:spC L 0=false):0<nsN L 0:=by
 have:=aAC h hc;omega
theorem pM {L:List Pt} {c:Int} (h:0<L.length) (hc:(ptC L 0).cls=c):0<gB L c:=by
 unfold gB;split
 ·omega
 ·exact P0 h hc
theorem cutF_pos {kind:Int} {L:List Pt} (h:0<L.length) (hg:∀p∈L,Q5 p):1<=(lH kind L).1:=by
 have h0:Q5 (ptC L 0):=by
  unfold ptC;rw[List.getElem?_eq_getElem h];exact hg _ (List.getElem_mem h)
 obtain⟨_,_,g1,g2⟩:=h0;unfold lH;split
 ·unfold N6
  cases hs:spC L 0 with
  | true=>have:=(T3 hs).1;simp only;omega
  | false=>
   have e:=spN_no hs;rw[e];have:=nsN_pos h hs;simp only;omega
 ·split
  ·unfold aJ
   repeat' split
   all_goals first
    | (simp only;omega)
    | skip
   next h1 h2 h3 h4=>
    refine N8 (aAv h ?_);have a1:(ptC L 0).cls≠1:=fun e=>h2 (pM h e)
    have a2:(ptC L 0).cls≠2:=fun e=>h3 (pM h e)
    have a0:(ptC L 0).cls≠0:=fun e=>h4 (pM h e)
    omega
  ·unfold N7
   repeat' split
   all_goals first
    | (simp only;omega)
    | skip
   next h1 h2 h3 h4 h5 h6=>
    refine N8 (aAv h ?_);have a1:(ptC L 0).cls≠1:=fun e=>h2 (P0 h e)
    have a2:(ptC L 0).cls≠2:=fun e=>h4 (P0 h e)
    have a0:(ptC L 0).cls≠0:=fun e=>h5 (pM h e)
    omega
theorem uH {kind:Int} {t:List Rg} (ht:mA t) {b:List Int} (hb:∀x∈b,0<=x/\x<256) (h0:b≠[]) (final:Bool):1<=(bB kind t b final).1/\(bB kind t b final).1<=b.length:=by
 have hl:=List.length_pos_iff.2 h0;unfold bB;split
 ·simp only;omega
 ·have hp:=pts_pos (t:=t) h0;have h1:=cutF_pos (kind:=kind) hp (pts_good ht hb);have h2:=wM kind (pts t b);have h3:=aF (t:=t) b (lH kind (pts t b)).1;simp only;omega
theorem nO (kind:Int) (t:List Rg) (b:List Int):(bB kind t b true).2=true:=by
 unfold bB;split<;>simp
def isB (x:Int):Bool:=decide (0<=x) && decide (x<256)
theorem eD {x:Int}:isB x=true↔0<=x/\x<256:=by simp[isB]
def oB (text:List Int):List Int:=text.takeWhile isB
theorem T6 {text:List Int}:∀x∈oB text,0<=x/\x<256:=by
 induction text with
 | nil=>intro x hx;simp[oB]at hx
 | cons c l ih=>
  intro x hx;unfold oB at hx ih;rw[List.takeWhile_cons]at hx;split at hx
  ·next hc=>
   rcases List.mem_cons.1 hx with rfl | h
   ·exact eD.1 hc
   ·exact ih x h
  ·simp at hx
theorem runOf_le (text:List Int):(oB text).length<=text.length:=(List.takeWhile_prefix isB).length_le
def nB (kind:Int) (t:List Rg) (final:Bool):Nat->List Int->Bool->List (Int×Bool)
 | 0,_,_=>[]
 | k+1,text,op=>if text= []then []
  else if oB text= []then(1,true)::nB kind t final k (text.drop 1) op
  else((bB kind t (oB text) (final || decide ((oB text).length<text.length))).1,!(op || !(bB kind t (oB text) (final || decide ((oB text).length<text.length))).2)) ::
   nB kind t final k (text.drop (bB kind t (oB text) (final || decide ((oB text).length<text.length))).1.toNat) (op || !(bB kind t (oB text) (final || decide ((oB text).length<text.length))).2)
def F4 (kind:Int) (t:List Rg) (text:List Int) (final:Bool):List (Int×Bool):=nB kind t final text.length text false
section
variable {kind:Int} {t:List Rg} {final:Bool}
theorem eF (k:Nat) (op:Bool):nB kind t final k [] op= []:=by cases k<;>simp[nB]
theorem H6 (ht:mA t):∀{k j:Nat} {text:List Int} {op:Bool},text.length<=k->text.length<=j->nB kind t final k text op=nB kind t final j text op
 | 0,j,text,op,h,_=>by
  have:text= []:=List.eq_nil_of_length_eq_zero (by omega);subst this;rw[eF,eF]
 | k+1,0,text,op,_,h=>by
  have:text= []:=List.eq_nil_of_length_eq_zero (by omega);subst this;rw[eF,eF]
 | k+1,j+1,text,op,h1,h2=>by
  simp only[nB]
  by_cases h0:text= []
  ·rw[if_pos h0,if_pos h0]
  ·have hl:=List.length_pos_iff.2 h0;rw[if_neg h0,if_neg h0]
   by_cases hr:oB text= []
   ·rw[if_pos hr,if_pos hr,H6 ht (k:=k) (j:=j) (text:=text.drop 1) (by simp only[List.length_drop];omega) (by simp only[List.length_drop];omega)]
   ·rw[if_neg hr,if_neg hr];have hn:=uH (kind:=kind) ht T6 hr (final || decide ((oB text).length<text.length));rw[H6 ht (k:=k) (j:=j) (text:=text.drop _) (by simp only[List.length_drop];omega) (by simp only[List.length_drop];omega)]
theorem H8 {k:Nat} {m:Int} {l:List Int} {op:Bool} (hm:isB m=false):nB kind t final (k+1) (m::l) op=(1,true)::nB kind t final k l op:=by
 simp only[nB];rw[if_neg (by simp),if_pos (by simp[oB,hm])];rfl
theorem I6 {k:Nat} {text:List Int} {op:Bool} (hr:oB text≠[]) {n:Int} {d:Bool} (hn:bB kind t (oB text) (final || decide ((oB text).length<text.length))=(n,d)):
  nB kind t final (k+1) text op=(n,!(op || !d))::nB kind t final k (text.drop n.toNat) (op || !d):=by
 have h0:text≠[]:=fun e=>hr (by rw[e];rfl)
 simp only[nB];rw[if_neg h0,if_neg hr,hn]
def fC (run:List Int):List Int->List (List Int×Bool)
 | []=>[(run,false)]
 | s::l=>if isB s then fC (run++ [s]) l else(run,true)::fC [] l
def nA (kind:Int) (t:List Rg) (final:Bool):Nat->List Int->Bool->List (Int×Bool)×Bool
 | 0,_,sure=>([],sure)
 | k+1,run,sure=>if run= []then([],sure)else
  (((bB kind t run final).1,sure && (bB kind t run final).2)::(nA kind t final k (run.drop (bB kind t run final).1.toNat) (sure && (bB kind t run final).2)).1,
   (nA kind t final k (run.drop (bB kind t run final).1.toNat) (sure && (bB kind t run final).2)).2)
def zD (kind:Int) (t:List Rg) (final:Bool) (st:List (Int×Bool)×Bool) (r:List Int×Bool):List (Int×Bool)×Bool:=
 (st.1++(nA kind t (r.2 || final) r.1.length r.1 st.2).1++(if r.2=true then [(1,(nA kind t (r.2 || final) r.1.length r.1 st.2).2)]else []),(nA kind t (r.2 || final) r.1.length r.1 st.2).2)
theorem V2 {run:List Int} (h:∀x∈run,0<=x/\x<256):oB run=run:=by
 have:=List.takeWhile_append_of_pos (p:=isB) (l₁:=run) (l₂:=[]) (fun x hx=>eD.2 (h x hx));simpa[oB]using this
theorem Y4 {run l:List Int} {m:Int} (h:∀x∈run,0<=x/\x<256) (hm:isB m=false):oB (run++m::l)=run:=by
 unfold oB;rw[List.takeWhile_append_of_pos (fun x hx=>eD.2 (h x hx))];simp[hm]
theorem tP (ht:mA t):∀{k:Nat} {run:List Int} {op:Bool},run.length<=k->(∀x∈run,0<=x/\x<256)->nB kind t final k run op=(nA kind t final k run (!op)).1
 | 0,run,op,h,_=>by simp[nB,nA]
 | k+1,run,op,h,hb=>by
  by_cases h0:run= []
  ·subst h0;simp[nB,nA]
  ·have hr:=V2 hb;have hn:=uH (kind:=kind) ht hb h0 final;rw[I6 (n:=(bB kind t run final).1) (d:=(bB kind t run final).2) (by rw[hr];exact h0) (by rw[hr];simp)];simp only[nA];rw[if_neg h0];have ih:=tP ht (k:=k) (run:=run.drop (bB kind t run final).1.toNat) (op:=op || !(bB kind t run final).2) (by simp only[List.length_drop];omega) (fun x hx=>hb x (List.mem_of_mem_drop hx));rw[ih];have e:(!(op || !(bB kind t run final).2))=(!op && (bB kind t run final).2):=by cases op<;>cases (bB kind t run final).2<;>rfl
   rw[e]
theorem dM:∀{k:Nat} {run:List Int},(nA kind t true k run true).2=true
 | 0,run=>rfl
 | k+1,run=>by
  simp only[nA];split
  ·rfl
  ·rw[nO];exact dM
theorem pS (ht:mA t) {m:Int} (hm:isB m=false) (l:List Int):∀{k:Nat} {run:List Int},run.length<=k->(∀x∈run,0<=x/\x<256)->
  nB kind t final (k+1+l.length) (run++m::l) false=(nA kind t true k run true).1++(1,true)::nB kind t final l.length l false
 | 0,run,h,_=>by
  have:run= []:=List.eq_nil_of_length_eq_zero (by omega);subst this;rw[show 0+1+l.length=l.length+1 by omega];simp only[List.nil_append,nA];exact H8 hm
 | k+1,run,h,hb=>by
  by_cases h0:run= []
  ·subst h0;simp only[List.nil_append,nA,if_true];rw[show k+1+1+l.length=(k+1+l.length)+1 by omega,H8 hm,H6 ht (k:=k+1+l.length) (j:=l.length) (by omega) (Nat.le_refl _)]
  ·have hr:=Y4 (l:=l) hb hm;have hn:=uH (kind:=kind) ht hb h0 true;have hf:=nO kind t run;have hlt:(decide (run.length<(run++m::l).length))=true:=by simp
   rw[show k+1+1+l.length=(k+1+l.length)+1 by omega];rw[I6 (n:=(bB kind t run true).1) (d:=true) (by rw[hr];exact h0) (by rw[hr,hlt,Bool.or_true];exact Prod.ext rfl hf)];simp only[nA];rw[if_neg h0,hf];have e:(run++m::l).drop (bB kind t run true).1.toNat=run.drop (bB kind t run true).1.toNat++m::l:=List.drop_append_of_le_length (by omega);have ih:=pS ht hm l (k:=k) (run:=run.drop (bB kind t run true).1.toNat) (by simp only[List.length_drop];omega) (fun x hx=>hb x (List.mem_of_mem_drop hx));simp only[Bool.or_false,Bool.not_true,Bool.not_false,Bool.and_true,List.cons_append];rw[e,ih]
theorem iO (ht:mA t):∀{k j:Nat} {run:List Int} {sure:Bool},run.length<=k->run.length<=j->(∀x∈run,0<=x/\x<256)->nA kind t final k run sure=nA kind t final j run sure
 | 0,0,run,sure,_,_,_=>rfl
 | 0,j+1,run,sure,h,_,_=>by
  have:run= []:=List.eq_nil_of_length_eq_zero (by omega);subst this;simp[nA]
 | k+1,0,run,sure,_,h,_=>by
  have:run= []:=List.eq_nil_of_length_eq_zero (by omega);subst this;simp[nA]
 | k+1,j+1,run,sure,h1,h2,hb=>by
  simp only[nA]
  by_cases h0:run= []
  ·rw[if_pos h0,if_pos h0]
  ·rw[if_neg h0,if_neg h0];have hn:=uH (kind:=kind) ht hb h0 final;rw[iO ht (k:=k) (j:=j) (run:=run.drop (bB kind t run final).1.toNat) (by simp only[List.length_drop];omega) (by simp only[List.length_drop];omega) (fun x hx=>hb x (List.mem_of_mem_drop hx))]
theorem fL (ht:mA t):∀{text run:List Int} {acc:List (Int×Bool)},(∀x∈run,0<=x/\x<256)->
  ((fC run text).foldl (zD kind t final) (acc,true)).1=acc++F4 kind t (run++text) final
 | [],run,acc,hb=>by
  simp only[fC,List.foldl_cons,List.foldl_nil,zD,Bool.false_or,Bool.false_eq_true,if_false,List.append_nil,F4];rw[tP ht (Nat.le_refl _) hb];simp
 | s::l,run,acc,hb=>by
  simp only[fC]
  cases hs:isB s with
  | true=>
   simp only[if_true];rw[fL ht (text:=l) (run:=run++ [s]) (fun x hx=>by
    rcases List.mem_append.1 hx with h | h
    ·exact hb x h
    ·simp at h;subst h;exact eD.1 hs)]
   simp
  | false=>
   simp only[Bool.false_eq_true,if_false,List.foldl_cons];have hp:=dM (kind:=kind) (t:=t) (k:=run.length) (run:=run);have e:zD kind t final (acc,true) (run,true)=(acc++(nA kind t true run.length run true).1++ [(1,true)],true):=by
    simp only[zD,Bool.true_or,if_true,hp]
   rw[e,fL ht (text:=l) (run:=[]) (by simp)];have h2:=pS (kind:=kind) (t:=t) (final:=final) ht hs l (k:=run.length) (run:=run) (Nat.le_refl _) hb;unfold F4;rw[show(run++s::l).length=run.length+1+l.length by simp;omega,h2];simp
end
def jH (V:Vc) (N:List ByteArray) (s:Int):Int:=ix (aC V.specials N) (s-256).toNat
def sB (V:Vc) (N:List ByteArray) (s:Int):Int:=if s<0\/256+(N.length:Int)<=s then 1 else if 256<=s/\jH V N s<0 then 4 else 0
def vA (V:Vc) (N:List ByteArray):List Int->Int
 | []=>0
 | s::l=>if sB V N s=0 then vA V N l else sB V N s
theorem zX {V:Vc} {N:List ByteArray} {A:List Int} {k:Nat} (hk:k<A.length):vA V N (A.drop k)=if sB V N (ix A k)=0 then vA V N (A.drop (k+1))else sB V N (ix A k):=by
 rw[List.drop_eq_getElem_cons hk];have:A[k]=ix A k:=by simp[ix,List.getD,hk]
 rw[this];rfl
theorem C7 {V:Vc} {N:List ByteArray}:∀{A:List Int},vA V N A=0↔∀s∈A,sB V N s=0
 | []=>by simp[vA]
 | s::l=>by
  unfold vA
  by_cases h:sB V N s=0
  ·rw[if_pos h,C7];simp[h]
  ·rw[if_neg h];simp[h]
noncomputable def oD (V:Vc) (N:List ByteArray) (A:List Int):List Int:=
 if vA V N A≠0\/A= []then []else if A.length=1/\256<=ix A 0 then [jH V N (ix A 0)]else if A.all isB=true then vH V A else []
noncomputable def tG (V:Vc) (N:List ByteArray):List (Int×Bool)->List Int->List Int
 | [],_=>[]
 | p::ps,A=>oD V N (A.take p.1.toNat)++tG V N ps (A.drop p.1.toNat)
noncomputable def kV (V:Vc) (N:List ByteArray) (kind:Int) (T:List Rg) (A:List Int):List Int:=tG V N (F4 kind T A true) A
open Go.ChangeShapes Go.WideShapes Go.ChangeAt Go.RowKit Go.Joins Go.Deep
theorem V8:∃f0 f1 f2:Field,Tryz.prog.underlying 119=some (.struct #[f0,f1,f2])/\f0.type=3/\f1.type=3/\f2.type=3/\oneCellFields Tryz.prog #[f0,f1,f2]=true:=
 ⟨_,_,_,Tryz.underlying119,rfl,rfl,rfl,by kernel_rfl⟩
theorem aAY:Tryz.prog.cellsOf 119=3:=by kernel_rfl
theorem aBj:∃f0 f1 f2:Field,Tryz.prog.underlying 26=some (.struct #[f0,f1,f2])/\(f0.type=22/\f0.offset=0)/\(f1.type=23/\f1.offset=1)/\(f2.type=24/\f2.offset=2):=
 ⟨_,_,_,Tryz.underlying26,⟨rfl,rfl⟩,⟨rfl,rfl⟩,⟨rfl,rfl⟩⟩
theorem aBQ:∃f0 f1 f2 f3 f4:Field,Tryz.prog.underlying 29=some (.struct #[f0,f1,f2,f3,f4])/\(f0.type=26/\f0.offset=0)/\(f1.type=22/\f1.offset=3)/\(f2.type=3/\f2.offset=4)/\(f3.type=27/\f3.offset=5)/\(f4.type=3/\f4.offset=6):=
 ⟨_,_,_,_,_,Tryz.underlying29,⟨rfl,rfl⟩,⟨rfl,rfl⟩,⟨rfl,rfl⟩,⟨rfl,rfl⟩,⟨rfl,rfl⟩⟩
theorem cellsKit:Tryz.prog.cellsOf 29=7:=by kernel_rfl
theorem X1:Tryz.prog.cellsOf 22=1:=by kernel_rfl
theorem cellsSlM:Tryz.prog.cellsOf 23=1:=by kernel_rfl
theorem cellsSlP:Tryz.prog.cellsOf 24=1:=by kernel_rfl
theorem cellsSlR:Tryz.prog.cellsOf 27=1:=by kernel_rfl
theorem cellsI:Tryz.prog.cellsOf 3=1:=by kernel_rfl
section
variable {H:Type} {enc:TypeId×Value->H} {W:World} {held:Bool}
theorem V7 {fuel:Nat} {v:Value} {y:DataW H×List MemPlace} (h:DataW.trod enc Tryz.prog W 0 (fun _=>true) held fuel 27 [v]=some y):
  ∃ao n c T,v= .slice ao n c/\SlF 3 W ao n c (flat Rg.enc T):=by
 obtain⟨f0,f1,f2,hu,e0,e1,e2,hone⟩:=V8;rcases mE Tryz.underlying27 hu hone (by rw[aAY];rfl) h with⟨hcs,_⟩ | ⟨a,len,cap,m,D,Pl,hcs,_,hl,hm,hmm,_,hrow⟩
 ·simp at hcs;subst hcs;exact⟨_,_,_,[],rfl,SlF.nothing _⟩
 ·simp at hcs;subst hcs;simp at hmm;subst hmm;obtain⟨M,hM,_⟩:=T4 (enc:=Rg.enc) (s:=3) (n:=len) (cap:=m) (w:=W) (a:=a) (R:=fun _=>True) Rg.enc_len (by omega) hl hm (by
   intro i hi;obtain⟨ys,n',_,_,_,hf⟩:=hrow i (by omega);obtain⟨u0,y0,c0,_,t0⟩:=hf 0 f0 rfl;obtain⟨u1,y1,c1,_,t1⟩:=hf 1 f1 rfl;obtain⟨u2,y2,c2,_,t2⟩:=hf 2 f2 rfl;rw[e0]at t0;rw[e1]at t1;rw[e2]at t2;obtain⟨z0,ez0,_,_⟩:=DataW.trod_int Tryz.underlying3 t0;obtain⟨z1,ez1,_,_⟩:=DataW.trod_int Tryz.underlying3 t1;obtain⟨z2,ez2,_,_⟩:=DataW.trod_int Tryz.underlying3 t2;simp at ez0 ez1 ez2;subst ez0 ez1 ez2;refine⟨⟨z0,z1,z2⟩,fun j u hu=> ?_,trivial⟩
   match j,hu with
   | 0,hu=>simp[Rg.enc]at hu;subst hu;exact c0
   | 1,hu=>simp[Rg.enc]at hu;subst hu;exact c1
   | 2,hu=>simp[Rg.enc]at hu;subst hu;exact c2
   | j+3,hu=>simp[Rg.enc]at hu)
  exact⟨_,_,_,M,rfl,hM⟩
theorem array7 {α:Type} {cs:Array α} (h:cs.size=7):∃c0 c1 c2 c3 c4 c5 c6,cs= #[c0,c1,c2,c3,c4,c5,c6]:=by
 obtain⟨l⟩:=cs
 match l,h with
 | [c0,c1,c2,c3,c4,c5,c6],_=>exact⟨c0,c1,c2,c3,c4,c5,c6,rfl⟩
theorem kit_open {v:Value} {d:DataW H} {p:List MemPlace} {r:Reach} {b0:Nat}
  (hv:Value.okWide Tryz.prog W r b0 29 v) (h:DataW.Trod enc Tryz.prog W 0 (fun _=>true) held 29 v d p):
  ∃(dd:Vd) (V:Vc) (no:Option Addr) (nn nc:Nat) (N:List ByteArray) (kind:Int) (to_:Option Addr) (tn tc:Nat) (T:List Rg) (room:Int),
   v= .agg #[.slice dd.ta dd.tn dd.tc, .slice dd.ma dd.mn dd.mc, .slice dd.sa dd.sn dd.sc, .slice no nn nc, .int .i64 kind, .slice to_ tn tc, .int .i64 room]/\
   eE W dd V/\(∀s∈V.tokens,s.size<=maxLen)/\(∀s∈V.specials,s.name.size<=maxLen)/\(SlS W no nn nc N/\∀s∈N,s.size<=maxLen)/\SlF 3 W to_ tn tc (flat Rg.enc T):=by
 obtain⟨f0,f1,f2,f3,f4,hk,⟨a0,b0'⟩,⟨a1,b1⟩,⟨a2,b2⟩,⟨a3,b3⟩,⟨a4,b4⟩⟩:=aBQ;obtain⟨g0,g1,g2,hg,⟨x0,y0⟩,⟨x1,y1⟩,⟨x2,y2⟩⟩:=aBj;obtain⟨cs,rfl,hsz⟩:=okWide_struct hk hv;rw[cellsKit]at hsz;obtain⟨c0,c1,c2,c3,c4,c5,c6,rfl⟩:=array7 hsz;obtain⟨fuel,hf⟩:=h;have hcells:(Value.cells (.agg #[c0,c1,c2,c3,c4,c5,c6])).toList= [c0,c1,c2,c3,c4,c5,c6]:=by simp[Value.cells]
 rw[hcells]at hf;obtain⟨xs,n,_,_,_,hxl,hfs⟩:=DataW.trod_struct hk hf
 match xs,hxl,hfs with
 | [z0,z1,z2,z3,z4],_,hfs=>
  have t0:=hfs 0 f0 rfl;have t1:=hfs 1 f1 rfl;have t2:=hfs 2 f2 rfl;have t3:=hfs 3 f3 rfl;have t4:=hfs 4 f4 rfl;rw[a0,b0',cellsVoc]at t0;rw[a1,b1,X1]at t1;rw[a2,b2,cellsI]at t2;rw[a3,b3,cellsSlR]at t3;rw[a4,b4,cellsI]at t4;simp only[List.drop_zero,List.take_succ_cons,List.take_zero,List.drop_succ_cons,List.getElem?_cons_zero,List.getElem?_cons_succ]at t0 t1 t2 t3 t4;obtain⟨ys,m,_,_,_,hyl,hgs⟩:=DataW.trod_struct hg t0
  match ys,hyl,hgs with
  | [q0,q1,q2],_,hgs=>
   have r0:=hgs 0 g0 rfl;have r1:=hgs 1 g1 rfl;have r2:=hgs 2 g2 rfl;rw[x0,y0,X1]at r0;rw[x1,y1,cellsSlM]at r1;rw[x2,y2,cellsSlP]at r2;simp only[List.drop_zero,List.take_succ_cons,List.take_zero,List.drop_succ_cons,List.getElem?_cons_zero,List.getElem?_cons_succ]at r0 r1 r2;obtain⟨ta,tn',tc',T',rfl,hT,hsT⟩:=dO r0;obtain⟨ma,mn,mc,M,rfl,hM⟩:=nW r1;obtain⟨sa,sn,sc,S,rfl,hS,hsS⟩:=qV r2;obtain⟨no,nn,nc,N,rfl,hN,hsN⟩:=dO t1;obtain⟨k,ek,_,_⟩:=DataW.trod_int Tryz.underlying3 t2;obtain⟨to_,tn,tc,T,rfl,hR⟩:=V7 t3;obtain⟨ro,er,_,_⟩:=DataW.trod_int Tryz.underlying3 t4;simp only[List.cons.injEq,and_true]at ek er;subst ek er;exact⟨⟨ta,tn',tc',ma,mn,mc,sa,sn,sc⟩,⟨T',M,S⟩,no,nn,nc,N,k,to_,tn,tc,T,ro,rfl,⟨hT,hM,hS⟩,hsT,hsS,⟨hN,hsN⟩,hR⟩
end
end Go.Proofs.YtjlokfejnijokaaGreatDoor
