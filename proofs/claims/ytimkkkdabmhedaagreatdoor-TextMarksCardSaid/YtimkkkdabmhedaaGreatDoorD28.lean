/- Walk: encode.Coder.Encode. -/
import Derived.Test.YtimkkkdabmhedaaGreatDoorD27
import Derived.Test.YtimkkkdabmhedaaGreatDoorD19
import Derived.Test.YtimkkkdabmhedaaGreatDoorD1
import Derived.Test.YtimkkkdabmhedaaGreatDoorProg
import Derived.RangeFuncNested
import Derived.RangeFuncBound
import Derived.RangeFuncCalls
import Derived.RangeFuncLeaves
import Derived.Shelf.Abstract
import Derived.Shelf.RegionOpen
import Derived.WalkKit
import Derived.OwnWalkIn
import Derived.TacticsInMore
import Derived.LoopNIn
import Derived.LoopIn
import Derived.Test.YtimkkkdabmhedaaGreatDoorD15
set_option linter.unusedVariables false
set_option maxHeartbeats 4000000
set_option maxRecDepth 100000
namespace Go.Proofs.YtimkkkdabmhedaaGreatDoor
open Go.RowKit Go.ChangeMaps
def lfR (n:Nat):List Int:=(List.range n).map (fun(i:Nat)=>(i:Int)-1)
def rtR (n:Nat):List Int:=(List.range n).map (fun(i:Nat)=>(i:Int)+1)
theorem lfR_len (n:Nat):(lfR n).length=n:=by simp[lfR]
theorem rtR_len (n:Nat):(rtR n).length=n:=by simp[rtR]
theorem lfR_take {n k:Nat} (h:k<n):(lfR n).take k++ [(k:Int)-1]=(lfR n).take (k+1):=by
 rw[←take_snoc (by rw[lfR_len];exact h)]
 congr 2
 simp[ix,lfR,List.getD,h]
theorem rtR_take {n k:Nat} (h:k<n):(rtR n).take k++ [(k:Int)+1]=(rtR n).take (k+1):=by
 rw[←take_snoc (by rw[rtR_len];exact h)]
 congr 2
 simp[ix,rtR,List.getD,h]
theorem rowOf_take {V:Vc} {B:List Int} {k yn:Nat} (h:B[k]?=some (yn:Int)):(rowOf V B).take k++ [ofT V.tokens (one yn)]=(rowOf V B).take (k+1):=by
 have hk:=(List.getElem?_eq_some_iff.1 h).1
 rw[←take_snoc (by rw[rowOf_len];exact hk)]
 congr 2
 have h2:=(List.getElem?_eq_some_iff.1 h).2
 simp[ix,rowOf,List.getD,hk,h2]
theorem encode_some {V:Vc} {eb eg:Nat} {B:List Int} {ao:Option Addr} {n c:Nat} (w:World) (hE:ECod w eb eg V) (hM:May V) (hS:SlB w ao n c B) (hby:∀y∈B,0≤y∧y<256) (hn0:0<n) (hn:n≤100000):
  Calls Tryz.prog 91 #[.pointer (some ⟨eg,0,none⟩), .slice ao n c] w fun e w'=>∃v,e= .returned v∧Own w' w.heap.size v (encF V B)∧Below w.heap.size w w':=by
 obtain⟨lo,cs,to_,tcc,pg,hx,hcs,hto,hpt⟩:=hE
 have hBn:=hS.len
 have hel:eg<w.heap.size:=(Array.getElem?_eq_some_iff.1 hx).1
 have c1:w.cell? ⟨eg,1,none⟩=some (.pointer (some ⟨pg,0,none⟩)):=by simp[World.cell?,hx,hcs.2.2.1]
 have G1:=fun w' (hg:Ge w w')=>hg.at w w' c1
 have gr:=Ge.refl w
 have HN:Hid (∀W,Ge w W→Calls Tryz.prog 121 #[] W fun e w'=>∃g mb,e= .returned (.pointer (some ⟨g,0,none⟩))∧Ge w w'∧AgV w' w.heap.size g mb (.slice none 0 0) []):=Lib.hid (fun W hW=>(aNew_calls W).mono (by
  rintro e w' ⟨g,mb,rfl,h1,h2,_⟩
  exact⟨g,mb,rfl,hW.below h2,h1.mono hW.size⟩))
 have HCS:=Lib.hid hcs
 have HX:=Lib.hid hx
 have HS:=Lib.hid hS
 have HPT:=Lib.hid hpt
 have HBN:=Lib.hid hBn
 have HBY:=Lib.hid hby
 have HM:=Lib.hid hM
 have gn0:¬(n:Int)=0:=by omega
 have gn1:((n:Int)==0)=false:=by simpa using gn0
 have HEL:=Lib.hid hel
 clear hx hcs hto hpt hS hBn hby hM hel
 go_enter Tryz.func91,Tryz.ntmps91
 go_wp2_with (fail)
 refine viaP ?keyP ?keyF ?keyH
 case keyF=>
  intro key
  go_region_held3 (Ge w) (first | (with_reducible assumption) | (with_reducible refine Ge.drew ?_;with_reducible assumption) | (with_reducible refine Ge.alloc ?_ _;with_reducible assumption) | (with_reducible refine Ge.alloc (Ge.drew ?_) _;with_reducible assumption) | (with_reducible refine Ge.drew (Ge.alloc ?_ _);with_reducible assumption) | (with_reducible refine Ge.set4 ?_ (Nat.le_refl _) _ _ _ _ _ _ _ _;with_reducible assumption) | (with_reducible refine Ge.set4 (Ge.drew ?_) (Nat.le_refl _) _ _ _ _ _ _ _ _;with_reducible assumption) | (with_reducible refine Ge.drew (Ge.set4 ?_ (Nat.le_refl _) _ _ _ _ _ _ _ _);with_reducible assumption) | (with_reducible refine Ge.drewN ?_ _;with_reducible assumption)) ((go_at_call 121;refine(HN.out _ (by exact below_drewN (Below.refl _ _) _)).mono ?_;rintro e w1 ⟨g,mb,rfl,hg1,ha1⟩;have HA1:=Lib.hid ha1;clear ha1))
  all_goals(revert w1 g mb;exact key.out)
 intro w1 g mb hg1 HA1 hW
 obtain⟨W1,hW1⟩:∃W1,w1.alloc (.cells #[.slice none 0 0, .slice none 0 0, .slice none 0 0, .func (.func 120) #[.pointer (some ⟨pg,0,none⟩)] #[], .pointer (some ⟨g,0,none⟩)] 183)=W1:=⟨_,rfl⟩
 have hbx:=heap_alloc_new w1 (.cells #[.slice none 0 0, .slice none 0 0, .slice none 0 0, .func (.func 120) #[.pointer (some ⟨pg,0,none⟩)] #[], .pointer (some ⟨g,0,none⟩)] 183)
 have hA2:=HA1.out.below (below_alloc w1 (.cells #[.slice none 0 0, .slice none 0 0, .slice none 0 0, .func (.func 120) #[.pointer (some ⟨pg,0,none⟩)] #[], .pointer (some ⟨g,0,none⟩)] 183))
 rw[hW1]at hbx hA2 hW ⊢
 obtain⟨kb,hkb⟩:∃kb,w1.heap.size=kb:=⟨_,rfl⟩
 have hgl:g<w1.heap.size:=(Array.getElem?_eq_some_iff.1 HA1.out.pile.box).1
 have hml:mb<w1.heap.size:=HA1.out.pile.at_.lt
 have hs1:w.heap.size≤w1.heap.size:=hg1.size
 rw[hkb]at hbx hgl hml hs1 ⊢
 have HBL:Hid (Bld W1 w.heap.size kb g mb pg (V3 (.slice none 0 0) (.slice none 0 0) (.slice none 0 0)) (V3 ([]:List Int) [] [])):=Lib.hid ⟨hbx,fun j hj=>by
  rcases(by omega:j=0∨j=1∨j=2)with rfl | rfl | rfl<;>exact Own.nil _ _,hA2,⟨hs1,hW.size⟩,fun j hj q hq=>by
  rcases(by omega:j=0∨j=1∨j=2)with rfl | rfl | rfl<;>simp[Value.ownBlock,V3]at hq,⟨by omega,by omega⟩⟩
 have HW1:=Lib.hid hW
 clear hW1 hbx hA2 hW hkb hgl hml hs1 hg1 HA1 G1 gr c1
 go_wp2_with (fail)
 go_loopw [30] (fun i wr=>∃(k:Nat) (v1 v2 v3:Value),k≤n∧i= .int .i64 k∧Hid (Bld wr w.heap.size kb g mb pg (V3 v1 v2 v3) (V3 ((rowOf V B).take k) ((lfR n).take k) ((rtR n).take k)))∧Hid (Below w.heap.size w wr)) (fun i _=>n-(intOf i).toNat)
 case atStart=>exact⟨0,_,_,_,Nat.zero_le _,rfl,HBL,Lib.hid HW1.out⟩
 case round=>
  obtain⟨k,v1,v2,v3,hk,rfl,HB,HBW⟩:=hrel
  by_cases hlt:k<n
  ·obtain⟨yn,hyn,hy⟩:∃yn:Nat,B[k]?=some (yn:Int)∧yn<256:=by
    have hkB:k<B.length:=by have:=HBN.out;omega
    have h1:=HBY.out _ (List.getElem_mem hkB)
    exact⟨B[k].toNat,by rw[List.getElem?_eq_getElem hkB];congr 1;omega,by omega⟩
   obtain⟨bb,bo,hao,hcb⟩:=Sl.at_ (Sl.below HS.out HBW.out) k (.int .u8 yn) (by rw[List.getElem?_map,hyn];rfl)
   subst hao
   have hxr:=(HBW.out.block eg HEL.out).trans HX.out
   have c1:wr.cell? ⟨eg,2+yn,none⟩=some (.int .i64 (ofT V.tokens (one yn))):=by
    have:=HCS.out.2.2.2 yn hy
    simp[World.cell?,hxr,this]
   have HAT:=Lib.hid (rowOf_take (V:=V) hyn)
   have hl1:((rowOf V B).take k).length=k:=by rw[List.length_take,rowOf_len];have:=HBN.out;omega
   have hl2:((lfR n).take k).length=k:=by rw[List.length_take,lfR_len];omega
   have hl3:((rtR n).take k).length=k:=by rw[List.length_take,rtR_len];omega
   have HL1:=Lib.hid hl1
   have HL2:=Lib.hid hl2
   have HL3:=Lib.hid hl3
   obtain⟨a,ha⟩:∃a,ofT V.tokens (one yn)=a:=⟨_,rfl⟩
   rw[ha]at c1 HAT
   obtain⟨b0,b1,b2,bf⟩:=HB.out.cells
   have HR1:Hid (Own wr w.heap.size v1 ((rowOf V B).take k)):=Lib.hid (HB.out.row 0 (by omega))
   have hkc:(2:Nat)+yn*1=2+yn:=by omega
   have gy:(yn:Int)<256:=by omega
   have gk:(k:Int)<(n:Int):=by omega
   have HLO:=Lib.hid HB.out.lo.2
   have e0:=cell_below (below_alloc wr (.cells #[.int .i64 a] 3)) _ _ b0
   clear hyn hxr hl1 hl2 hl3 ha
   go_wp2_with (fail)
   refine viaP ?keyQ ?keyG ?keyI
   case keyG=>
    intro key
    go_region_law (refine step_int_lies (by rfl) _ _ (by rfl) (base:=w.heap.size) (k:=k) (y:=a) (by rfl) (by exact World.ownsRow.alloc HR1.out _) HL1.out (by rfl) (by exact heap_alloc_new _ _) (by omega) (by simp;have:=HLO.out;omega) ?_;intro gg cap w2 ho2 hg2 hat2;obtain⟨k0,k1,k2,kf⟩:=HB.out.after (by exact belowA rfl rfl rfl rfl) 0 (by omega) hg2;have HST:=Lib.hid (HB.out.step0 (by exact belowA rfl rfl rfl rfl) ho2 hg2 hat2 HAT.out);clear ho2 hg2 hat2)
    all_goals(clear k0 k1 k2 kf;revert w2 gg cap;exact key.out)
   intro gg cap w2 HST
   have hs:=HST.out
   obtain⟨W2,hW2⟩:∃W2,w2.setCell ⟨kb,0,none⟩ (.slice (some ⟨gg,0,none⟩) (k+1) cap)=W2:=⟨_,rfl⟩
   rw[hW2]at hs
   have hs2:=hs.1
   have HB2:=Lib.hid hs2
   have HBW2:Hid (Below w.heap.size w W2):=Lib.hid (HBW.out.trans hs.2)
   rw[hW2]
   clear hs hs2 HST hW2 b0 b1 b2 bf e0 c1 hcb HB HR1
   obtain⟨b0,b1,b2,bf⟩:=HB2.out.cells
   have HR2:Hid (Own W2 w.heap.size v2 ((lfR n).take k)):=Lib.hid (HB2.out.row 1 (by omega))
   have HLO2:=Lib.hid HB2.out.lo.2
   have qs:IntKind.i64.wrap ((k:Int)-1)=(k:Int)-1:=by rw[IntKind.wrap_i64];omega
   have qp:IntKind.i64.wrap ((k:Int)+1)=(k:Int)+1:=by rw[IntKind.wrap_i64];omega
   go_wp2_with (first
    | (at_builtin;refine wpList_int_lies rfl _ _ rfl (base:=w.heap.size) (k:=k) (y:=(k:Int)-1) rfl (by exact World.ownsRow.alloc HR2.out _) HL2.out rfl (by exact heap_alloc_new _ _) (by omega) (by simp;have:=HLO2.out;omega) ?_;intro gg3 cap3 w3 ho3 hg3 hat3;obtain⟨k0,k1,k2,kf⟩:=HB2.out.after (by exact belowA rfl rfl rfl rfl) 1 (by omega) hg3;have HST3:=Lib.hid (HB2.out.step1 (by exact belowA rfl rfl rfl rfl) ho3 hg3 hat3 (lfR_take hlt));clear ho3 hg3 hat3)
    | (at_builtin;refine wpList_int_lies rfl _ _ rfl (base:=w.heap.size) (k:=k) (y:=(k:Int)+1) rfl (by exact World.ownsRow.alloc (HST3.out.1.row 2 (by omega)) _) HL3.out rfl (by exact alloc_at (by simp)) (by omega) (by have:=HST3.out.1.lo.2;simp at this ⊢;omega) ?_;intro gg4 cap4 w4 ho4 hg4 hat4;obtain⟨m0,m1,m2,mf⟩:=HST3.out.1.after (by exact belowA rfl rfl rfl rfl) 2 (by omega) hg4;have HST4:=Lib.hid (HST3.out.1.step2 (by exact belowA rfl rfl rfl rfl) ho4 hg4 hat4 (rtR_take hlt));clear ho4 hg4 hat4))
   go_roundw
   case rel=>exact⟨k+1,_,_,_,by omega,by go_num,Lib.hid HST4.out.1,Lib.hid ((HBW2.out.trans HST3.out.2).trans HST4.out.2)⟩
   case measure=>simp[intOf];omega
  ·obtain rfl:k=n:=by omega
   have hRl:(rowOf V B).length=k:=by rw[rowOf_len];exact HBN.out
   have hbl:=HB.out
   rw[List.take_of_length_le (Nat.le_of_eq hRl),List.take_of_length_le (Nat.le_of_eq (lfR_len k)),List.take_of_length_le (Nat.le_of_eq (rtR_len k))]at hbl
   obtain⟨rb,lb,tb,rc,lc,tc,rfl,hch⟩:=hbl.chain hn0 hRl (lfR_len k) (rtR_len k)
   obtain⟨m,hm⟩:∃m,k=m+1:=⟨k-1,by omega⟩
   have qm:(k:Int)-1=(m:Int):=by omega
   have qw:IntKind.i64.wrap ((k:Int)-1)=(m:Int):=by rw[IntKind.wrap_i64];omega
   have gm:(m:Int)<(k:Int):=by omega
   have gm0:(0:Int)≤(m:Int):=by omega
   obtain⟨b0,b1,b2,b3,b4⟩:=hch.cells
   obtain⟨y0,hy0⟩:∃y0,(rtR k)[m]?=some y0:=⟨_,List.getElem?_eq_getElem (by rw[rtR_len];omega)⟩
   have t0:=hch.right.cell hy0
   have tf:=hch.right.frozen
   simp only at b0 b1 b2 b3 b4 t0 tf
   have HCH:=Lib.hid hch
   have HRL:=Lib.hid hRl
   have HMM:=Lib.hid hm
   clear hbl hch hy0 hRl HBL HB hm
   go_wp2_with (fail)
   obtain⟨W5,hW5⟩:∃W5,wr.setCell ⟨tb,m,none⟩ (.int .i64 (-1))=W5:=⟨_,rfl⟩
   have HC5:Hid (ChV W5 ⟨w.heap.size,k,kb,g,mb,rb,lb,tb,rc,lc,tc,pg⟩ (.slice none 0 0) (rowOf V B) (lfR k) ((rtR k).set m (-1)) []):=Lib.hid (hW5▸HCH.out.setRight m (-1))
   have HB5:Hid (Below w.heap.size w W5):=Lib.hid (hW5▸Below.setCell HBW.out (by show w.heap.size≤tb;exact HCH.out.right.lt.1) _)
   have HLK:Hid (Lnk k (chOf (rowOf V B)) (rowOf V B) (lfR k) ((rtR k).set m (-1))):=Lib.hid (by
    have:=lnk_start (R:=rowOf V B) (by rw[HRL.out];exact hn0) (lfR k) ((rtR k).set m (-1)) (by rw[HRL.out];rfl) (by rw[HRL.out,show k-1=m by have:=HMM.out;omega];rfl)
    rw[HRL.out]at this
    exact this)
   have HWF:Hid (WfR (rowOf V B)):=Lib.hid (fun y hy=>by
    obtain⟨z,_,rfl⟩:=List.mem_map.1 hy
    exact ofT_wf HM.out.1.1 _)
   have HTB:Hid (Tb w ⟨w.heap.size,k,kb,g,mb,rb,lb,tb,rc,lc,tc,pg⟩ V.merges):=Lib.hid ⟨⟨eb,HPT.out⟩,HM.out.2.1.2.2.imp (fun h=>h.2),HM.out.2.1.1,rfl⟩
   rw[hW5]
   clear hW5 b0 b1 b2 b3 b4 t0 tf
   go_wp2_with (fail)
   go_loopw [83] (fun i wr=>∃(j:Nat) (va:Value) (L:List Ent),j≤k∧i= .int .i64 j∧Hid (ChV wr ⟨w.heap.size,k,kb,g,mb,rb,lb,tb,rc,lc,tc,pg⟩ va (rowOf V B) (lfR k) ((rtR k).set m (-1)) L)∧Hid (∀x,agL L x=agK V.merges (chOf (rowOf V B)) j x)∧Hid (L.length≤j)∧Hid (Below w.heap.size w wr)) (fun i _=>k-(intOf i).toNat)
   case atStart=>exact⟨0,_,[],Nat.zero_le _,rfl,HC5,Lib.hid (fun x=>(agK_zero _ _ x).symm),Lib.hid (Nat.le_refl _),HB5⟩
   case round=>
    obtain⟨j,va,L,hj,rfl,HC,HA,HLL,HBJ⟩:=hrel
    by_cases hjk:j<k
    ·have hat:(chOf (rowOf V B))[j]?=some (j,(rowOf V B)[j]'(by rw[HRL.out];exact hjk)):=chOf_at (List.getElem?_eq_getElem _)
     have HLO:=Lib.hid (look_calls (c:=⟨w.heap.size,k,kb,g,mb,rb,lb,tb,rc,lc,tc,pg⟩) (C:=chOf (rowOf V B)) j j _ wr HTB.out HBJ.out HC.out (by simp only;omega) (by have:=HLL.out;omega) HLK.out HWF.out hat)
     clear hat
     go_wp2_with (fail)
     go_at_call 122
     refine HLO.out.mono ?_
     rintro e w7 ⟨rfl,v7,L7,hC7,hg7,hl7,hT7⟩
     have HC7:=Lib.hid hC7
     have HA7:Hid (∀x,agL L7 x=agK V.merges (chOf (rowOf V B)) (j+1) x):=Lib.hid (fun x=>by rw[hg7,agK_succ,HA.out])
     have HL7:Hid (L7.length≤j+1):=Lib.hid (by have:=HLL.out;omega)
     have HB7:Hid (Below w.heap.size w w7):=Lib.hid (HBJ.out.trans (trod_below HC.out.ag hT7 HC.out.base))
     clear hC7 hg7 hl7 hT7 HLO
     go_wp2_with (fail)
     go_roundw
     case rel=>exact⟨j+1,v7,L7,by omega,by go_num,HC7,HA7,HL7,HB7⟩
     case measure=>simp[intOf];omega
    ·obtain rfl:j=k:=by omega
     have HA5:Hid (∀x,agL L x=agI V.merges (chOf (rowOf V B)) x):=Lib.hid (fun x=>by rw[HA.out,agK_all HLK.out.lt])
     obtain⟨b0,b1,b2,b3,b4⟩:=HC.out.cells
     simp only at b0 b1 b2 b3 b4
     clear HA HC5 HB5 HBW HCH
     go_wp2_with (fail)
     go_at_call 123
     refine(aTake_any wr HC.out.ag).mono ?_
     rintro e w8 ⟨x,ok,v8,L8,rfl,hA8,hT8,hy8,hn8⟩
     have HA8:=Lib.hid hA8
     have HT8:=Lib.hid hT8
     have HY8:=Lib.hid hy8
     have HN8:=Lib.hid hn8
     clear hA8 hT8 hy8 hn8 b0 b1 b2 b3 b4
     go_wp2_with (fail)
     have HLP:Hid (Lp w (w8.alloc (.cells #[.int .i64 x.place, .int .i64 x.order, .int .i64 x.out] 186)) ⟨w.heap.size,j,kb,g,mb,rb,lb,tb,rc,lc,tc,pg⟩ V.merges (rowOf V B) w8.heap.size x ok v8 (rowOf V B) (lfR j) ((rtR j).set m (-1)) L8 (chOf (rowOf V B))):=Lib.hid (Lp.new HC.out HLK.out HWF.out (Way.start V.merges (by rw[HRL.out];exact hn0)) HBJ.out HA5.out (by rw[chOf_len,HRL.out];have:=HLL.out;simp only;omega) HA8.out HT8.out HY8.out HN8.out)
     have HCL:Hid ((chOf (rowOf V B)).length=j):=Lib.hid (by rw[chOf_len,HRL.out])
     obtain⟨W9,hW9⟩:∃W9,w8.alloc (.cells #[.int .i64 x.place, .int .i64 x.order, .int .i64 x.out] 186)=W9:=⟨_,rfl⟩
     obtain⟨e9,he9⟩:∃e9,w8.heap.size=e9:=⟨_,rfl⟩
     rw[hW9,he9]at HLP
     rw[hW9,he9]
     clear hW9 he9 HC HLK HWF HBJ HA5 HLL HA8 HT8 HY8 HN8
     go_loopg [9,10] j (fun(q:Nat) p b wr=>∃(eb':Nat) (x:Ent) (ok:Bool) (va:Value) (Rw Lf Rt:List Int) (L:List Ent) (C:Ch),q=C.length∧p= .pointer (some ⟨eb',0,none⟩)∧b= .bool ok∧Hid (Lp w wr ⟨w.heap.size,j,kb,g,mb,rb,lb,tb,rc,lc,tc,pg⟩ V.merges (rowOf V B) eb' x ok va Rw Lf Rt L C))
     case atStart=>exact⟨e9,x,ok,v8,_,_,_,L8,_,HCL.out.symm,rfl,rfl,HLP⟩
     case round=>
      obtain⟨eb',x,ok,va,Rw,Lf,Rt,L,C,rfl,rfl,rfl,HL⟩:=hrel
      cases ok with
      | true=>
       obtain⟨hy1,hy2,hy3⟩:=HL.out.yes rfl
       obtain⟨pl,od,d⟩:=x
       simp only at hy1 hy2 hy3
       obtain⟨pre,post,pn,q,a,b,rfl,rfl,hway⟩:=best_step HL.out.way HL.out.ln.ok hy1 hy2
       have HD:=Lib.hid (agI_wf HM.out.2.1 HM.out.1.1 hy1)
       have HY3:=Lib.hid hy3
       have HWY:=Lib.hid hway
       obtain⟨x0,x1,x2⟩:=box3e HL.out.box
       simp only at x0 x1 x2
       have hcnt:=HL.out.cnt
       simp only[if_true]at hcnt
       have HCT:=Lib.hid hcnt
       clear hy1 hy2 hy3 hway hcnt
       go_wp2_with (fail)
       go_at_call 124
       refine(merge_calls (c:=⟨w.heap.size,j,kb,g,mb,rb,lb,tb,rc,lc,tc,pg⟩) pn q a b od d wr HTB.out HL.out.bel HL.out.ch (by simp only;omega) (by have:=HCT.out;omega) HL.out.ln HL.out.wf HD.out HY3.out).mono ?_
       rintro e w5 ⟨rfl,v5,Rw5,Lf5,Rt5,L5,hC5,hK5,hW5,hA5,hl5,hF5⟩
       have hne:=HL.out.ne
       have hlt5:=(Array.getElem?_eq_some_iff.1 HL.out.box).1
       have hx5:w5.heap[eb']?=some (.cells #[.int .i64 pn, .int .i64 od, .int .i64 d] 186):=(hF5.block eb' hlt5 hne.2.1 hne.2.2.1 hne.2.2.2.1 hne.2.2.2.2.1 hne.2.2.2.2.2.1 (fun e=>hne.2.2.2.2.2.2.1 e)).trans HL.out.box
       have HC5:=Lib.hid hC5
       have HK5:=Lib.hid hK5
       have HW5:=Lib.hid hW5
       have HA5:=Lib.hid hA5
       have HL5:=Lib.hid hl5
       have HB5:Hid (Below w.heap.size w w5):=Lib.hid (HL.out.bel.trans (hF5.base HL.out.ch))
       clear hC5 hK5 hW5 hA5 hl5 hF5 hne hlt5 x0 x1 x2
       obtain⟨x0,x1,x2⟩:=box3e hx5
       have hb6:=below_alloc w5 (.cells #[.int .i64 pn, .int .i64 od, .int .i64 d] 186)
       have hC6:=HC5.out.below hb6
       obtain⟨b0,b1,b2,b3,b4⟩:=hC6.cells
       simp only at b0 b1 b2 b3 b4
       have HTK:=Lib.hid (aTake_any _ hC6.ag)
       have HC6:=Lib.hid hC6
       have hbx:=heap_alloc_new w5 (.cells #[.int .i64 pn, .int .i64 od, .int .i64 d] 186)
       obtain⟨W6,hW6⟩:∃W6,w5.alloc (.cells #[.int .i64 pn, .int .i64 od, .int .i64 d] 186)=W6:=⟨_,rfl⟩
       rw[hW6]at HTK HC6 hbx
       have HB6:Hid (Below w.heap.size w W6):=Lib.hid (hW6▸HB5.out.trans (hb6.mono HB5.out.size))
       have HS6:Hid (W6.heap.size=w5.heap.size+1):=Lib.hid (by rw[←hW6];simp)
       have HBX:=Lib.hid hbx
       have HW6:=Lib.hid hW6
       clear hx5 hb6 hC6 hW6 hbx
       go_wp2_with (fail)
       rw[HW6.out]
       go_at_call 123
       refine HTK.out.mono ?_
       rintro e w7 ⟨x7,ok7,v7,L7,rfl,hA7,hT7,hy7,hn7⟩
       have k1:=(Array.getElem?_eq_some_iff.1 HC5.out.box).1
       have k2:=(Array.getElem?_eq_some_iff.1 HC5.out.ag.pile.box).1
       have k3:=HC5.out.ag.pile.at_.lt
       have k4:=HC5.out.row.lt.2
       have k5:=HC5.out.left.lt.2
       have k6:=HC5.out.right.lt.2
       simp only at k1 k2 k3 k4 k5 k6
       have hv5:v5.ownBlock≠some w5.heap.size:=fun e=>by have:=(World.ownsRow.lt HC5.out.ag.pile.row _ e).2;omega
       have hb5:w.heap.size≤w5.heap.size:=HB5.out.size
       have hs6:w5.heap.size<W6.heap.size:=by have:=HS6.out;omega
       have hx7:w7.heap[w5.heap.size]?=some (.cells #[.int .i64 pn, .int .i64 od, .int .i64 d] 186):=(hT7.block w5.heap.size hs6 (by omega) (by omega) hv5).trans HBX.out
       have HNE:Hid (w5.heap.size≠kb∧w5.heap.size≠g∧w5.heap.size≠mb∧w5.heap.size≠rb∧w5.heap.size≠lb∧w5.heap.size≠tb∧v5.ownBlock≠some w5.heap.size∧w.heap.size≤w5.heap.size):=Lib.hid ⟨by omega,by omega,by omega,by omega,by omega,by omega,hv5,hb5⟩
       have HA7:=Lib.hid hA7
       have HT7:=Lib.hid hT7
       have HY7:=Lib.hid hy7
       have HN7:=Lib.hid hn7
       have HX7:=Lib.hid hx7
       have yf:∀o,w7.frozen? ⟨w5.heap.size,o,none⟩=false:=fun o=>by simp[World.frozen?,hx7]
       have HS6b:=Lib.hid hs6
       clear hA7 hT7 hy7 hn7 k1 k2 k3 k4 k5 k6 hv5 hb5 hs6 b0 b1 b2 b3 b4 x0 x1 x2
       obtain⟨x0,x1,x2⟩:=box3e hx7
       clear hx7
       have HLP:Hid (Lp w (((w7.setCell ⟨w5.heap.size,0,none⟩ (.int .i64 x7.place)).setCell ⟨w5.heap.size,1,none⟩ (.int .i64 x7.order)).setCell ⟨w5.heap.size,2,none⟩ (.int .i64 x7.out)) ⟨w.heap.size,j,kb,g,mb,rb,lb,tb,rc,lc,tc,pg⟩ V.merges (rowOf V B) w5.heap.size x7 ok7 v7 Rw5 Lf5 Rt5 L7 (pre++(pn,d)::post)):=Lib.hid (Lp.stored HC6.out HK5.out HW5.out HWY.out HB6.out HA5.out (by have h1:=HL5.out;have h2:=HCT.out;simp at h2 ⊢;omega) HA7.out HT7.out HY7.out HN7.out HX7.out HS6b.out HNE.out)
       go_wp2_with (fail)
       go_roundg (pre++(pn,d)::post).length
       case measure=>simp
       case rel=>exact⟨w5.heap.size,x7,ok7,v7,Rw5,Lf5,Rt5,L7,pre++(pn,d)::post,rfl,rfl,rfl,HLP⟩
      | false=>
       go_wp2_with (fail)
       have hno:=HL.out.no rfl
       have HEND:Hid (C.map (·.2)=encF V B):=Lib.hid (by
        have h1:=HL.out.way.done (agI_none HL.out.ln.ok hno)
        rw[h1]
        unfold encF
        rw[rowOf_len])
       have HP0:Hid (plC C 0=0):=Lib.hid (by obtain⟨a,ha⟩:=HL.out.way.zero;rw[plC_at ha];rfl)
       have HCN:Hid (C.length≤1048576):=Lib.hid (by have:=HL.out.cnt;simp at this;omega)
       clear hno
       obtain⟨W4,hW4⟩:∃W4,W4=wr:=⟨_,rfl⟩
       subst hW4
       go_loopw [11,12] (fun o i wq=>∃(y:Nat),y≤C.length∧i= .int .i64 (plC C y)∧lenS o=y∧Hid (Own wq W4.heap.size o ((C.map (·.2)).take y))∧Hid (Below W4.heap.size W4 wq)) (fun o _ _=>C.length-lenS o)
       case atStart=>exact⟨0,Nat.zero_le _,by rw[HP0.out],rfl,Lib.hid (Own.nil _ _),Lib.hid (Below.refl _ _)⟩
       case round=>
        obtain⟨y,hy,rfl,hly,HO,HBQ⟩:=hrel
        by_cases hyc:y<C.length
        ·obtain⟨p,a,hat⟩:∃(p:Nat) (a:Int),C[y]?=some (p,a):=⟨_,_,List.getElem?_eq_getElem hyc⟩
         rw[plC_at hat]
         have hpn:=HL.out.ln.lt _ (List.mem_of_getElem? hat)
         have hC:=HL.out.ch.below HBQ.out
         obtain⟨b0,b1,b2,b3,b4⟩:=hC.cells
         have r0:=hC.row.cell (HL.out.ln.row _ _ _ hat)
         simp only at b0 b1 b2 b3 b4 r0 hpn
         have gp:(p:Int)<(j:Int):=by omega
         have gp0:(0:Int)≤(p:Int):=by omega
         have gpn:¬(p:Int)= -1:=by omega
         have HTK:Hid ((C.map (·.2)).take y++ [a]=(C.map (·.2)).take (y+1)):=Lib.hid (by
          rw[←take_snoc (by rw[List.length_map];exact hyc)]
          congr 2
          simp[ix,List.getD,hat])
         have HLN:Hid (((C.map (·.2)).take y).length=y):=Lib.hid (by rw[List.length_take,List.length_map];omega)
         have HAT:=Lib.hid hat
         have HRT:=Lib.hid (HL.out.ln.right _ _ _ hat)
         clear hat hC hpn
         go_wp2_with (at_builtin;refine wpList_int_lies rfl _ _ rfl (base:=W4.heap.size) (k:=y) (y:=a) rfl (by exact World.ownsRow.alloc HO.out _) HLN.out rfl (by exact alloc_at (by simp)) (by have:=HCN.out;omega) (by have:=HBQ.out.size;simp;omega) ?_;intro gg cap w2 ho2 hg2 hat2;have hb2:Below W4.heap.size W4 w2:=Below.grown (HBQ.out.trans (Below.mono (by exact belowA rfl rfl rfl rfl) HBQ.out.size)) hg2 (by have:=HBQ.out.size;simp;omega) (fun q hq=>(World.ownsRow.lt HO.out q hq).1);obtain⟨d0,d1,d2,d3,d4⟩:=(HL.out.ch.below hb2).cells;have t0:=(HL.out.ch.below hb2).right.cell HRT.out;rw[nxt_pl]at t0;simp only at d0 d1 d2 d3 d4 t0;have HO2:=Lib.hid ho2;have HB2:=Lib.hid hb2;clear ho2 hg2 hat2 hb2)
         go_roundw
         case rel=>exact⟨y+1,by omega,rfl,rfl,Lib.hid (by rw[←HTK.out];exact HO2.out),HB2⟩
         case measure=>rw[hly];show C.length-(y+1)<C.length-y;omega
        ·obtain rfl:y=C.length:=by omega
         have hpe:plC C C.length= -1:=plC_end (Nat.le_refl _)
         rw[hpe]
         clear hpe
         go_wp2_with (fail)
         go_ret
         refine⟨_,rfl,?_,HL.out.bel.trans (HBQ.out.mono HL.out.bel.size)⟩
         have h1:=HO.out.mono HL.out.bel.size
         rw[List.take_of_length_le (by simp),HEND.out]at h1
         exact h1
open Go
def isSp (p:Pt):Bool:=decide (p.cls=3) || decide (p.cls=4)
def rowN (L:List Pt) (i:Nat) (c:Int):Nat:=((L.drop i).takeWhile (fun p=>decide (p.cls=c))).length
def spN (L:List Pt) (i:Nat):Nat:=((L.drop i).takeWhile isSp).length
def nsN (L:List Pt) (i:Nat):Nat:=((L.drop i).takeWhile (fun p=>!isSp p)).length
def isC (L:List Pt) (i:Nat) (c:Int):Bool:=match L[i]? with | some p=>decide (p.cls=c) | none=>false
def spC (L:List Pt) (i:Nat):Bool:=match L[i]? with | some p=>isSp p | none=>false
def sureC (L:List Pt) (i:Nat):Bool:=match L[i]? with | some p=>p.sure | none=>false
def cdOf (wide:Bool) (p:Pt):Int:=if wide=true∧65≤p.code∧p.code≤90 then p.code+32 else p.code
def cdC (L:List Pt) (wide:Bool) (i:Nat):Int:=match L[i]? with | some p=>cdOf wide p | none=> -1
def ptC (L:List Pt) (i:Nat):Pt:=match L[i]? with | some p=>p | none=>⟨0,0,0,false⟩
def lineN (L:List Pt):Nat→Nat
 | 0=>0
 | n+1=>if isC L n 4 then n+1 else lineN L n
def oneE (c:Int):Prop:=c=115∨c=116∨c=109∨c=100
instance (c:Int):Decidable (oneE c):=by unfold oneE;infer_instance
def fstE (c:Int):Prop:=c=114∨c=118∨c=108
instance (c:Int):Decidable (fstE c):=by unfold fstE;infer_instance
def twoE (c d:Int):Prop:=(c=114∧d=101)∨(c=118∧d=101)∨(c=108∧d=108)
instance (c d:Int):Decidable (twoE c d):=by unfold twoE;infer_instance
def endN (L:List Pt) (wide:Bool):Nat:=if cdC L wide 0≠39 then 0 else if oneE (cdC L wide 1)then 2 else if twoE (cdC L wide 1) (cdC L wide 2)then 3 else 0
def ledN (L:List Pt) (c:Int):Nat:=if(ptC L 0).code=32∧isC L 1 c=true then 1+rowN L 1 c else rowN L 0 c
def spacesF (L:List Pt):Nat×Nat:=if spN L 0<L.length∧1<spN L 0 then(spN L 0-1,spN L 0+1)else(spN L 0,spN L 0+1)
def plainF (L:List Pt):Nat×Nat:=
 if 0<endN L false then(endN L false,endN L false)
 else if 0<ledN L 1 then(ledN L 1,ledN L 1+1)
 else if 0<ledN L 2 then(ledN L 2,ledN L 2+1)
 else if 0<ledN L 0 then(ledN L 0,ledN L 0+1)
 else spacesF L
def leadsC (L:List Pt):Bool:=decide ((ptC L 0).cls=0) || decide ((ptC L 0).cls=3)
def wideF (L:List Pt):Nat×Nat:=
 if 0<endN L true then(endN L true,endN L true)
 else if 0<rowN L 0 1 then(rowN L 0 1,rowN L 0 1+1)
 else if leadsC L=true∧isC L 1 1=true then(1+rowN L 1 1,1+rowN L 1 1+1)
 else if 0<rowN L 0 2 then(min (rowN L 0 2) 3,min (min (rowN L 0 2) 3+1) 3)
 else if 0<ledN L 0 then(ledN L 0+rowN L (ledN L 0) 4,ledN L 0+rowN L (ledN L 0) 4+1)
 else if 0<lineN L (spN L 0)then(lineN L (spN L 0),spN L 0+1)
 else spacesF L
def wordF (L:List Pt):Nat×Nat:=(spN L 0+nsN L (spN L 0),spN L 0+nsN L (spN L 0)+1)
def cutF (kind:Int) (L:List Pt):Nat×Nat:=if kind=1 then wordF L else if kind=2 then plainF L else wideF L
def pendF (L:List Pt) (wide:Bool):Prop:=cdC L wide 0=39∧sureN L<3∧(sureN L<2∨fstE (cdC L wide 1))
instance (L:List Pt) (wide:Bool):Decidable (pendF L wide):=by unfold pendF;infer_instance
def nextF (kind:Int) (t:List Rg) (b:List Int) (final:Bool):Int×Bool:=
 if kind=0 then((b.length:Int),final)
 else(sumN (pts t b) (cutF kind (pts t b)).1,final || (decide ((cutF kind (pts t b)).2≤sureN (pts t b)) && (decide (kind=1) || !decide (pendF (pts t b) (decide (kind=3))))))
theorem takeWhile_len {α:Type} (p:α→Bool) (L:List α) (i:Nat):i+((L.drop i).takeWhile p).length≤max i L.length:=by
 have h1:=List.takeWhile_prefix (l:=L.drop i) p
 have:=h1.length_le
 rw[List.length_drop]at this
 omega
theorem rowN_le (L:List Pt) (i:Nat) (c:Int):i+rowN L i c≤max i L.length:=takeWhile_len _ L i
theorem spN_le (L:List Pt) (i:Nat):i+spN L i≤max i L.length:=takeWhile_len _ L i
theorem nsN_le (L:List Pt) (i:Nat):i+nsN L i≤max i L.length:=takeWhile_len _ L i
theorem tw_step {α:Type} {p:α→Bool} {L:List α} {i:Nat} {x:α} (h:L[i]?=some x):((L.drop i).takeWhile p).length=if p x=true then((L.drop (i+1)).takeWhile p).length+1 else 0:=by
 have hi:=(List.getElem?_eq_some_iff.1 h).1
 have e:L.drop i=x::L.drop (i+1):=by
  rw[List.drop_eq_getElem_cons hi]
  congr 1
  have:=List.getElem?_eq_getElem hi
  rw[h]at this
  simpa using this.symm
 rw[e,List.takeWhile_cons]
 split
 ·simp
 ·simp
theorem tw_none {α:Type} {p:α→Bool} {L:List α} {i:Nat} (h:L[i]?=none):((L.drop i).takeWhile p).length=0:=by
 rw[List.drop_eq_nil_of_le (by simpa using h)];rfl
theorem rowN_yes {L:List Pt} {i:Nat} {c:Int} (h:isC L i c=true):rowN L i c=rowN L (i+1) c+1∧i<L.length:=by
 unfold isC at h
 cases hp:L[i]? with
 | none=>rw[hp]at h;simp at h
 | some p=>
  rw[hp]at h
  unfold rowN
  rw[tw_step hp,if_pos (by simpa using h)]
  exact⟨rfl,(List.getElem?_eq_some_iff.1 hp).1⟩
theorem rowN_no {L:List Pt} {i:Nat} {c:Int} (h:isC L i c=false):rowN L i c=0:=by
 unfold isC at h
 unfold rowN
 cases hp:L[i]? with
 | none=>exact tw_none hp
 | some p=>rw[hp]at h;rw[tw_step hp,if_neg (by simpa using h)]
theorem spN_yes {L:List Pt} {i:Nat} (h:spC L i=true):spN L i=spN L (i+1)+1∧i<L.length:=by
 unfold spC at h
 cases hp:L[i]? with
 | none=>rw[hp]at h;simp at h
 | some p=>
  rw[hp]at h
  unfold spN
  rw[tw_step hp,if_pos (by simpa using h)]
  exact⟨rfl,(List.getElem?_eq_some_iff.1 hp).1⟩
theorem spN_no {L:List Pt} {i:Nat} (h:spC L i=false):spN L i=0:=by
 unfold spC at h
 unfold spN
 cases hp:L[i]? with
 | none=>exact tw_none hp
 | some p=>rw[hp]at h;rw[tw_step hp,if_neg (by simpa using h)]
theorem nsN_yes {L:List Pt} {i:Nat} (hi:i<L.length) (h:spC L i=false):nsN L i=nsN L (i+1)+1:=by
 unfold spC at h
 unfold nsN
 rw[List.getElem?_eq_getElem hi]at h
 rw[tw_step (List.getElem?_eq_getElem hi),if_pos (by simpa using h)]
theorem nsN_no {L:List Pt} {i:Nat} (h:¬i<L.length∨spC L i=true):nsN L i=0:=by
 unfold nsN
 cases hp:L[i]? with
 | none=>exact tw_none hp
 | some p=>
  have hi:=(List.getElem?_eq_some_iff.1 hp).1
  have h2:spC L i=true:=h.resolve_left (fun g=>g hi)
  unfold spC at h2
  rw[hp]at h2
  rw[tw_step hp,if_neg (by simpa using h2)]
theorem lineN_le (L:List Pt):∀n,lineN L n≤n
 | 0=>Nat.le_refl _
 | n+1=>by
  have:=lineN_le L n
  simp only[lineN]
  split<;>omega
theorem isC_len {L:List Pt} {i:Nat} {c:Int} (h:isC L i c=true):i<L.length:=(rowN_yes h).2
theorem cdC_len {L:List Pt} {w:Bool} {i:Nat} (h:cdC L w i≠ -1):i<L.length:=by
 unfold cdC at h
 cases hp:L[i]? with
 | none=>rw[hp]at h;simp at h
 | some p=>exact(List.getElem?_eq_some_iff.1 hp).1
theorem endN_le (L:List Pt) (w:Bool):endN L w≤L.length:=by
 unfold endN
 split
 ·omega
 ·split
  ·next h=>have:=cdC_len (L:=L) (w:=w) (i:=1) (by unfold oneE at h;omega);omega
  ·split
   ·next h=>have:=cdC_len (L:=L) (w:=w) (i:=2) (by unfold twoE at h;omega);omega
   ·omega
theorem ledN_le (L:List Pt) (c:Int):ledN L c≤L.length:=by
 unfold ledN
 split
 ·next h=>have:=rowN_le L 1 c;have:=isC_len h.2;omega
 ·have:=rowN_le L 0 c;omega
theorem spacesF_le (L:List Pt):(spacesF L).1≤L.length∧1≤(spacesF L).2:=by
 have:=spN_le L 0
 unfold spacesF
 split<;>simp<;>omega
theorem spacesF_pos {L:List Pt} (h:0<spN L 0):1≤(spacesF L).1:=by
 unfold spacesF
 split<;>simp<;>omega
theorem cutF_le (kind:Int) (L:List Pt):(cutF kind L).1≤L.length∧1≤(cutF kind L).2:=by
 have hs:=spacesF_le L
 unfold cutF
 split
 ·unfold wordF
  have:=spN_le L 0
  have:=nsN_le L (spN L 0)
  simp;omega
 ·split
  ·unfold plainF
   have:=endN_le L false
   have:=ledN_le L 0
   have:=ledN_le L 1
   have:=ledN_le L 2
   repeat' split
   all_goals first
    | exact hs
    | (simp only;omega)
  ·unfold wideF
   have:=endN_le L true
   have:=rowN_le L 0 1
   have:=rowN_le L 0 2
   have:=ledN_le L 0
   have:=rowN_le L (ledN L 0) 4
   have:=lineN_le L (spN L 0)
   have:=spN_le L 0
   repeat' split
   all_goals first
    | exact hs
    | (simp only;omega)
    | (rename_i h _ _ _;have:=rowN_le L 1 1;have:=isC_len h.2;simp only;omega)
    | (rename_i h;have:=rowN_le L 1 1;have:=isC_len h.2;simp only;omega)
theorem rowN_pos {L:List Pt} {c:Int} (h:0<L.length) (hc:(ptC L 0).cls=c):0<rowN L 0 c:=by
 have:isC L 0 c=true:=by
  unfold isC ptC at *
  cases hp:L[0]? with
  | none=>have:=List.getElem?_eq_none_iff.1 hp;omega
  | some p=>rw[hp]at hc;simpa using hc
 have:=(rowN_yes this).1
 omega
theorem spN_pos {L:List Pt} (h:0<L.length) (hc:(ptC L 0).cls=3∨(ptC L 0).cls=4):0<spN L 0:=by
 have:spC L 0=true:=by
  unfold spC ptC at *
  cases hp:L[0]? with
  | none=>have:=List.getElem?_eq_none_iff.1 hp;omega
  | some p=>rw[hp]at hc;simpa[isSp]using hc
 have:=(spN_yes this).1
 omega
theorem nsN_pos {L:List Pt} (h:0<L.length) (hc:spC L 0=false):0<nsN L 0:=by
 have:=nsN_yes h hc
 omega
theorem ledN_pos {L:List Pt} {c:Int} (h:0<L.length) (hc:(ptC L 0).cls=c):0<ledN L c:=by
 unfold ledN
 split
 ·omega
 ·exact rowN_pos h hc
theorem cutF_pos {kind:Int} {L:List Pt} (h:0<L.length) (hg:∀p∈L,PtGood p):1≤(cutF kind L).1:=by
 have h0:PtGood (ptC L 0):=by
  unfold ptC
  rw[List.getElem?_eq_getElem h]
  exact hg _ (List.getElem_mem h)
 obtain⟨_,_,g1,g2⟩:=h0
 unfold cutF
 split
 ·unfold wordF
  cases hs:spC L 0 with
  | true=>have:=(spN_yes hs).1;simp only;omega
  | false=>
   have e:=spN_no hs
   rw[e]
   have:=nsN_pos h hs
   simp only
   omega
 ·split
  ·unfold plainF
   repeat' split
   all_goals first
    | (simp only;omega)
    | skip
   next h1 h2 h3 h4=>
    refine spacesF_pos (spN_pos h ?_)
    have a1:(ptC L 0).cls≠1:=fun e=>h2 (ledN_pos h e)
    have a2:(ptC L 0).cls≠2:=fun e=>h3 (ledN_pos h e)
    have a0:(ptC L 0).cls≠0:=fun e=>h4 (ledN_pos h e)
    omega
  ·unfold wideF
   repeat' split
   all_goals first
    | (simp only;omega)
    | skip
   next h1 h2 h3 h4 h5 h6=>
    refine spacesF_pos (spN_pos h ?_)
    have a1:(ptC L 0).cls≠1:=fun e=>h2 (rowN_pos h e)
    have a2:(ptC L 0).cls≠2:=fun e=>h4 (rowN_pos h e)
    have a0:(ptC L 0).cls≠0:=fun e=>h5 (ledN_pos h e)
    omega
theorem nextF_le {kind:Int} {t:List Rg} (ht:MayTab t) {b:List Int} (hb:∀x∈b,0≤x∧x<256) (h0:b≠[]) (final:Bool):1≤(nextF kind t b final).1∧(nextF kind t b final).1≤b.length:=by
 have hl:=List.length_pos_iff.2 h0
 unfold nextF
 split
 ·simp only;omega
 ·have hp:=pts_pos (t:=t) h0
  have h1:=cutF_pos (kind:=kind) hp (pts_good ht hb)
  have h2:=cutF_le kind (pts t b)
  have h3:=sumN_le (t:=t) b (cutF kind (pts t b)).1
  simp only
  omega
theorem nextF_final (kind:Int) (t:List Rg) (b:List Int):(nextF kind t b true).2=true:=by
 unfold nextF
 split<;>simp
theorem nextF_n (kind:Int) (t:List Rg) (b:List Int) (f g:Bool):(nextF kind t b f).1=(nextF kind t b g).1:=by
 unfold nextF
 split<;>simp
def isB (x:Int):Bool:=decide (0≤x) && decide (x<256)
theorem isB_iff {x:Int}:isB x=true↔0≤x∧x<256:=by simp[isB]
def runOf (text:List Int):List Int:=text.takeWhile isB
theorem runOf_b {text:List Int}:∀x∈runOf text,0≤x∧x<256:=by
 induction text with
 | nil=>intro x hx;simp[runOf]at hx
 | cons c l ih=>
  intro x hx
  unfold runOf at hx ih
  rw[List.takeWhile_cons]at hx
  split at hx
  ·next hc=>
   rcases List.mem_cons.1 hx with rfl | h
   ·exact isB_iff.1 hc
   ·exact ih x h
  ·simp at hx
theorem runOf_le (text:List Int):(runOf text).length≤text.length:=(List.takeWhile_prefix isB).length_le
def splitGo (kind:Int) (t:List Rg) (final:Bool):Nat→List Int→Bool→List (Int×Bool)
 | 0,_,_=>[]
 | k+1,text,op=>if text= []then []
  else if runOf text= []then(1,true)::splitGo kind t final k (text.drop 1) op
  else((nextF kind t (runOf text) (final || decide ((runOf text).length<text.length))).1,!(op || !(nextF kind t (runOf text) (final || decide ((runOf text).length<text.length))).2)) ::
   splitGo kind t final k (text.drop (nextF kind t (runOf text) (final || decide ((runOf text).length<text.length))).1.toNat) (op || !(nextF kind t (runOf text) (final || decide ((runOf text).length<text.length))).2)
def splitF (kind:Int) (t:List Rg) (text:List Int) (final:Bool):List (Int×Bool):=splitGo kind t final text.length text false
section
variable {kind:Int} {t:List Rg} {final:Bool}
theorem splitGo_nil (k:Nat) (op:Bool):splitGo kind t final k [] op= []:=by cases k<;>simp[splitGo]
theorem splitGo_more (ht:MayTab t):∀{k j:Nat} {text:List Int} {op:Bool},text.length≤k→text.length≤j→splitGo kind t final k text op=splitGo kind t final j text op
 | 0,j,text,op,h,_=>by
  have:text= []:=List.eq_nil_of_length_eq_zero (by omega)
  subst this
  rw[splitGo_nil,splitGo_nil]
 | k+1,0,text,op,_,h=>by
  have:text= []:=List.eq_nil_of_length_eq_zero (by omega)
  subst this
  rw[splitGo_nil,splitGo_nil]
 | k+1,j+1,text,op,h1,h2=>by
  simp only[splitGo]
  by_cases h0:text= []
  ·rw[if_pos h0,if_pos h0]
  ·have hl:=List.length_pos_iff.2 h0
   rw[if_neg h0,if_neg h0]
   by_cases hr:runOf text= []
   ·rw[if_pos hr,if_pos hr,splitGo_more ht (k:=k) (j:=j) (text:=text.drop 1) (by simp only[List.length_drop];omega) (by simp only[List.length_drop];omega)]
   ·rw[if_neg hr,if_neg hr]
    have hn:=nextF_le (kind:=kind) ht runOf_b hr (final || decide ((runOf text).length<text.length))
    rw[splitGo_more ht (k:=k) (j:=j) (text:=text.drop _) (by simp only[List.length_drop];omega) (by simp only[List.length_drop];omega)]
theorem splitGo_mark {k:Nat} {m:Int} {l:List Int} {op:Bool} (hm:isB m=false):splitGo kind t final (k+1) (m::l) op=(1,true)::splitGo kind t final k l op:=by
 simp only[splitGo]
 rw[if_neg (by simp),if_pos (by simp[runOf,hm])]
 rfl
theorem splitGo_run {k:Nat} {text:List Int} {op:Bool} (hr:runOf text≠[]) {n:Int} {d:Bool} (hn:nextF kind t (runOf text) (final || decide ((runOf text).length<text.length))=(n,d)):
  splitGo kind t final (k+1) text op=(n,!(op || !d))::splitGo kind t final k (text.drop n.toNat) (op || !d):=by
 have h0:text≠[]:=fun e=>hr (by rw[e];rfl)
 simp only[splitGo]
 rw[if_neg h0,if_neg hr,hn]
def runsGo (run:List Int):List Int→List (List Int×Bool)
 | []=>[(run,false)]
 | s::l=>if isB s then runsGo (run++ [s]) l else(run,true)::runsGo [] l
def piecesGo (kind:Int) (t:List Rg) (final:Bool):Nat→List Int→Bool→List (Int×Bool)×Bool
 | 0,_,sure=>([],sure)
 | k+1,run,sure=>if run= []then([],sure)else
  (((nextF kind t run final).1,sure && (nextF kind t run final).2)::(piecesGo kind t final k (run.drop (nextF kind t run final).1.toNat) (sure && (nextF kind t run final).2)).1,
   (piecesGo kind t final k (run.drop (nextF kind t run final).1.toNat) (sure && (nextF kind t run final).2)).2)
def stepRun (kind:Int) (t:List Rg) (final:Bool) (st:List (Int×Bool)×Bool) (r:List Int×Bool):List (Int×Bool)×Bool:=
 (st.1++(piecesGo kind t (r.2 || final) r.1.length r.1 st.2).1++(if r.2=true then [(1,(piecesGo kind t (r.2 || final) r.1.length r.1 st.2).2)]else []),(piecesGo kind t (r.2 || final) r.1.length r.1 st.2).2)
theorem runOf_bytes {run:List Int} (h:∀x∈run,0≤x∧x<256):runOf run=run:=by
 have:=List.takeWhile_append_of_pos (p:=isB) (l₁:=run) (l₂:=[]) (fun x hx=>isB_iff.2 (h x hx))
 simpa[runOf]using this
theorem runOf_mark {run l:List Int} {m:Int} (h:∀x∈run,0≤x∧x<256) (hm:isB m=false):runOf (run++m::l)=run:=by
 unfold runOf
 rw[List.takeWhile_append_of_pos (fun x hx=>isB_iff.2 (h x hx))]
 simp[hm]
theorem split_last (ht:MayTab t):∀{k:Nat} {run:List Int} {op:Bool},run.length≤k→(∀x∈run,0≤x∧x<256)→splitGo kind t final k run op=(piecesGo kind t final k run (!op)).1
 | 0,run,op,h,_=>by simp[splitGo,piecesGo]
 | k+1,run,op,h,hb=>by
  by_cases h0:run= []
  ·subst h0;simp[splitGo,piecesGo]
  ·have hr:=runOf_bytes hb
   have hn:=nextF_le (kind:=kind) ht hb h0 final
   rw[splitGo_run (n:=(nextF kind t run final).1) (d:=(nextF kind t run final).2) (by rw[hr];exact h0) (by rw[hr];simp)]
   simp only[piecesGo]
   rw[if_neg h0]
   have ih:=split_last ht (k:=k) (run:=run.drop (nextF kind t run final).1.toNat) (op:=op || !(nextF kind t run final).2) (by simp only[List.length_drop];omega) (fun x hx=>hb x (List.mem_of_mem_drop hx))
   rw[ih]
   have e:(!(op || !(nextF kind t run final).2))=(!op && (nextF kind t run final).2):=by cases op<;>cases (nextF kind t run final).2<;>rfl
   rw[e]
theorem pieces_final:∀{k:Nat} {run:List Int},(piecesGo kind t true k run true).2=true
 | 0,run=>rfl
 | k+1,run=>by
  simp only[piecesGo]
  split
  ·rfl
  ·rw[nextF_final]
   exact pieces_final
theorem split_run (ht:MayTab t) {m:Int} (hm:isB m=false) (l:List Int):∀{k:Nat} {run:List Int},run.length≤k→(∀x∈run,0≤x∧x<256)→
  splitGo kind t final (k+1+l.length) (run++m::l) false=(piecesGo kind t true k run true).1++(1,true)::splitGo kind t final l.length l false
 | 0,run,h,_=>by
  have:run= []:=List.eq_nil_of_length_eq_zero (by omega)
  subst this
  rw[show 0+1+l.length=l.length+1 by omega]
  simp only[List.nil_append,piecesGo]
  exact splitGo_mark hm
 | k+1,run,h,hb=>by
  by_cases h0:run= []
  ·subst h0
   simp only[List.nil_append,piecesGo,if_true]
   rw[show k+1+1+l.length=(k+1+l.length)+1 by omega,splitGo_mark hm,splitGo_more ht (k:=k+1+l.length) (j:=l.length) (by omega) (Nat.le_refl _)]
  ·have hr:=runOf_mark (l:=l) hb hm
   have hn:=nextF_le (kind:=kind) ht hb h0 true
   have hf:=nextF_final kind t run
   have hlt:(decide (run.length<(run++m::l).length))=true:=by simp
   rw[show k+1+1+l.length=(k+1+l.length)+1 by omega]
   rw[splitGo_run (n:=(nextF kind t run true).1) (d:=true) (by rw[hr];exact h0) (by rw[hr,hlt,Bool.or_true];exact Prod.ext rfl hf)]
   simp only[piecesGo]
   rw[if_neg h0,hf]
   have e:(run++m::l).drop (nextF kind t run true).1.toNat=run.drop (nextF kind t run true).1.toNat++m::l:=List.drop_append_of_le_length (by omega)
   have ih:=split_run ht hm l (k:=k) (run:=run.drop (nextF kind t run true).1.toNat) (by simp only[List.length_drop];omega) (fun x hx=>hb x (List.mem_of_mem_drop hx))
   simp only[Bool.or_false,Bool.not_true,Bool.not_false,Bool.and_true,List.cons_append]
   rw[e,ih]
theorem pieces_more (ht:MayTab t):∀{k j:Nat} {run:List Int} {sure:Bool},run.length≤k→run.length≤j→(∀x∈run,0≤x∧x<256)→piecesGo kind t final k run sure=piecesGo kind t final j run sure
 | 0,0,run,sure,_,_,_=>rfl
 | 0,j+1,run,sure,h,_,_=>by
  have:run= []:=List.eq_nil_of_length_eq_zero (by omega)
  subst this
  simp[piecesGo]
 | k+1,0,run,sure,_,h,_=>by
  have:run= []:=List.eq_nil_of_length_eq_zero (by omega)
  subst this
  simp[piecesGo]
 | k+1,j+1,run,sure,h1,h2,hb=>by
  simp only[piecesGo]
  by_cases h0:run= []
  ·rw[if_pos h0,if_pos h0]
  ·rw[if_neg h0,if_neg h0]
   have hn:=nextF_le (kind:=kind) ht hb h0 final
   rw[pieces_more ht (k:=k) (j:=j) (run:=run.drop (nextF kind t run final).1.toNat) (by simp only[List.length_drop];omega) (by simp only[List.length_drop];omega) (fun x hx=>hb x (List.mem_of_mem_drop hx))]
theorem runs_split (ht:MayTab t):∀{text run:List Int} {acc:List (Int×Bool)},(∀x∈run,0≤x∧x<256)→
  ((runsGo run text).foldl (stepRun kind t final) (acc,true)).1=acc++splitF kind t (run++text) final
 | [],run,acc,hb=>by
  simp only[runsGo,List.foldl_cons,List.foldl_nil,stepRun,Bool.false_or,Bool.false_eq_true,if_false,List.append_nil,splitF]
  rw[split_last ht (Nat.le_refl _) hb]
  simp
 | s::l,run,acc,hb=>by
  simp only[runsGo]
  cases hs:isB s with
  | true=>
   simp only[if_true]
   rw[runs_split ht (text:=l) (run:=run++ [s]) (fun x hx=>by
    rcases List.mem_append.1 hx with h | h
    ·exact hb x h
    ·simp at h;subst h;exact isB_iff.1 hs)]
   simp
  | false=>
   simp only[Bool.false_eq_true,if_false,List.foldl_cons]
   have hp:=pieces_final (kind:=kind) (t:=t) (k:=run.length) (run:=run)
   have e:stepRun kind t final (acc,true) (run,true)=(acc++(piecesGo kind t true run.length run true).1++ [(1,true)],true):=by
    simp only[stepRun,Bool.true_or,if_true,hp]
   rw[e,runs_split ht (text:=l) (run:=[]) (by simp)]
   have h2:=split_run (kind:=kind) (t:=t) (final:=final) ht hs l (k:=run.length) (run:=run) (Nat.le_refl _) hb
   unfold splitF
   rw[show(run++s::l).length=run.length+1+l.length by simp;omega,h2]
   simp
end
def markAt (V:Vc) (N:List ByteArray) (s:Int):Int:=ix (marksOf V.specials N) (s-256).toNat
def faultF (V:Vc) (N:List ByteArray) (s:Int):Int:=if s<0∨256+(N.length:Int)≤s then 1 else if 256≤s∧markAt V N s<0 then 4 else 0
def checkF (V:Vc) (N:List ByteArray):List Int→Int
 | []=>0
 | s::l=>if faultF V N s=0 then checkF V N l else faultF V N s
theorem checkF_drop {V:Vc} {N:List ByteArray} {A:List Int} {k:Nat} (hk:k<A.length):checkF V N (A.drop k)=if faultF V N (ix A k)=0 then checkF V N (A.drop (k+1))else faultF V N (ix A k):=by
 rw[List.drop_eq_getElem_cons hk]
 have:A[k]=ix A k:=by simp[ix,List.getD,hk]
 rw[this];rfl
theorem checkF_all {V:Vc} {N:List ByteArray}:∀{A:List Int},checkF V N A=0↔∀s∈A,faultF V N s=0
 | []=>by simp[checkF]
 | s::l=>by
  unfold checkF
  by_cases h:faultF V N s=0
  ·rw[if_pos h,checkF_all];simp[h]
  ·rw[if_neg h];simp[h]
noncomputable def pieceF (V:Vc) (N:List ByteArray) (A:List Int):List Int:=
 if checkF V N A≠0∨A= []then []else if A.length=1∧256≤ix A 0 then [markAt V N (ix A 0)]else if A.all isB=true then encF V A else []
noncomputable def piecesT (V:Vc) (N:List ByteArray):List (Int×Bool)→List Int→List Int
 | [],_=>[]
 | p::ps,A=>pieceF V N (A.take p.1.toNat)++piecesT V N ps (A.drop p.1.toNat)
noncomputable def textF (V:Vc) (N:List ByteArray) (kind:Int) (T:List Rg) (A:List Int):List Int:=piecesT V N (splitF kind T A true) A
open Go.RowKit
def goesOn {α:Type} (B n₀:Nat) (I:List α→World→Prop) (xs:List α) (W:World):Exit→Act→World→Prop
 | .normal,_,W'=>KeepsFrom B W W'∧Below n₀ W W'∧I xs W'
 | _,_,_=>False
theorem wpIn_rangeR {F:Fence} {n:Nat} {P:Program} {w:World} {α:Type} {g:Operand} {ps:Array Tmp} {assign body:Code} {Q:Exit→Act→World→Prop} {a:Act}
  (hro:F.round=none) (h1:1≤n) {gf:Nat} {lb:Array Value} (hg:a.eval g= .func (.func gf) #[] lb) (hFg:F.fn gf) (eg:∀args w,(callFunc gf args).run P w= .ok (.enter gf args) w)
  {encs:α→Array Value} (n₀:Nat) (hn₀:n₀≤w.heap.size) (S:List α→Prop) (Ok:List α→α→Prop) (Rx:World→α→World→Prop) (hRx:∀Wj,OwnFrom w.heap.size (Rx Wj))
  (hseq:∀(l:Nat) (J:List α→World→Prop) (W:World),Below w.heap.size w W→(∀pre A B,J pre A→Below A.heap.size A B→J pre B)→
   (∀pre x Wj W1,J pre Wj→Below Wj.heap.size Wj W1→Rx Wj x W1→Ok pre x→YieldAt F (n-1-1) P l (encs x) W1 fun e W'=>e= .returned (.bool true)∧J (pre++ [x]) W'∧Below n₀ W1 W')→
   J [] W→CallsIn F (n-1) P gf (#[.func (.yield l) #[] #[]]++lb) W fun e W'=>(∃v,e= .returned v)∧∃xs,S xs∧J xs W')
  (hps:∀x,(encs x).size=ps.size)
  (I:List α→World→Prop) (hI:OwnFrom w.heap.size I) (hIB:∀pre A B,I pre A→Below A.heap.size A B→I pre B) (h0:I [] w) (a₁:α→Act)
  (hassign:∀(l:Nat) (x:α) (W:World) (K:Act→World→Prop),K (a₁ x) W→
   assign.wpIn (F.inRound l) (n-1-1) P (Exit.then K (fun _ _ _=>False)) {tmps:=(ps.zip (encs x)).foldl (fun t (p,v)=>t.setIfInBounds p v) a.tmps,defers:=[]} W)
  (hbody:∀(l:Nat) (pre:List α) (x:α) (Wj W:World),I pre Wj→(∀(q:Nat) (o:Obj),Wj.heap[q]?=some o→o.isCells=true→W.heap[q]?=some o)→Wj.heap.size≤W.heap.size→I pre W→Rx Wj x W→Ok pre x→body.wpIn (F.inRound l) (n-1-1) P (goesOn w.heap.size n₀ I (pre++ [x]) W) (a₁ x) W)
  (hdone:∀(D:Nat) (xs:List α) (W:World),w.heap.size≤D→S xs→I xs W→W.heap[D]?=some (.deferred (some []))→Q .normal {a with defers:={target:= .collected D,args:=#[]}::a.defers} W):
  (Code.rangeFunc g ps assign body).wpIn F n P Q a w:=by
 refine wpIn_rangeFunc fun fn hfn=> ?_
 rw[hro]
 obtain⟨rec,hrec⟩:∃rec:LoopState→Option Code→Loop,rec=fun st pe=>{state:=st,pending:=pe,fn,tmps:=a.tmps,params:=ps,assign,body,defers:=w.heap.size}:=⟨_,rfl⟩
 obtain⟨W1,hW1⟩:∃W1,(w.alloc (.deferred (some []))).alloc (.loop (rec .ready none))=W1:=⟨_,rfl⟩
 have hs1:W1.heap.size=w.heap.size+2:=by rw[←hW1];simp
 have hL1:W1.heap[w.heap.size+1]?=some (.loop (rec .ready none)):=by
  have:=World.alloc_heap_new (w.alloc (.deferred (some []))) (.loop (rec .ready none))
  rw[hW1,World.size_alloc]at this
  exact this
 have hK1:W1.heap[w.heap.size]?=some (.deferred (some [])):=by
  rw[←hW1];exact(Below.heap_alloc _ _ _ (by simp)).trans (World.alloc_heap_new w _)
 have hI1:I [] W1:=hW1▸hI.alloc _ (hI.alloc _ h0)
 have hb1:Below w.heap.size w W1:=by
  rw[←hW1];exact((Below.refl _ w).alloc (Nat.le_refl _) _).alloc (by simp) _
 refine⟨w.heap.size+1,[{target:= .collected w.heap.size,args:=#[]}],W1,{target:= .fn (.func gf) lb,args:=#[.func (.yield (w.heap.size+1)) #[] #[]]},W1,gf,
  #[.func (.yield (w.heap.size+1)) #[] #[]]++lb,W1,?_,?_,?_,?_,fun _=>h1,?_⟩
 ·rw[←hW1,hrec];exact run_enterLoop_outer _ _ _ _ _
 ·simp only[resolve,hg]
  simp[go_sem]
 ·intro f' hf'
  simp[Target.leads]at hf'
  exact hf'▸hFg
 ·simp[invoke,go_sem,eg]
 refine(hseq (w.heap.size+1) (fun pre W=>I pre W∧W.heap[w.heap.size+1]?=some (.loop (rec .ready none))∧W.heap[w.heap.size]?=some (.deferred (some []))) W1 hb1
  (fun s A B hs hb=>⟨hIB s A B hs.1 hb,(hb.block _ (Array.getElem?_eq_some_iff.1 hs.2.1).1).trans hs.2.1,(hb.block _ (Array.getElem?_eq_some_iff.1 hs.2.2).1).trans hs.2.2⟩)
  ?_ ⟨hI1,hL1,hK1⟩).mono ?_
 ·
  rintro pre x Wj W ⟨hij,hlj,hkj⟩ hbj hrx hok
  have hi:=hIB _ _ _ hij hbj
  have hl:=(hbj.block _ (Array.getElem?_eq_some_iff.1 hlj).1).trans hlj
  have hk:=(hbj.block _ (Array.getElem?_eq_some_iff.1 hkj).1).trans hkj
  have hlt:w.heap.size+1<W.heap.size:=(Array.getElem?_eq_some_iff.1 hl).1
  have hy:=run_yield (P:=P) (args:=encs x) hl (by rw[hrec];exact hps x)
  rw[hrec]at hy
  refine⟨fn,_,assign,body,hy,roundIn_of_wpIn hfn (hassign _ x W _ ?_)⟩
  refine⟨_,run_beginRound hl (by rw[hrec]),?_⟩
  obtain⟨W2,hW2⟩:∃W2,W.putObj (w.heap.size+1) (.loop {rec .ready none with state:= .busy})=W2:=⟨_,rfl⟩
  have hl2:W2.heap[w.heap.size+1]?=some (.loop {rec .ready none with state:= .busy}):=hW2▸World.putObj_heap_same hlt
  have hk2:W2.heap[w.heap.size]?=some (.deferred (some [])):=hW2▸(World.putObj_heap_other (by omega)).trans hk
  have hw2:Below n₀ W W2:=hW2▸belowK_b hn₀ W _ _ _ (by omega) hl rfl rfl
  have hi2:I pre W2:=hW2▸hI.putObj _ hi (by omega) hl rfl
  have hr2:Rx Wj x W2:=hW2▸(hRx Wj).putObj _ hrx (by omega) hl rfl
  have hcel:∀(q:Nat) (o:Obj),Wj.heap[q]?=some o→o.isCells=true→W2.heap[q]?=some o:=fun q o ho hc=>by
   have h1:=(hbj.block q (Array.getElem?_eq_some_iff.1 ho).1).trans ho
   rw[←hW2]
   refine(World.putObj_heap_other (fun e=> ?_)).trans h1
   rw[e,hl]at h1
   cases h1
   cases hc
  rw[hW2]
  refine wpIn_mono (hbody _ pre x Wj W2 hij hcel (by have:=hbj.size;rw[←hW2];simpa using this) hi2 hr2 hok) ?_
  rintro e a3 W3 hp
  cases e with
  | normal=>
   obtain⟨hk3,hkp3,hi3⟩:=hp
   have hl3:=hk3.same _ _ (by omega) hl2 rfl
   have hk4:=hk3.same _ _ (Nat.le_refl _) hk2 rfl
   have hr:=run_endRound (P:=P) none hl3
   rw[hrec]at hr
   have hl4:(W3.putObj (w.heap.size+1) (.loop (rec .ready none))).heap[w.heap.size+1]?=some (.loop (rec .ready none)):=World.putObj_heap_same (Array.getElem?_eq_some_iff.1 hl3).1
   rw[hrec]at hl4
   refine⟨_,_,hr,rfl,⟨hI.putObj _ hi3 (by omega) hl3 rfl,?_,(World.putObj_heap_other (by omega)).trans hk4⟩,?_⟩
   ·rw[hrec];exact hl4
   ·exact hw2.trans (hkp3.trans (belowK_b hn₀ W3 _ _ _ (by omega) hl3 rfl rfl))
  | ret=>exact hp.elim
  | exit id=>exact hp.elim
  | goto t=>exact hp.elim
  | panic ch=>exact hp.elim
  | outgrown=>exact hp.elim
 ·
  rintro e W2 ⟨⟨v,rfl⟩,xs,hS,hi,hl,hk⟩
  have hr:=run_endLoop (P:=P) hl (by rw[hrec];simp)
  rw[hrec]at hr
  exact⟨none,_,hr,hdone _ xs _ (Nat.le_refl _) hS (hI.putObj _ hi (by omega) hl rfl) ((World.putObj_heap_other (by omega)).trans hk)⟩
def cutR (t:List Rg) (p:Int):Nat:=t.countP (fun r=>decide (r.hi<p))
theorem cutR_le (t:List Rg) (p:Int):cutR t p≤t.length:=List.countP_le_length
theorem cutR_iff {t:List Rg} (ht:MayTab t) (p:Int) {i:Nat} (hi:i<t.length):(rg t i).hi<p↔i<cutR t p:=by
 have hs:t.Pairwise (fun a b=>decide (b.hi<p)=true→decide (a.hi<p)=true):=by
  refine List.Pairwise.imp_of_mem (fun{a b} ha hb h=> ?_) ht.2.2
  have h1:=(ht.2.1 b hb).2.1
  simp only[decide_eq_true_eq]
  omega
 have h1:=take_countP hs
 constructor
 ·intro hlt
  rcases Nat.lt_or_ge i (cutR t p)with h2 | h2
  ·exact h2
  ·exfalso
   have:rg t i∈t.drop (cutR t p):=List.mem_of_getElem? (i:=i-cutR t p) (by rw[List.getElem?_drop,show cutR t p+(i-cutR t p)=i by omega];exact rg_eq hi)
   unfold cutR at this
   rw[h1.2,List.mem_filter]at this
   have:=this.2
   simp only[Bool.not_eq_true']at this
   exact of_decide_eq_false this hlt
 ·intro hlt
  have:rg t i∈t.take (cutR t p):=List.mem_of_getElem? (i:=i) (by rw[List.getElem?_take,if_pos hlt];exact rg_eq hi)
  unfold cutR at this
  rw[h1.1,List.mem_filter]at this
  exact of_decide_eq_true this.2
theorem clsOf_yes {t:List Rg} (ht:MayTab t) {p:Int} (h:cutR t p<t.length) (hl:(rg t (cutR t p)).lo≤p):clsOf t p=(rg t (cutR t p)).cls:=by
 have hh:p≤(rg t (cutR t p)).hi:=by
  have:=cutR_iff ht p h
  omega
 have:t.find? (fun r=>decide (r.lo≤p) && decide (p≤r.hi))=some (rg t (cutR t p)):=by
  rw[List.find?_eq_some_iff_getElem]
  refine⟨by simp[hl,hh],cutR t p,h,rg_get h,fun j hj=> ?_⟩
  rw[rg_get (by omega)]
  have:=(cutR_iff ht p (by omega:j<t.length)).2 hj
  simp
  omega
 unfold clsOf
 rw[this]
theorem clsOf_no {t:List Rg} (ht:MayTab t) {p:Int} (h:¬(cutR t p<t.length∧(rg t (cutR t p)).lo≤p)):clsOf t p=0:=by
 have:t.find? (fun r=>decide (r.lo≤p) && decide (p≤r.hi))=none:=by
  rw[List.find?_eq_none]
  intro r hr
  obtain⟨i,hi,rfl⟩:=List.getElem_of_mem hr
  rw[rg_get hi]
  have h1:=cutR_iff ht p hi
  simp only[Bool.and_eq_true,decide_eq_true_eq]
  rintro⟨h2,h3⟩
  rcases Nat.lt_or_ge i (cutR t p)with h4 | h4
  ·have:=h1.2 h4;omega
  ·rcases Nat.eq_or_lt_of_le h4 with h5 | h5
   ·rw[h5]at h;exact h ⟨hi,h2⟩
   ·have h6:=(List.pairwise_iff_getElem.1 ht.2.2) (cutR t p) i (by omega) hi h5
    rw[rg_get (by omega),rg_get hi]at h6
    have h7:=(ht.2.1 _ (List.mem_of_getElem? (rg_eq (show cutR t p<t.length by omega)))).2.1
    exact h ⟨by omega,by omega⟩
 unfold clsOf
 rw[this]
end Go.Proofs.YtimkkkdabmhedaaGreatDoor
