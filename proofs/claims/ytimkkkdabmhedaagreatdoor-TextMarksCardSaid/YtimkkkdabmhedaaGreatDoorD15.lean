/- Walk: the document's FromRows. (Printed by gRFrom.py.) -/
import Derived.Test.YtimkkkdabmhedaaGreatDoorD14
import Derived.Test.YtimkkkdabmhedaaGreatDoorD11
import Derived.Test.YtimkkkdabmhedaaGreatDoorD13
import Derived.Test.YtimkkkdabmhedaaGreatDoorD9
import Derived.Test.YtimkkkdabmhedaaGreatDoorD3
import Derived.DeepKeys4
import Derived.Maps.Own
set_option linter.unusedVariables false
set_option maxHeartbeats 2000000
set_option maxRecDepth 100000
namespace Go.Proofs.YtimkkkdabmhedaaGreatDoor
open Go.RowKit
theorem rof_q {T:List ByteArray} {ao:Option Addr} {n c:Nat} (s:ByteArray) {w:World} (hT:SlS w ao n c T) (k:Nat):
  Calls Tryz.prog 109 #[.slice ao n c, .string s] (w.drewN k) fun e w'=>e= .returned (.int .i64 (ofT T s))∧w'=w.drewN k:=
 (rof_calls s (w.drewN k) (hT.stay fun _ _ h=>h)).mono fun e w' ⟨h1,h2⟩=>⟨h1,h2.symm⟩
structure KeepG (g:Nat) (w w':World):Prop where
 size:w.heap.size≤w'.heap.size
 block:∀q,q<w.heap.size→q≠g→w'.heap[q]?=w.heap[q]?
theorem KeepG.refl (g:Nat) (w:World):KeepG g w w:=⟨Nat.le_refl _,fun _ _ _=>rfl⟩
theorem KeepG.below {g:Nat} {w w' w'':World} (h:KeepG g w w') (hb:Below w'.heap.size w' w''):KeepG g w w'':=
 ⟨Nat.le_trans h.size hb.size,fun q h1 h2=>(hb.block q (Nat.lt_of_lt_of_le h1 h.size)).trans (h.block q h1 h2)⟩
theorem KeepG.set {g:Nat} {w w':World} (h:KeepG g w w') (i:Nat) (v:Value):KeepG g w (w'.setCell ⟨g,i,none⟩ v):=
 ⟨by simpa using h.size,fun q h1 h2=>(Below.heap_setCell _ _ _ _ h2).trans (h.block q h1 h2)⟩
theorem OwnT.keepG {g:Nat} {w w':World} {base:Nat} {v:Value} {L:List ByteArray} (h:OwnT w base v L) (hk:KeepG g w w') (hg:∀q,v.ownBlock=some q→q≠g):OwnT w' base v L:=
 own_stay h fun q hq=>hk.block q (World.ownsRow.lt h q hq).2 (hg q hq)
theorem OwnF.keepG {α:Type} {enc:α→List Value} {s:Nat} {t:TypeId} {g:Nat} {w w':World} {base:Nat} {v:Value} {L:List α} (h:OwnF enc s t w base v L) (hk:KeepG g w w') (hg:∀q,v.ownBlock=some q→q≠g):OwnF enc s t w' base v L:=
 own_stay h fun q hq=>hk.block q (World.ownsRow.lt h q hq).2 (hg q hq)
theorem set_cell1 {w:World} {g:Nat} {x y z v:Value} {t:TypeId} (h:w.heap[g]?=some (.cells #[x,y,z] t)):(w.setCell ⟨g,1,none⟩ v).heap[g]?=some (.cells #[x,v,z] t):=by
 simp[World.setCell,Array.getElem?_modify,h]
def RFromPost (R:List Rw) (S:List Sp) (w:World) (e:Ending) (w':World):Prop:=
 ((GoodVoc R S∧∃d:Vd,e= .returned (.tuple #[d.val, .bool true])∧VocR w' d (vocOf R S))∨(¬GoodVoc R S∧e= .returned (.tuple #[noVd.val, .bool false])))∧Below w.heap.size w w'
theorem rfromRows_calls {R:List Rw} {S:List Sp} {ro so:Option Addr} {rn rc sn sc:Nat} (w:World) (hR:SlF 2 w ro rn rc (flat Rw.enc R)) (hS:SlF 2 w so sn sc (flat Sp.enc S))
  (hrs:∀r∈R,r.token.size≤maxLen) (hss:Sized S) (hsn:sn≤20):
  Calls Tryz.prog 76 #[.slice ro rn rc, .slice so sn sc] w (RFromPost R S w):=by
 obtain⟨w0,hw0⟩:∃w0,w.alloc (.cells #[.slice none 0 0, .slice none 0 0, .slice none 0 0] 26)=w0:=⟨_,rfl⟩
 have hb0:Below w.heap.size w w0:=hw0▸below_alloc w _
 have hx0:w0.heap[w.heap.size]?=some (.cells #[.slice none 0 0, .slice none 0 0, .slice none 0 0] 26):=by rw[←hw0];exact heap_alloc_new w _
 have hs0:w.heap.size<w0.heap.size:=by rw[←hw0];simp
 have hbase:=base_calls w0 (hR.below hb0) (hS.below hb0) hrs hss hsn
 have HX0:=Lib.hid hx0
 have HB0:=Lib.hid hb0
 have HW0:=Lib.hid hw0
 have HSZ:Hid (∀s∈toksOf R S,s.size≤maxLen):=Lib.hid (toks_sized hrs)
 have HSS:=Lib.hid hss
 have HSL:Hid (S.length≤20):=Lib.hid (by rw[hS.count Sp.enc_len (by omega)];exact hsn)
 obtain⟨T,hT⟩:∃T,toksOf R S=T:=⟨_,rfl⟩
 have HTE:=Lib.hid hT
 rw[hT]at HSZ
 clear hb0 hx0 hw0 hrs hss hS hR hT
 go_enter Tryz.func76,Tryz.ntmps76
 go_wp2_with (fail)
 rw[HW0.out]
 refine hbase.mono ?_
 rintro e w1 ⟨⟨hok,gt,n,sa,sn',sc',S',bt,rfl,hot,hos,hps,hsd,hbt⟩ | ⟨hno,rfl⟩,hb1⟩
 ·rw[HTE.out]at hot hbt
  have HPS:=Lib.hid hps
  have HSD:=Lib.hid hsd
  have HOKR:=Lib.hid hok
  have HB1:=Lib.hid hb1
  cases bt with
  | false=>
   have HF:Hid (¬GoodVoc R S):=Lib.hid (fun h=>by
    have:=hbt.2 (by rw[←HTE.out];exact h.2.1)
    cases this)
   clear hbase hot hos hps hsd hbt hb1 hok
   obtain⟨w2,hw2⟩:∃w2,w1.alloc (.cells #[.slice (some ⟨gt,0,none⟩) n n, .slice none 0 0, .slice sa sn' sc'] 26)=w2:=⟨_,rfl⟩
   have HBF:Hid (Below w0.heap.size w0 w2):=Lib.hid (by rw[←hw2];exact HB1.out.alloc HB1.out.size _)
   obtain⟨c0,c1,c2⟩:=box3v ((HBF.out.block w.heap.size hs0).trans HX0.out)
   have f0:=boxf ((HBF.out.block w.heap.size hs0).trans HX0.out)
   rw[←hw2]at c0 c1 c2 f0 HBF
   clear hw2
   go_wp2_with (fail)
   refine bodyPost_ret (v:= .tuple #[noVd.val, .bool false]) ?_ rfl ⟨.inr ⟨HF.out,rfl⟩,?_⟩
   ·simp[results,Tryz.results76,go_sem,c0,c1,c2,noVd]
   ·exact(((HB0.out.trans (HBF.out.mono HB0.out.size)).setCell (Nat.le_refl _) _).setCell (Nat.le_refl _) _).setCell (Nat.le_refl _) _
  | true=>
   have HMT:=Lib.hid (hbt.1 rfl)
   have H64:=Lib.hid HMT.out.2.1
   have hn:T.length=n:=by
    obtain⟨a',c',e',_⟩:=ownT_slice hot
    simp only[Value.slice.injEq]at e'
    omega
   have HN:=Lib.hid hn
   have hn4:n≤4096:=by rw[←hn];exact HMT.out.1
   obtain⟨w2,hw2⟩:∃w2,w1.alloc (.cells #[.slice (some ⟨gt,0,none⟩) n n, .slice none 0 0, .slice sa sn' sc'] 26)=w2:=⟨_,rfl⟩
   have hb2:Below w1.heap.size w1 w2:=hw2▸below_alloc w1 _
   have hx2:w2.heap[w1.heap.size]?=some (.cells #[.slice (some ⟨gt,0,none⟩) n n, .slice none 0 0, .slice sa sn' sc'] 26):=by rw[←hw2];exact heap_alloc_new w1 _
   have hs2:w1.heap.size<w2.heap.size:=by rw[←hw2];simp
   have HGT:Hid (∀q,(Value.slice (some ⟨gt,0,none⟩) n n).ownBlock=some q→q≠w1.heap.size):=Lib.hid (fun q hq=>by have:=(World.ownsRow.lt hot q hq).2;omega)
   have HGS:Hid (∀q,(Value.slice sa sn' sc').ownBlock=some q→q≠w1.heap.size):=Lib.hid (fun q hq=>by have:=(World.ownsRow.lt hos q hq).2;omega)
   have HOT:=Lib.hid (OwnT.below hot hb2)
   have HOS:=Lib.hid (OwnF.below hos hb2)
   have HX2:=Lib.hid hx2
   have HG0:Hid (w0.heap.size≤w1.heap.size):=Lib.hid HB1.out.size
   have HW2:=Lib.hid hw2
   have HB2:Hid (Below w0.heap.size w0 w2):=Lib.hid (hb1.trans (hb2.mono hb1.size))
   clear hbase hot hos hps hsd hbt hb1 hok hw2 hb2 hx2 hn
   go_wp2_with (fail)
   rw[HW2.out]
   go_loopw [25] (fun i wr=>∃(k:Nat) (mv:Value) (M':List Mg),k≤n∧i= .int .i64 k∧Hid (M'.Perm (mergesTo T k))∧Hid (SortedM M')∧OwnF Mg.enc 4 165 wr w2.heap.size mv M'∧wr.heap[w1.heap.size]?=some (.cells #[.slice (some ⟨gt,0,none⟩) n n,mv, .slice sa sn' sc'] 26)∧KeepG w1.heap.size w2 wr∧Below w0.heap.size w0 wr) (fun i _=>n-(intOf i).toNat)
   case atStart=>exact⟨0,_,[],Nat.zero_le _,rfl,Lib.hid (by rw[mergesTo_zero]),Lib.hid List.Pairwise.nil,OwnF.nil _ _,HX2.out,KeepG.refl _ _,HB2.out⟩
   case round=>
    obtain⟨k,mv,M',hk,rfl,HP,HSM,ho,hbx,hkp,hbb⟩:=hrel
    have HO:=Lib.hid ho
    have HBX:=Lib.hid hbx
    have HKP:=Lib.hid hkp
    have HBB:=Lib.hid hbb
    have HG6:Hid (w1.heap.size<wr.heap.size):=Lib.hid (Nat.lt_of_lt_of_le hs2 hkp.size)
    obtain⟨d0,d1,d2⟩:=box3v hbx
    have fv:=boxf hbx
    clear ho hbx hkp hbb
    by_cases hlt:k<n
    ·have hkT:k<T.length:=by have:=HN.out;omega
     obtain⟨b,o,e9,hc⟩:=SlS.cell (T:=T) (w:=wr) (ao:=some ⟨gt,0,none⟩) (n:=n) (c:=n) (by
      have h:=OwnT.keepG HOT.out HKP.out HGT.out
      obtain⟨a',c',e',h'⟩:=ownT_slice h
      simp only[Value.slice.injEq]at e'
      obtain⟨rfl,e2,rfl⟩:=e'
      rw[←e2]at h'
      exact h') (tk_eq hkT)
     simp only[Option.some.injEq,Addr.mk.injEq,and_true]at e9
     obtain⟨rfl,rfl⟩:=e9
     have hks:=H64.out _ (tk_mem hkT)
     obtain⟨s,hs⟩:∃s,tk T k=s:=⟨_,rfl⟩
     rw[hs]at hc hks
     rw[Nat.zero_add]at hc
     have HSE:=Lib.hid hs
     clear hs
     obtain⟨wo,rfl⟩:∃wo:World,wo=wr:=⟨_,rfl⟩
     go_wp2_with (fail)
     go_loopw [10] (fun i wr=>∃(j:Nat) (mv:Value) (M':List Mg),1≤j∧(j≤s.size∨j=1)∧i= .int .i64 j∧Hid (M'.Perm (mergesTo T k++cutsTo T k (j-1)))∧Hid (SortedM M')∧OwnF Mg.enc 4 165 wr w2.heap.size mv M'∧wr.heap[w1.heap.size]?=some (.cells #[.slice (some ⟨gt,0,none⟩) n n,mv, .slice sa sn' sc'] 26)∧KeepG w1.heap.size w2 wr∧Below w0.heap.size w0 wr) (fun i _=>s.size-(intOf i).toNat)
     case atStart=>exact⟨1,mv,M',Nat.le_refl _, .inr rfl,rfl,Lib.hid (by simpa[cutsTo_zero]using HP.out),HSM,HO.out,HBX.out,HKP.out,HBB.out⟩
     case round=>
      obtain⟨j,mv,M',hj1,hj,rfl,HP,HSM,ho,hbx,hkp,hbb⟩:=hrel
      have HO:=Lib.hid ho
      have HBX:=Lib.hid hbx
      have HKP:=Lib.hid hkp
      have HBB:=Lib.hid hbb
      have HG6:Hid (w1.heap.size<wr.heap.size):=Lib.hid (Nat.lt_of_lt_of_le hs2 hkp.size)
      obtain⟨d0,d1,d2⟩:=box3v hbx
      have fv:=boxf hbx
      clear ho hbx hkp hbb
      by_cases hlt2:j<s.size
      ·have hy1:(s.extract 0 j).size≤maxLen:=by rw[ByteArray.size_extract];unfold maxLen;omega
       have hy2:(s.extract j s.size).size≤maxLen:=by rw[ByteArray.size_extract];unfold maxLen;omega
       obtain⟨a1,ha1⟩:∃a1,ofT T (s.extract 0 j)=a1:=⟨_,rfl⟩
       obtain⟨a2,ha2⟩:∃a2,ofT T (s.extract j s.size)=a2:=⟨_,rfl⟩
       have HC:Hid (cutAt T k (j-1)=if 0≤a1∧0≤a2 then some ⟨a1,a2,k,k⟩else none):=Lib.hid (by
        unfold cutAt
        rw[HSE.out,show j-1+1=j by omega,ha1,ha2])
       have HJ:Hid (j-1+1=j+1-1):=Lib.hid (by omega)
       have hcu:∃cc,cc=j-1:=⟨_,rfl⟩
       have HTW:Hid (SlS wr (some ⟨gt,0,none⟩) n n T):=Lib.hid (by
        have h:=OwnT.keepG HOT.out HKP.out HGT.out
        obtain⟨a',c',e',h'⟩:=ownT_slice h
        simp only[Value.slice.injEq]at e'
        obtain⟨rfl,e2,rfl⟩:=e'
        rw[←e2]at h'
        exact h')
       have q1:=fun m=>rof_q (s.extract 0 j) HTW.out m
       rw[ha1]at q1
       clear ha1
       go_wp2_with (fail)
       go_quiet ((go_at_call 109;exact Calls.quiet_of_same (q1 _)))
       obtain⟨wx,hwx⟩:∃wx,wr.drewN nq=wx:=⟨_,rfl⟩
       have HTX:Hid (SlS wx (some ⟨gt,0,none⟩) n n T):=Lib.hid (by rw[←hwx];exact Sl.stay HTW.out fun _ _ h=>h)
       have e0:wx.cell? ⟨w1.heap.size,0,none⟩=some (.slice (some ⟨gt,0,none⟩) n n):=by rw[←hwx];exact d0
       have q2:=fun m=>rof_q (s.extract j s.size) HTX.out m
       rw[ha2]at q2
       clear q1 ha2
       rw[hwx]
       go_wp2_with (fail)
       go_quiet ((go_at_call 109;exact Calls.quiet_of_same (q2 _)))
       obtain⟨wy,hwy⟩:∃wy,wx.drewN nq=wy:=⟨_,rfl⟩
       have hry:Below wr.heap.size wr wy:=by rw[←hwy,←hwx];exact below_drewN (below_drewN (Below.refl _ _) _) _
       have HRY:=Lib.hid hry
       have hxy:=(hry.block w1.heap.size HG6.out).trans HBX.out
       have HXY:=Lib.hid hxy
       obtain⟨y0,y1,y2⟩:=box3v hxy
       rw[hwy]
       have HOY:=Lib.hid (HO.out.below hry)
       clear q2 hwx hwy hry hxy d0 d1 d2 fv e0
       by_cases h0:0≤a1∧0≤a2
       ·have HC2:=HC.out
        rw[if_pos h0]at HC2
        have HCC:=Lib.hid (cutsTo_some HC2)
        rw[HJ.out]at HCC
        obtain⟨h01,h02⟩:=h0
        have hd1:decide (0≤a1)=true:=by simpa using h01
        have hd2:decide (0≤a2)=true:=by simpa using h02
        have hML:M'.length≤300000:=by
         have q1:=mergesTo_len H64.out (k:=k) (by omega)
         have q2:=cutsTo_len T k (j-1)
         rw[HP.out.length_eq,List.length_append]
         omega
        obtain⟨mo,mc,rfl,hsl⟩:=HOY.out.sl
        obtain⟨ln,hln⟩:∃ln,M'.length=ln:=⟨_,rfl⟩
        rw[hln]at hsl hML y1 HXY
        have hput:=rput_calls a1 a2 (k:Int) (k:Int) wy hsl hML
        have HSY:Hid (wr.heap.size≤wy.heap.size):=Lib.hid HRY.out.size
        clear HC2 hln hsl
        go_wp2_with (fail)
        refine hput.mono ?_
        rintro e wz ⟨⟨v',M'',rfl,ho',hp',hs'⟩,hbz⟩
        obtain⟨xo,xc,rfl,_⟩:=ho'.sl
        obtain⟨xn,hxn⟩:∃xn,M''.length=xn:=⟨_,rfl⟩
        rw[hxn]at ho' ⊢
        clear hxn
        have HO':=Lib.hid ho'
        have HBZ:=Lib.hid hbz
        have hxz:=(hbz.block w1.heap.size (Nat.lt_of_lt_of_le HG6.out HSY.out)).trans HXY.out
        have HXZ:=Lib.hid hxz
        obtain⟨z0,z1,z2⟩:=box3v hxz
        have fz:=boxf hxz
        have HP':Hid (M''.Perm (mergesTo T k++cutsTo T k (j+1-1))):=Lib.hid (by
         rw[HCC.out,←List.append_assoc]
         exact hp'.trans (HP.out.append_right _))
        have HS':=Lib.hid (hs' HSM.out)
        clear ho' hbz hxz hp' hs' hput y0 y1 y2
        go_wp2_with (fail)
        go_roundw
        case rel=>exact⟨j+1,_,M'',by omega, .inl (by omega),by go_num,HP',HS',
         OwnF.mono (own_stay HO'.out fun q hq=>Below.heap_setCell _ _ _ _ (by show q≠w1.heap.size;have:=(World.ownsRow.lt HO'.out q hq).1;have:=HSY.out;have:=HG6.out;omega)) (Nat.le_trans HKP.out.size HSY.out),
         set_cell1 HXZ.out,((HKP.out.below HRY.out).below HBZ.out).set _ _,((HBB.out.trans (HRY.out.mono HBB.out.size)).trans (HBZ.out.mono (Nat.le_trans HBB.out.size HSY.out))).setCell (by exact HG0.out) _⟩
        case measure=>simp[intOf];omega
       ·have HC2:=HC.out
        rw[if_neg h0]at HC2
        have HCC:=Lib.hid (cutsTo_none HC2)
        rw[HJ.out]at HCC
        clear HC2
        by_cases h0a:0≤a1
        ·have hd1:decide (0≤a1)=true:=by simpa using h0a
         have h0b:¬0≤a2:=fun h=>h0 ⟨h0a,h⟩
         have hd2:decide (0≤a2)=false:=by simpa using h0b
         clear h0
         go_wp2_with (fail)
         go_roundw
         case rel=>exact⟨j+1,mv,M',by omega, .inl (by omega),by go_num,Lib.hid (by rw[HCC.out];exact HP.out),HSM,HOY.out,HXY.out,HKP.out.below HRY.out,HBB.out.trans (HRY.out.mono HBB.out.size)⟩
         case measure=>simp[intOf];omega
        ·have hd1:decide (0≤a1)=false:=by simpa using h0a
         clear h0
         go_wp2_with (fail)
         go_roundw
         case rel=>exact⟨j+1,mv,M',by omega, .inl (by omega),by go_num,Lib.hid (by rw[HCC.out];exact HP.out),HSM,HOY.out,HXY.out,HKP.out.below HRY.out,HBB.out.trans (HRY.out.mono HBB.out.size)⟩
         case measure=>simp[intOf];omega
      ·have HEQ:Hid (M'.Perm (mergesTo T (k+1))):=Lib.hid (by
        rw[mergesTo_succ,cutsOf_eq,HSE.out,show s.size-1=j-1 by omega]
        exact HP.out)
       go_wp2_with (fail)
       go_roundw
       case rel=>exact⟨k+1,mv,M',by omega,by go_num,HEQ,HSM,HO.out,HBX.out,HKP.out,HBB.out⟩
       case measure=>simp[intOf];omega
    ·obtain rfl:k=n:=by omega
     have hMA:mergesTo T k=mergesOf T:=by rw[←HN.out];exact mergesTo_all T
     have HPM:Hid (M'.Perm (mergesOf T)):=Lib.hid (by rw[←hMA];exact HP.out)
     obtain⟨mo,mc,rfl,hsl⟩:=HO.out.sl
     obtain⟨ln,hln⟩:∃ln,M'.length=ln:=⟨_,rfl⟩
     have HO9:=Lib.hid HO.out
     rw[hln]at hsl d1 HBX HO9
     have hvr:VocR wr ⟨some ⟨gt,0,none⟩,k,k,mo,ln,mc,sa,sn',sc'⟩ ⟨T,M',S'⟩:=by
      refine⟨?_,hsl,?_⟩
      ·have h:=OwnT.keepG HOT.out HKP.out HGT.out
       obtain⟨a',c',e',h'⟩:=ownT_slice h
       simp only[Value.slice.injEq]at e'
       obtain⟨rfl,e2,rfl⟩:=e'
       rw[←e2]at h'
       exact h'
      ·exact ownF_slice (OwnF.keepG HOS.out HKP.out HGS.out)
     have hvok:VOk ⟨T,M',S'⟩:=⟨HSZ.out,fun s hs=>HSS.out s (HPS.out.mem_iff.1 hs),by
      have:=HPS.out.length_eq
      have:=HSL.out
      show S'.length≤_
      omega⟩
     have hmay:=rmay_calls (V:=⟨T,M',S'⟩) (dd:=⟨some ⟨gt,0,none⟩,k,k,mo,ln,mc,sa,sn',sc'⟩) wr hvr hvok
     clear hMA hsl hln hvr hvok
     go_wp2_with (fail)
     refine hmay.mono ?_
     rintro e w5 ⟨⟨b,rfl,hi⟩,hb5⟩
     have HI:=Lib.hid hi
     have HB5:Hid (Below w0.heap.size w0 w5):=Lib.hid (HBB.out.trans (hb5.mono HBB.out.size))
     have HKP5:=Lib.hid (HKP.out.below hb5)
     have HO5:=Lib.hid (HO9.out.below hb5)
     have hx6:=(hb5.block w1.heap.size HG6.out).trans HBX.out
     obtain⟨y0,y1,y2⟩:=box3v hx6
     obtain⟨c0,c1,c2⟩:=box3v ((HB5.out.block w.heap.size hs0).trans HX0.out)
     have f0:=boxf ((HB5.out.block w.heap.size hs0).trans HX0.out)
     have HVO:Hid (vocOf R S=⟨T,sortMg (mergesOf T),sortSp S⟩):=Lib.hid (by unfold vocOf;rw[HTE.out])
     have HSO:=Lib.hid (sorted_may (T:=T) HPM.out HSM.out HPS.out HSD.out)
     clear hmay hi hb5 hx6 d0 d1 d2 fv
     cases b with
     | false=>
      have HF:Hid (¬GoodVoc R S):=Lib.hid (fun h=>by
       have h2:=h.2
       rw[HVO.out]at h2
       have:=HI.out.2 (HSO.out.1.2 h2)
       cases this)
      go_wp2_with (fail)
      refine bodyPost_ret (v:= .tuple #[noVd.val, .bool false]) ?_ rfl ⟨.inr ⟨HF.out,rfl⟩,?_⟩
      ·simp[results,Tryz.results76,go_sem,c0,c1,c2,noVd]
      ·exact(((HB0.out.trans (HB5.out.mono HB0.out.size)).setCell (Nat.le_refl _) _).setCell (Nat.le_refl _) _).setCell (Nat.le_refl _) _
     | true=>
      have HG:Hid (GoodVoc R S∧M'=sortMg (mergesOf T)∧S'=sortSp S):=Lib.hid (by
       have h:=HI.out.1 rfl
       exact⟨⟨HOKR.out,by rw[HVO.out];exact HSO.out.1.1 h⟩,HSO.out.2 h⟩)
      go_wp2_with (fail)
      refine bodyPost_ret (v:= .tuple #[Vd.val ⟨some ⟨gt,0,none⟩,k,k,mo,ln,mc,sa,sn',sc'⟩, .bool true]) ?_ rfl ⟨.inl ⟨HG.out.1,⟨some ⟨gt,0,none⟩,k,k,mo,ln,mc,sa,sn',sc'⟩,rfl,?_⟩,?_⟩
      ·simp[results,Tryz.results76,go_sem,c0,c1,c2]
      ·rw[HVO.out,←HG.out.2.1,←HG.out.2.2]
       refine⟨?_,ownF_slice (own_stay HO5.out fun q h=>heap_set3 _ _ _ _ _ ?_),ownF_slice (own_stay (OwnF.keepG HOS.out HKP5.out HGS.out) fun q h=>heap_set3 _ _ _ _ _ ?_)⟩
       ·have h:=OwnT.keepG HOT.out HKP5.out HGT.out
        have h2:OwnT _ w0.heap.size (.slice (some ⟨gt,0,none⟩) k k) T:=own_stay h fun q hq=>heap_set3 w5 w.heap.size (.slice (some ⟨gt,0,none⟩) k k) (.slice mo ln mc) (.slice sa sn' sc') (by have:=(World.ownsRow.lt h q hq).1;omega)
        obtain⟨a',c',e',h'⟩:=ownT_slice h2
        simp only[Value.slice.injEq]at e'
        obtain⟨rfl,e2,rfl⟩:=e'
        rw[←e2]at h'
        exact h'
       ·have:=(World.ownsRow.lt HO5.out q h).1
        have:=HB2.out.size
        omega
       ·have:=(World.ownsRow.lt (OwnF.keepG HOS.out HKP5.out HGS.out) q h).1
        omega
      ·exact(((HB0.out.trans (HB5.out.mono HB0.out.size)).setCell (Nat.le_refl _) _).setCell (Nat.le_refl _) _).setCell (Nat.le_refl _) _
 ·have HF:Hid (¬GoodVoc R S):=Lib.hid (fun h=>hno h.1)
  have HB1:=Lib.hid hb1
  clear hb1 hbase hno
  simp only[noVd]
  obtain⟨w2,hw2⟩:∃w2,w1.alloc (.cells #[.slice none 0 0, .slice none 0 0, .slice none 0 0] 26)=w2:=⟨_,rfl⟩
  have HBF:Hid (Below w0.heap.size w0 w2):=Lib.hid (by rw[←hw2];exact HB1.out.alloc HB1.out.size _)
  obtain⟨c0,c1,c2⟩:=box3v ((HBF.out.block w.heap.size hs0).trans HX0.out)
  have f0:=boxf ((HBF.out.block w.heap.size hs0).trans HX0.out)
  rw[←hw2]at c0 c1 c2 f0 HBF
  clear hw2
  go_wp2_with (fail)
  refine bodyPost_ret (v:= .tuple #[noVd.val, .bool false]) ?_ rfl ⟨.inr ⟨HF.out,rfl⟩,?_⟩
  ·simp[results,Tryz.results76,go_sem,c0,c1,c2,noVd]
  ·exact(((HB0.out.trans (HBF.out.mono HB0.out.size)).setCell (Nat.le_refl _) _).setCell (Nat.le_refl _) _).setCell (Nat.le_refl _) _
def GreatK (V:Vc) (N:List ByteArray) (T:List Rg):Prop:=GreatV V∨20<N.length∨80<T.length∨∃s∈N,40<s.size
def Great16Post (V:Vc) (N:List ByteArray) (T:List Rg) (w:World) (e:Ending) (w':World):Prop:=(∃b,e= .returned (.bool b)∧(b=true↔GreatK V N T))∧Below w.heap.size w w'
theorem great16_calls {V:Vc} {dd:Vd} {N:List ByteArray} {T:List Rg} {no to_:Option Addr} {nn nc tn tc:Nat} (w:World) (hV:VocR w dd V) (hok:(∀s∈V.tokens,s.size≤maxLen)∧Sized V.specials) (hN:SlS w no nn nc N) (hNs:∀s∈N,s.size≤maxLen)
  (hT:SlF 3 w to_ tn tc (flat Rg.enc T)):Calls Tryz.prog 12 #[dd.val, .slice no nn nc, .slice to_ tn tc] w (Great16Post V N T w):=by
 obtain⟨ta,tn',tc',ma,mn,mc,sa,sn,sc⟩:=dd
 obtain⟨w0,hw0⟩:∃w0,w.alloc (.cells #[.slice ta tn' tc', .slice ma mn mc, .slice sa sn sc] 26)=w0:=⟨_,rfl⟩
 have hb0:Below w.heap.size w w0:=hw0▸below_alloc w _
 have hx0:w0.heap[w.heap.size]?=some (.cells #[.slice ta tn' tc', .slice ma mn mc, .slice sa sn sc] 26):=by rw[←hw0];exact heap_alloc_new w _
 obtain⟨c0,c1,c2⟩:=box3v hx0
 have hgr:=greatV_calls (dd:=⟨ta,tn',tc',ma,mn,mc,sa,sn,sc⟩) w0 (hV.below hb0) hok
 have HN:=Lib.hid (hN.below hb0)
 have HB0:=Lib.hid hb0
 have HNS:=Lib.hid hNs
 have HNL:=Lib.hid hN.count
 have HTL:=Lib.hid (hT.count Rg.enc_len (by omega))
 have hm1:=Nat.le_trans (Sl.le hN) (Sl.max hN)
 have hm2:=Nat.le_trans hT.le hT.max
 unfold maxLen at hm1 hm2
 have HW0:=Lib.hid hw0
 clear hV hN hT hNs hb0 hx0 hw0 hok
 go_enter Tryz.func12,Tryz.ntmps12
 go_wp2_with (fail)
 rw[HW0.out]
 refine hgr.mono ?_
 rintro e w1 ⟨⟨b,rfl,hb⟩,hb1⟩
 have HB1:=Lib.hid (HB0.out.trans (hb1.mono HB0.out.size))
 have HG:=Lib.hid hb
 have HN1:=Lib.hid (Sl.below HN.out hb1)
 clear hb hb1 hgr c0 c1 c2 HN
 cases b with
 | true=>
  have HF:Hid (GreatK V N T):=Lib.hid (.inl (HG.out.1 rfl))
  go_wp2_with (fail)
  go_ret
  exact⟨⟨_,rfl,(fun _=>HF.out),(fun _=>rfl)⟩,HB1.out⟩
 | false=>
 by_cases h20:(20:Int)<nn
 ·have HF:Hid (GreatK V N T):=Lib.hid (.inr (.inl (by rw[HNL.out];omega)))
  go_wp2_with (fail)
  go_ret
  exact⟨⟨_,rfl,(fun _=>HF.out),(fun _=>rfl)⟩,HB1.out⟩
 by_cases h80:(80:Int)<tn
 ·have HF:Hid (GreatK V N T):=Lib.hid (.inr (.inr (.inl (by rw[HTL.out];omega))))
  go_wp2_with (fail)
  go_ret
  exact⟨⟨_,rfl,(fun _=>HF.out),(fun _=>rfl)⟩,HB1.out⟩
 go_wp2_with (fail)
 go_loop [7,22] (fun _ i=>∃k:Nat,k≤nn∧i= .int .i64 k∧Hid (∀j,j<k→¬40<(tk N j).size)) (fun _ i=>nn-(intOf i).toNat)
 case atStart=>exact⟨0,Nat.zero_le _,rfl,Lib.hid (fun j h=>by omega)⟩
 case round=>
  obtain⟨k,hk,rfl,HK⟩:=hrel
  by_cases hlt:k<nn
  ·have hkT:k<N.length:=by have:=HNL.out;omega
   obtain⟨b,o,hao,hc⟩:=SlS.cell HN1.out (tk_eq hkT)
   subst hao
   have hks:=HNS.out _ (tk_mem hkT)
   unfold maxLen at hks
   by_cases h40:(40:Int)<(tk N k).size
   ·have HF:Hid (GreatK V N T):=Lib.hid (.inr (.inr (.inr ⟨_,tk_mem hkT,by omega⟩)))
    go_wp2_with (fail)
    go_ret
    exact⟨⟨_,rfl,(fun _=>HF.out),(fun _=>rfl)⟩,HB1.out⟩
   ·have HK2:Hid (∀j,j<k+1→¬40<(tk N j).size):=Lib.hid (fun j hj=>by
     by_cases e:j=k
     ·subst e;omega
     ·exact HK.out j (by omega))
    go_wp2_with (fail)
    go_round
    case rel=>exact⟨k+1,by omega,by go_num,HK2⟩
    case measure=>simp[intOf];omega
  ·have HF:Hid (¬GreatK V N T):=Lib.hid (by
    rintro(h | h | h | ⟨s,hs,h⟩)
    ·have:=HG.out.2 h;cases this
    ·have:=HNL.out;omega
    ·have:=HTL.out;omega
    ·obtain⟨j,hj,rfl⟩:=mem_tk hs
     exact HK.out j (by have:=HNL.out;omega) h)
   go_wp2_with (fail)
   go_ret
   exact⟨⟨_,rfl,(fun h=>by cases h),(fun h=>absurd h HF.out)⟩,HB1.out⟩
def noC:Value:= .agg #[.slice none 0 0, .slice none 0 0, .slice none 0 0, .slice none 0 0, .int .i64 0, .slice none 0 0]
def New16Post (dd:Vd) (no:Option Addr) (nn nc:Nat) (V:Vc) (N:List ByteArray) (kind:Int) (T:List Rg) (room:Int) (w:World) (e:Ending) (w':World):Prop:=
 ((¬May V∧e= .returned (.tuple #[noC, .int .i64 2]))∨(May V∧¬OkKit N kind T room∧e= .returned (.tuple #[noC, .int .i64 1]))∨
  (May V∧OkKit N kind T room∧∃to_ tn tc,e= .returned (.tuple #[.agg #[.slice dd.ta dd.tn dd.tc, .slice dd.ma dd.mn dd.mc, .slice dd.sa dd.sn dd.sc, .slice no nn nc, .int .i64 kind, .slice to_ tn tc], .int .i64 0])∧SlF 3 w' to_ tn tc (flat Rg.enc (tabOf T))))∧Below w.heap.size w w'
theorem box6 {w:World} {g:Nat} {a b c d e f:Value} {t:TypeId} (h:w.heap[g]?=some (.cells #[a,b,c,d,e,f] t)):
  w.cell? ⟨g,0,none⟩=some a∧w.cell? ⟨g,1,none⟩=some b∧w.cell? ⟨g,2,none⟩=some c∧w.cell? ⟨g,3,none⟩=some d∧w.cell? ⟨g,4,none⟩=some e∧w.cell? ⟨g,5,none⟩=some f∧∀o,w.frozen? ⟨g,o,none⟩=false:=by
 simp[World.cell?,World.frozen?,h]
theorem rnew16_calls {V:Vc} {dd:Vd} {N:List ByteArray} {kind:Int} {T:List Rg} {room:Int} {no to_:Option Addr} {nn nc tn tc:Nat} (w:World) (hV:VocR w dd V) (hok:VOk V) (hN:SlS w no nn nc N) (hNs:∀s∈N,s.size≤maxLen)
  (hT:SlF 3 w to_ tn tc (flat Rg.enc T)):Calls Tryz.prog 15 #[dd.val, .slice no nn nc, .int .i64 kind, .slice to_ tn tc, .int .i64 room] w (New16Post dd no nn nc V N kind T room w):=by
 obtain⟨ta,tn',tc',ma,mn,mc,sa,sn,sc⟩:=dd
 obtain⟨w0,hw0⟩:∃w0,(w.alloc (.cells #[.slice ta tn' tc', .slice ma mn mc, .slice sa sn sc] 26)).alloc (.cells #[.slice none 0 0, .slice none 0 0, .slice none 0 0, .slice none 0 0, .int .i64 0, .slice none 0 0] 37)=w0:=⟨_,rfl⟩
 have hb0:Below w.heap.size w w0:=hw0▸(below_alloc w _).alloc (by simp) _
 have hx0:w0.heap[w.heap.size]?=some (.cells #[.slice ta tn' tc', .slice ma mn mc, .slice sa sn sc] 26):=by rw[←hw0];exact(Below.heap_alloc _ _ _ (by simp)).trans (heap_alloc_new w _)
 have hx1:w0.heap[w.heap.size+1]?=some (.cells #[.slice none 0 0, .slice none 0 0, .slice none 0 0, .slice none 0 0, .int .i64 0, .slice none 0 0] 37):=by
  rw[←hw0]
  have:=heap_alloc_new (w.alloc (.cells #[.slice ta tn' tc', .slice ma mn mc, .slice sa sn sc] 26)) (.cells #[.slice none 0 0, .slice none 0 0, .slice none 0 0, .slice none 0 0, .int .i64 0, .slice none 0 0] 37)
  simpa using this
 have hsz1:w.heap.size<w0.heap.size:=by rw[←hw0];simp;omega
 have hsz2:w.heap.size+1<w0.heap.size:=by rw[←hw0];simp
 have HSZ1:=Lib.hid hsz1
 have HSZ2:=Lib.hid hsz2
 obtain⟨c0,c1,c2⟩:=box3v hx0
 have hma:=rmay_calls (dd:=⟨ta,tn',tc',ma,mn,mc,sa,sn,sc⟩) w0 (hV.below hb0) hok
 have HBC:Hid (w.heap.size≤w.heap.size+1):=Lib.hid (by omega)
 have HN:=Lib.hid (Sl.below hN hb0)
 have HT:=Lib.hid (hT.below hb0)
 have HTW:=Lib.hid hT
 have HB0:=Lib.hid hb0
 have HX0:=Lib.hid hx0
 have HX1:=Lib.hid hx1
 have HNS:=Lib.hid hNs
 have HTL:=Lib.hid (hT.count Rg.enc_len (by omega))
 have HW0:=Lib.hid hw0
 clear hV hN hT hNs hb0 hx0 hx1 hw0 hok hsz1 hsz2
 go_enter Tryz.func15,Tryz.ntmps15
 go_wp2_with (fail)
 rw[HW0.out]
 refine hma.mono ?_
 rintro e w1 ⟨⟨b,rfl,hb⟩,hb1⟩
 have HB1:=Lib.hid hb1
 have HM:=Lib.hid hb
 clear hb hb1 hma c0 c1 c2
 cases b with
 | false=>
  have HF:Hid (¬May V):=Lib.hid (fun h=>no_of HM.out rfl h)
  obtain⟨c0,c1,c2⟩:=box3v ((HB1.out.block w.heap.size HSZ1.out).trans HX0.out)
  obtain⟨b0,b1,b2,b3,b4,b5,bf⟩:=box6 ((HB1.out.block (w.heap.size+1) HSZ2.out).trans HX1.out)
  go_wp2_with (fail)
  refine bodyPost_ret (v:= .tuple #[noC, .int .i64 2]) ?_ rfl ⟨.inl ⟨HF.out,rfl⟩,?_⟩
  ·simp[results,Tryz.results15,go_sem,b0,b1,b2,b3,b4,b5,noC]
  ·exact((((((HB0.out.trans ((HB1.out).mono HB0.out.size)).setCell HBC.out _).setCell HBC.out _).setCell HBC.out _).setCell HBC.out _).setCell HBC.out _).setCell HBC.out _
 | true=>
 have HM1:=Lib.hid (HM.out.1 rfl)
 have hmn:=rmayNames_calls w1 (Sl.below HN.out HB1.out) HNS.out
 clear HM
 go_wp2_with (fail)
 refine hmn.mono ?_
 rintro e w2 ⟨⟨b,rfl,hb⟩,hb2⟩
 have HB2:=Lib.hid (HB1.out.trans (hb2.mono HB1.out.size))
 have HI1:=Lib.hid hb
 clear hb hb2 hmn
 cases b with
 | false=>
  have HF:Hid (¬OkKit N kind T room):=Lib.hid (fun h=>no_of HI1.out rfl h.1)
  obtain⟨c0,c1,c2⟩:=box3v ((HB2.out.block w.heap.size HSZ1.out).trans HX0.out)
  obtain⟨b0,b1,b2,b3,b4,b5,bf⟩:=box6 ((HB2.out.block (w.heap.size+1) HSZ2.out).trans HX1.out)
  go_wp2_with (fail)
  refine bodyPost_ret (v:= .tuple #[noC, .int .i64 1]) ?_ rfl ⟨.inr (.inl ⟨HM1.out,HF.out,rfl⟩),?_⟩
  ·simp[results,Tryz.results15,go_sem,b0,b1,b2,b3,b4,b5,noC]
  ·exact((((((HB0.out.trans ((HB2.out).mono HB0.out.size)).setCell HBC.out _).setCell HBC.out _).setCell HBC.out _).setCell HBC.out _).setCell HBC.out _).setCell HBC.out _
 | true=>
 have HN1:=Lib.hid (HI1.out.1 rfl)
 by_cases hk0:kind<0
 ·have HF:Hid (¬OkKit N kind T room):=Lib.hid (fun h=>by have:=h.2.1;omega)
  obtain⟨c0,c1,c2⟩:=box3v ((HB2.out.block w.heap.size HSZ1.out).trans HX0.out)
  obtain⟨b0,b1,b2,b3,b4,b5,bf⟩:=box6 ((HB2.out.block (w.heap.size+1) HSZ2.out).trans HX1.out)
  go_wp2_with (fail)
  refine bodyPost_ret (v:= .tuple #[noC, .int .i64 1]) ?_ rfl ⟨.inr (.inl ⟨HM1.out,HF.out,rfl⟩),?_⟩
  ·simp[results,Tryz.results15,go_sem,b0,b1,b2,b3,b4,b5,noC]
  ·exact((((((HB0.out.trans ((HB2.out).mono HB0.out.size)).setCell HBC.out _).setCell HBC.out _).setCell HBC.out _).setCell HBC.out _).setCell HBC.out _).setCell HBC.out _
 by_cases hk3:(3:Int)<kind
 ·have HF:Hid (¬OkKit N kind T room):=Lib.hid (fun h=>by have:=h.2.2.1;omega)
  obtain⟨c0,c1,c2⟩:=box3v ((HB2.out.block w.heap.size HSZ1.out).trans HX0.out)
  obtain⟨b0,b1,b2,b3,b4,b5,bf⟩:=box6 ((HB2.out.block (w.heap.size+1) HSZ2.out).trans HX1.out)
  go_wp2_with (fail)
  refine bodyPost_ret (v:= .tuple #[noC, .int .i64 1]) ?_ rfl ⟨.inr (.inl ⟨HM1.out,HF.out,rfl⟩),?_⟩
  ·simp[results,Tryz.results15,go_sem,b0,b1,b2,b3,b4,b5,noC]
  ·exact((((((HB0.out.trans ((HB2.out).mono HB0.out.size)).setCell HBC.out _).setCell HBC.out _).setCell HBC.out _).setCell HBC.out _).setCell HBC.out _).setCell HBC.out _
 have hcm:=rclassMay_calls w2 (HT.out.below HB2.out)
 go_wp2_with (fail)
 refine hcm.mono ?_
 rintro e w3 ⟨⟨b,rfl,hb⟩,hb3⟩
 have HB3:=Lib.hid (HB2.out.trans (hb3.mono HB2.out.size))
 have HI2:=Lib.hid hb
 clear hb hb3 hcm
 obtain⟨c0,c1,c2⟩:=box3v ((HB3.out.block w.heap.size HSZ1.out).trans HX0.out)
 obtain⟨b0,b1,b2,b3,b4,b5,bf⟩:=box6 ((HB3.out.block (w.heap.size+1) HSZ2.out).trans HX1.out)
 cases b with
 | false=>
  have HF:Hid (¬OkKit N kind T room):=Lib.hid (fun h=>no_of HI2.out rfl h.2.2.2.1)
  go_wp2_with (fail)
  refine bodyPost_ret (v:= .tuple #[noC, .int .i64 1]) ?_ rfl ⟨.inr (.inl ⟨HM1.out,HF.out,rfl⟩),?_⟩
  ·simp[results,Tryz.results15,go_sem,b0,b1,b2,b3,b4,b5,noC]
  ·exact((((((HB0.out.trans ((HB3.out).mono HB0.out.size)).setCell HBC.out _).setCell HBC.out _).setCell HBC.out _).setCell HBC.out _).setCell HBC.out _).setCell HBC.out _
 | true=>
 have HT1:=Lib.hid (HI2.out.1 rfl)
 by_cases hr0:room<0
 ·have HF:Hid (¬OkKit N kind T room):=Lib.hid (fun h=>by have:=h.2.2.2.2.1;omega)
  go_wp2_with (fail)
  refine bodyPost_ret (v:= .tuple #[noC, .int .i64 1]) ?_ rfl ⟨.inr (.inl ⟨HM1.out,HF.out,rfl⟩),?_⟩
  ·simp[results,Tryz.results15,go_sem,b0,b1,b2,b3,b4,b5,noC]
  ·exact((((((HB0.out.trans ((HB3.out).mono HB0.out.size)).setCell HBC.out _).setCell HBC.out _).setCell HBC.out _).setCell HBC.out _).setCell HBC.out _).setCell HBC.out _
 by_cases hr1:(1048576:Int)<room
 ·have HF:Hid (¬OkKit N kind T room):=Lib.hid (fun h=>by have:=h.2.2.2.2.2;omega)
  go_wp2_with (fail)
  refine bodyPost_ret (v:= .tuple #[noC, .int .i64 1]) ?_ rfl ⟨.inr (.inl ⟨HM1.out,HF.out,rfl⟩),?_⟩
  ·simp[results,Tryz.results15,go_sem,b0,b1,b2,b3,b4,b5,noC]
  ·exact((((((HB0.out.trans ((HB3.out).mono HB0.out.size)).setCell HBC.out _).setCell HBC.out _).setCell HBC.out _).setCell HBC.out _).setCell HBC.out _).setCell HBC.out _
 have HOKK:Hid (OkKit N kind T room):=Lib.hid ⟨HN1.out,by omega,by omega,HT1.out,by omega,by omega⟩
 by_cases ht0:tn=0
 ·have hT0:T= []:=List.eq_nil_of_length_eq_zero (by have:=HTL.out;omega)
  have HTU:Hid (tabOf T=usR):=Lib.hid (by unfold tabOf;rw[if_pos hT0])
  have htc:=table_calls w3
  subst ht0
  clear hT0
  go_wp2_with (fail)
  refine htc.mono ?_
  rintro e w4 ⟨v,rfl,ho,hb4⟩
  obtain⟨ua,uc,rfl,hs⟩:=ho.sl
  have HB4:=Lib.hid (HB3.out.trans (hb4.mono HB3.out.size))
  have HS:=Lib.hid ho
  clear ho hb4 hs htc
  obtain⟨c0,c1,c2⟩:=box3v ((HB4.out.block w.heap.size HSZ1.out).trans HX0.out)
  obtain⟨b0,b1,b2,b3,b4,b5,bf⟩:=box6 ((HB4.out.block (w.heap.size+1) HSZ2.out).trans HX1.out)
  go_wp2_with (fail)
  refine bodyPost_ret (v:= .tuple #[.agg #[.slice ta tn' tc', .slice ma mn mc, .slice sa sn sc, .slice no nn nc, .int .i64 kind, .slice ua usR.length uc], .int .i64 0]) ?_ rfl ⟨.inr (.inr ⟨HM1.out,HOKK.out,ua,_,uc,rfl,?_⟩),?_⟩
  ·simp[results,Tryz.results15,go_sem,b0,b1,b2,b3,b4,b5]
  ·rw[HTU.out]
   obtain⟨ao',cap',e',hs'⟩:=OwnF.sl (OwnF.keepG HS.out ((((((KeepG.refl (w.heap.size+1) w4).set 0 _).set 1 _).set 2 _).set 3 _).set 4 _ |>.set 5 _) (fun q hq=>by have:=(World.ownsRow.lt HS.out q hq).1;have:=HSZ2.out;have:=HB3.out.size;omega))
   simp only[Value.slice.injEq]at e'
   obtain⟨rfl,_,rfl⟩:=e'
   exact hs'
  ·exact((((((HB0.out.trans (HB4.out.mono HB0.out.size)).setCell HBC.out _).setCell HBC.out _).setCell HBC.out _).setCell HBC.out _).setCell HBC.out _).setCell HBC.out _
 ·have HTU:Hid (tabOf T=T):=Lib.hid (by unfold tabOf;rw[if_neg (fun e=>ht0 (by have:=HTL.out;rw[e]at this;simpa using this.symm))])
  have HS:=Lib.hid (HT.out.below HB3.out)
  go_wp2_with (fail)
  refine bodyPost_ret (v:= .tuple #[.agg #[.slice ta tn' tc', .slice ma mn mc, .slice sa sn sc, .slice no nn nc, .int .i64 kind, .slice to_ tn tc], .int .i64 0]) ?_ rfl ⟨.inr (.inr ⟨HM1.out,HOKK.out,to_,tn,tc,rfl,?_⟩),?_⟩
  ·simp[results,Tryz.results15,go_sem,b0,b1,b2,b3,b4,b5]
  ·rw[HTU.out]
   exact HTW.out.below (((((((HB0.out.trans (HB3.out.mono HB0.out.size)).setCell HBC.out _).setCell HBC.out _).setCell HBC.out _).setCell HBC.out _).setCell HBC.out _).setCell HBC.out _)
  ·exact((((((HB0.out.trans (HB3.out.mono HB0.out.size)).setCell HBC.out _).setCell HBC.out _).setCell HBC.out _).setCell HBC.out _).setCell HBC.out _).setCell HBC.out _
open Go
abbrev Fr:=List Int×Int
def begins (a b:List Int):Bool:=b.isPrefixOf a
theorem begins_iff {a b:List Int}:begins a b=true↔b <+:a:=by unfold begins;rw[List.isPrefixOf_iff_prefix]
theorem begins_take {a b:List Int}:begins a b=true↔b.length≤a.length∧a.take b.length=b:=by
 rw[begins_iff]
 constructor
 ·intro h
  exact⟨h.length_le,(List.prefix_iff_eq_take.1 h).symm⟩
 ·rintro⟨_,h⟩
  rw[←h]
  exact List.take_prefix _ _
structure GoodF (rows:List Fr):Prop where
 uniq:∀a∈rows,∀b∈rows,a.1=b.1→a=b
 ids:∀a∈rows,∀b∈rows,a.2=b.2→a=b
 len:∀a∈rows,1≤a.1.length∧a.1.length≤64
def longTo (rows:List Fr) (s:List Int):Nat→Int
 | 0=> -1
 | n+1=>match rows.find? (fun r=>decide (r.1=s.take (n+1)))with
  | some r=>r.2
  | none=>longTo rows s n
theorem longTo_cases (rows:List Fr) (s:List Int):∀k,(longTo rows s k= -1∧∀n,n<k→∀x,(s.take (n+1),x)∉rows)∨∃n,n<k∧(s.take (n+1),longTo rows s k)∈rows∧∀m,n<m→m<k→∀x,(s.take (m+1),x)∉rows
 | 0=> .inl ⟨rfl,fun n h=>by omega⟩
 | k+1=>by
  cases h:rows.find? (fun r=>decide (r.1=s.take (k+1)))with
  | some r=>
   right
   have h1:r.1=s.take (k+1):=by simpa using List.find?_some h
   have h2:=List.mem_of_find?_eq_some h
   refine⟨k,by omega,?_,fun m h3 h4=>by omega⟩
   have:longTo rows s (k+1)=r.2:=by simp only[longTo,h]
   rw[this,←h1]
   exact h2
  | none=>
   rw[List.find?_eq_none]at h
   have e:longTo rows s (k+1)=longTo rows s k:=by
    simp only[longTo]
    rw[List.find?_eq_none.2 h]
   have hk:∀x,(s.take (k+1),x)∉rows:=fun x hx=>absurd (h _ hx) (by simp)
   rcases longTo_cases rows s k with⟨h1,h2⟩ | ⟨n,h1,h2,h3⟩
   ·left
    refine⟨by rw[e];exact h1,fun n hn=> ?_⟩
    by_cases g:n=k
    ·subst g;exact hk
    ·exact h2 n (by omega)
   ·right
    refine⟨n,by omega,by rw[e];exact h2,fun m g1 g2=> ?_⟩
    by_cases g:m=k
    ·subst g;exact hk
    ·exact h3 m g1 (by omega)
def BestOf (seen:List Fr) (s:List Int) (best most:Int):Prop:=
 (best= -1∧most=0∧∀r∈seen,begins s r.1=false)∨∃r∈seen,begins s r.1=true∧best=r.2∧most=(r.1.length:Int)∧∀q∈seen,begins s q.1=true→q.1.length≤r.1.length
theorem BestOf.zero (s:List Int):BestOf [] s (-1) 0:= .inl ⟨rfl,rfl,by simp⟩
theorem BestOf.all {rows rows':List Fr} (hg:GoodF rows) (hp:rows'.Perm rows) {s:List Int} {best most:Int} (h:BestOf rows s best most):best=longTo rows' s (min s.length 64):=by
 have hg':∀{q:List Int} {x:Int},(q,x)∈rows'→(q,x)∈rows:=fun h=>hp.mem_iff.1 h
 rcases h with⟨h1,_,h3⟩ | ⟨r,h1,h2,h3,_,h5⟩
 ·rcases longTo_cases rows' s (min s.length 64)with⟨e,_⟩ | ⟨n,_,e2,_⟩
  ·rw[h1,e]
  ·have:=h3 _ (hg' e2)
   rw[show begins s (s.take (n+1))=true from begins_iff.2 (List.take_prefix _ _)]at this
   cases this
 ·have hb:=begins_take.1 h2
  have hl:=hg.len r h1
  rcases longTo_cases rows' s (min s.length 64)with⟨_,e2⟩ | ⟨n,e1,e2,e3⟩
  ·exfalso
   refine e2 (r.1.length-1) (by omega) r.2 ?_
   rw[show r.1.length-1+1=r.1.length by omega,hb.2]
   exact hp.mem_iff.2 h1
  ·have h6:=h5 _ (hg' e2) (begins_iff.2 (List.take_prefix _ _))
   simp only[List.length_take]at h6
   have h7:r.1.length=n+1:=by
    rcases Nat.lt_or_ge (n+1) r.1.length with g | g
    ·exfalso
     refine e3 (r.1.length-1) (by omega) (by omega) r.2 ?_
     rw[show r.1.length-1+1=r.1.length by omega,hb.2]
     exact hp.mem_iff.2 h1
    ·omega
   have h8:=hg.uniq r h1 _ (hg' e2) (by simp only;rw[←h7];exact hb.2.symm)
   rw[h3,h8]
theorem take_countP {α:Type} {p:α→Bool}:∀{l:List α},l.Pairwise (fun a b=>p b=true→p a=true)→l.take (l.countP p)=l.filter p∧l.drop (l.countP p)=l.filter (fun x=>!p x)
 | [],_=>by simp
 | x::l,h=>by
  rw[List.pairwise_cons]at h
  cases hx:p x with
  | true=>
   have ih:=take_countP h.2
   simp[hx,ih.1,ih.2]
  | false=>
   have h0:l.filter p= []:=by
    rw[List.filter_eq_nil_iff]
    intro y hy hpy
    have:=h.1 y hy hpy
    rw[hx]at this;cases this
   have h1:l.countP p=0:=by rw[List.countP_eq_length_filter,h0];rfl
   have h2:l.filter (fun x=>!p x)=l:=by
    rw[List.filter_eq_self]
    intro y hy
    cases hpy:p y with
    | false=>rfl
    | true=>have:=h.1 y hy hpy;rw[hx]at this;cases this
   simp[hx,h1,h0,h2]
def SortedF (L:List Fr):Prop:=L.Pairwise (fun a b=>¬b.1<a.1)
theorem SortedF.less {L:List Fr} (h:SortedF L) (s:List Int):L.Pairwise (fun a b=>decide (b.1<s)=true→decide (a.1<s)=true):=
 h.imp fun{a b} h1 h2=>by
  simp only[decide_eq_true_eq]at h2 ⊢
  exact List.lt_of_le_of_lt (List.not_lt.1 h1) h2
theorem SortedF.exact {L:List Fr} (h:SortedF L) (hu:∀a∈L,∀b∈L,a.1=b.1→a=b) (s:List Int) {i:Nat} (hi:i=L.countP (fun r=>decide (r.1<s))):
  (∃r,L[i]?=some r∧r.1=s∧L.find? (fun r=>decide (r.1=s))=some r)∨((∀r,L[i]?=some r→r.1≠s)∧L.find? (fun r=>decide (r.1=s))=none):=by
 have h1:=take_countP (h.less s)
 rw[←hi]at h1
 cases hf:L.find? (fun r=>decide (r.1=s))with
 | none=>
  right
  rw[List.find?_eq_none]at hf
  exact⟨fun r hr e=>absurd (hf r (List.mem_of_getElem? hr)) (by simp[e]),rfl⟩
 | some r=>
  left
  have h2:r.1=s:=by simpa using List.find?_some hf
  have h3:=List.mem_of_find?_eq_some hf
  have h4:r∈L.drop i:=by
   rw[h1.2,List.mem_filter]
   refine⟨h3,?_⟩
   simp only[Bool.not_eq_true',decide_eq_false_iff_not,h2]
   exact List.lt_irrefl s
  cases hd:L.drop i with
  | nil=>rw[hd]at h4;simp at h4
  | cons q rest=>
   have h5:L[i]?=some q:=by
    have:=congrArg List.head? hd
    rw[List.head?_drop]at this
    simpa using this
   have h6:q∈L:=List.mem_of_getElem? h5
   have h7:¬q.1<s:=by
    have:q∈L.drop i:=by rw[hd];simp
    rw[h1.2,List.mem_filter]at this
    simpa using this.2
   have h8:q.1=s:=by
    rw[hd]at h4
    rcases List.mem_cons.1 h4 with e | e
    ·rw[←e];exact h2
    ·have h9:SortedF (q::rest):=by rw[←hd];exact h.sublist (List.drop_sublist _ _)
     have h10:=(List.pairwise_cons.1 h9).1 r e
     rw[h2]at h10
     exact(List.le_antisymm (List.not_lt.1 h10) (List.not_lt.1 h7))
   have h11:=hu q h6 r h3 (by rw[h8,h2])
   exact⟨r,by rw[←h11];exact h5,h2,rfl⟩
open Go.RowKit Go.Maps Go.ChangeMaps Go.WideMaps Go.WideElems
theorem laidAllP:laidOutB Tryz.prog=true:=by kernel_rfl
theorem rowTwoP:(171:TypeId)<Tryz.prog.types.size:=of_decide_eq_true (by kernel_rfl)
theorem wideTwoP:(match Tryz.prog.underlying 171 with | some (.array _ _) | some (.struct _)=>true | _=>false)=true:=by kernel_rfl
theorem keyedTwoP:Keyed Tryz.prog 171:=Keyed.of_law (deep_law_laid laidAllP (m:=2) (by omega) rowTwoP (by kernel_rfl) wideTwoP)
theorem keyTypeTwoP:Tryz.prog.keyType 171=true:=by kernel_rfl
theorem cellsTwoP:Tryz.prog.cellsOf 171=2:=by kernel_rfl
theorem keyOf_twoP {a b:Int} (ha:(Lit.int .i64 a).wf=true) (hb:(Lit.int .i64 b).wf=true):(keyOf Tryz.prog 171 (.agg #[.int .i64 a, .int .i64 b])).isSome=true:=by
 have hf:(Value.agg #[.int .i64 a, .int .i64 b]).formed Tryz.prog 171=true:=by
  simp[Value.formed,Tryz.underlying171,cellsTwoP]
 have hk:∀n,(Tryz.prog.keyLits (n+2) 171 [.int .i64 a, .int .i64 b]).isSome=true:=by
  intro n
  have h3:Tryz.prog.cellsOf 3=1:=by kernel_rfl
  unfold Program.keyLits
  simp[Tryz.underlying171,cellsTwoP,h3,Program.keyLits,Tryz.underlying3,ha,hb]
 unfold keyOf
 rw[Tryz.underlying171]
 simp only[keyTypeTwoP,hf,Bool.and_self,if_true]
 obtain⟨n,hn⟩:∃n,Tryz.prog.types.size+1=n+2:=⟨Tryz.prog.types.size-1,by
  have h:(0:Nat)<Tryz.prog.types.size:=Nat.lt_of_le_of_lt (Nat.zero_le _) rowTwoP
  omega⟩
 have h2:=hk n
 rw[←hn]at h2
 show(Option.map _ (Tryz.prog.keyLits (Tryz.prog.types.size+1) _ [.int .i64 a, .int .i64 b])).isSome=true
 rw[Option.isSome_map]
 exact h2
noncomputable def twoViewP:KeyView Tryz.prog 171 (Int×Int):=
 KeyView.of (fun p=> .agg #[.int .i64 p.1, .int .i64 p.2]) (fun p=>(Lit.int .i64 p.1).wf=true∧(Lit.int .i64 p.2).wf=true) (fun p h=>keyOf_twoP h.1 h.2)
  (fun x y h=>by simp at h;exact Prod.ext h.1 h.2) keyedTwoP
end Go.Proofs.YtimkkkdabmhedaaGreatDoor
