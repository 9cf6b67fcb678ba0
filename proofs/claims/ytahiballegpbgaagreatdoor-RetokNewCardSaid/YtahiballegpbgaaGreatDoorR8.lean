/- Walk: the document's FromRows. (Printed by gRFrom.py.) -/
import Derived.Test.YtahiballegpbgaaGreatDoorR7
import Derived.Test.YtahiballegpbgaaGreatDoorR6
import Derived.Test.YtahiballegpbgaaGreatDoorR1
import Derived.Deep.AppendLies
import Derived.BigRegion
import Derived.Deep.RegionHeld3
set_option linter.unusedVariables false
set_option maxHeartbeats 1500000
set_option maxRecDepth 100000
namespace Go.Proofs.YtahiballegpbgaaGreatDoor
open Go.RowKit
theorem rof_q {T:List ByteArray} {ao:Option Addr} {n c:Nat} (s:ByteArray) {w:World} (hT:SlS w ao n c T) (k:Nat):
  Calls Tryz.prog 106 #[.slice ao n c, .string s] (w.drewN k) fun e w'=>e= .returned (.int .i64 (ofT T s))/\w'=w.drewN k:=
 (O1 s (w.drewN k) (hT.stay fun _ _ h=>h)).mono fun e w' ⟨h1,h2⟩=>⟨h1,h2.symm⟩
structure fB (g:Nat) (w w':World):Prop where
 size:w.heap.size<=w'.heap.size
 block:∀q,q<w.heap.size->q≠g->w'.heap[q]?=w.heap[q]?
theorem fB.refl (g:Nat) (w:World):fB g w w:=⟨Nat.le_refl _,fun _ _ _=>rfl⟩
theorem fB.below {g:Nat} {w w' w'':World} (h:fB g w w') (hb:Below w'.heap.size w' w''):fB g w w'':=
 ⟨Nat.le_trans h.size hb.size,fun q h1 h2=>(hb.block q (Nat.lt_of_lt_of_le h1 h.size)).trans (h.block q h1 h2)⟩
theorem fB.set {g:Nat} {w w':World} (h:fB g w w') (i:Nat) (v:Value):fB g w (w'.setCell ⟨g,i,none⟩ v):=
 ⟨by simpa using h.size,fun q h1 h2=>(Below.heap_setCell _ _ _ _ h2).trans (h.block q h1 h2)⟩
theorem D3.keepG {g:Nat} {w w':World} {base:Nat} {v:Value} {L:List ByteArray} (h:D3 w base v L) (hk:fB g w w') (hg:∀q,v.ownBlock=some q->q≠g):D3 w' base v L:=
 jA h fun q hq=>hk.block q (World.ownsRow.lt h q hq).2 (hg q hq)
theorem iA.keepG {α:Type} {enc:α->List Value} {s:Nat} {t:TypeId} {g:Nat} {w w':World} {base:Nat} {v:Value} {L:List α} (h:iA enc s t w base v L) (hk:fB g w w') (hg:∀q,v.ownBlock=some q->q≠g):iA enc s t w' base v L:=
 jA h fun q hq=>hk.block q (World.ownsRow.lt h q hq).2 (hg q hq)
theorem aDh {w:World} {g:Nat} {x y z v:Value} {t:TypeId} (h:w.heap[g]?=some (.cells #[x,y,z] t)):(w.setCell ⟨g,1,none⟩ v).heap[g]?=some (.cells #[x,v,z] t):=by
 simp[World.setCell,Array.getElem?_modify,h]
def lV (R:List Rw) (S:List Sp) (w:World) (e:Ending) (w':World):Prop:=
 ((mL R S/\∃d:Vd,e= .returned (.tuple #[d.val, .bool true])/\xE w' d (cR R S))\/(¬mL R S/\e= .returned (.tuple #[kH.val, .bool false])))/\Below w.heap.size w w'
theorem nQ {R:List Rw} {S:List Sp} {ro so:Option Addr} {rn rc sn sc:Nat} (w:World) (hR:SlF 2 w ro rn rc (flat Rw.enc R)) (hS:SlF 2 w so sn sc (flat Sp.enc S))
  (hrs:∀r∈R,r.token.size<=maxLen) (hss:lO S) (hsn:sn<=20):
  Calls Tryz.prog 65 #[.slice ro rn rc, .slice so sn sc] w (lV R S w):=by
 obtain⟨w0,hw0⟩:∃w0,w.alloc (.cells #[.slice none 0 0, .slice none 0 0, .slice none 0 0] 26)=w0:=⟨_,rfl⟩;have hb0:Below w.heap.size w w0:=hw0▸aA w _;have hx0:w0.heap[w.heap.size]?=some (.cells #[.slice none 0 0, .slice none 0 0, .slice none 0 0] 26):=by rw[<-hw0];exact heap_alloc_new w _
 have hs0:w.heap.size<w0.heap.size:=by rw[<-hw0];simp
 have hbase:=aBA w0 (hR.below hb0) (hS.below hb0) hrs hss hsn;have HX0:=hW_ hx0;have HB0:=hW_ hb0;have HW0:=hW_ hw0;have HSZ:Hid (∀s∈kF R S,s.size<=maxLen):=hW_ (gR hrs);have HSS:=hW_ hss;have HSL:Hid (S.length<=20):=hW_ (by rw[hS.count Sp.enc_len (by omega)];exact hsn);obtain⟨T,hT⟩:∃T,kF R S=T:=⟨_,rfl⟩;have HTE:=hW_ hT;rw[hT]at HSZ;clear hb0 hx0 hw0 hrs hss hS hR hT;go_enter Tryz.func65,Tryz.ntmps65;go_wp2_with (fail);rw[HW0.out];refine hbase.mono ?_
 rintro e w1 ⟨⟨hok,gt,n,sa,sn',sc',S',bt,rfl,hot,hos,hps,hsd,hbt⟩ | ⟨hno,rfl⟩,hb1⟩
 ·rw[HTE.out]at hot hbt;have HPS:=hW_ hps;have HSD:=hW_ hsd;have HOKR:=hW_ hok;have HB1:=hW_ hb1
  cases bt with
  | false=>
   have HF:Hid (¬mL R S):=hW_ (fun h=>by
    have:=hbt.2 (by rw[<-HTE.out];exact h.2.1)
    cases this)
   clear hbase hot hos hps hsd hbt hb1 hok;obtain⟨w2,hw2⟩:∃w2,w1.alloc (.cells #[.slice (some ⟨gt,0,none⟩) n n, .slice none 0 0, .slice sa sn' sc'] 26)=w2:=⟨_,rfl⟩;have HBF:Hid (Below w0.heap.size w0 w2):=hW_ (by rw[<-hw2];exact HB1.out.alloc HB1.out.size _);obtain⟨c0,c1,c2⟩:=A4 ((HBF.out.block w.heap.size hs0).trans HX0.out);have f0:=cU ((HBF.out.block w.heap.size hs0).trans HX0.out);rw[<-hw2]at c0 c1 c2 f0 HBF;clear hw2;go_wp2_with (fail);refine bodyPost_ret (v:= .tuple #[kH.val, .bool false]) ?_ rfl ⟨.inr ⟨HF.out,rfl⟩,?_⟩
   ·simp[results,Tryz.results65,go_sem,c0,c1,c2,kH]
   ·exact(((HB0.out.trans (HBF.out.mono HB0.out.size)).setCell (Nat.le_refl _) _).setCell (Nat.le_refl _) _).setCell (Nat.le_refl _) _
  | true=>
   have HMT:=hW_ (hbt.1 rfl);have H64:=hW_ HMT.out.2.1;have hn:T.length=n:=by
    obtain⟨a',c',e',_⟩:=uG hot;simp only[Value.slice.injEq]at e';omega
   have HN:=hW_ hn;have hn4:n<=4096:=by rw[<-hn];exact HMT.out.1
   obtain⟨w2,hw2⟩:∃w2,w1.alloc (.cells #[.slice (some ⟨gt,0,none⟩) n n, .slice none 0 0, .slice sa sn' sc'] 26)=w2:=⟨_,rfl⟩;have hb2:Below w1.heap.size w1 w2:=hw2▸aA w1 _;have hx2:w2.heap[w1.heap.size]?=some (.cells #[.slice (some ⟨gt,0,none⟩) n n, .slice none 0 0, .slice sa sn' sc'] 26):=by rw[<-hw2];exact heap_alloc_new w1 _
   have hs2:w1.heap.size<w2.heap.size:=by rw[<-hw2];simp
   have HGT:Hid (∀q,(Value.slice (some ⟨gt,0,none⟩) n n).ownBlock=some q->q≠w1.heap.size):=hW_ (fun q hq=>by have:=(World.ownsRow.lt hot q hq).2;omega);have HGS:Hid (∀q,(Value.slice sa sn' sc').ownBlock=some q->q≠w1.heap.size):=hW_ (fun q hq=>by have:=(World.ownsRow.lt hos q hq).2;omega);have HOT:=hW_ (D3.below hot hb2);have HOS:=hW_ (iA.below hos hb2);have HX2:=hW_ hx2;have HG0:Hid (w0.heap.size<=w1.heap.size):=hW_ HB1.out.size;have HW2:=hW_ hw2;have HB2:Hid (Below w0.heap.size w0 w2):=hW_ (hb1.trans (hb2.mono hb1.size));clear hbase hot hos hps hsd hbt hb1 hok hw2 hb2 hx2 hn;go_wp2_with (fail);rw[HW2.out];go_loopw [25] (fun i wr=>∃(k:Nat) (mv:Value) (M':List Mg),k<=n/\i= .int .i64 k/\Hid (M'.Perm (bD T k))/\Hid (lL M')/\iA Mg.enc 4 170 wr w2.heap.size mv M'/\wr.heap[w1.heap.size]?=some (.cells #[.slice (some ⟨gt,0,none⟩) n n,mv, .slice sa sn' sc'] 26)/\fB w1.heap.size w2 wr/\Below w0.heap.size w0 wr) (fun i _=>n-(intOf i).toNat)
   case atStart=>exact⟨0,_,[],Nat.zero_le _,rfl,hW_ (by rw[aM]),hW_ List.Pairwise.nil,iA.nil _ _,HX2.out,fB.refl _ _,HB2.out⟩
   case round=>
    obtain⟨k,mv,M',hk,rfl,HP,HSM,ho,hbx,hkp,hbb⟩:=hrel;have HO:=hW_ ho;have HBX:=hW_ hbx;have HKP:=hW_ hkp;have HBB:=hW_ hbb;have HG6:Hid (w1.heap.size<wr.heap.size):=hW_ (Nat.lt_of_lt_of_le hs2 hkp.size);obtain⟨d0,d1,d2⟩:=A4 hbx;have fv:=cU hbx;clear ho hbx hkp hbb
    by_cases hlt:k<n
    ·have hkT:k<T.length:=by have:=HN.out;omega
     obtain⟨b,o,e9,hc⟩:=SlS.cell (T:=T) (w:=wr) (ao:=some ⟨gt,0,none⟩) (n:=n) (c:=n) (by
      have h:=D3.keepG HOT.out HKP.out HGT.out;obtain⟨a',c',e',h'⟩:=uG h;simp only[Value.slice.injEq]at e';obtain⟨rfl,e2,rfl⟩:=e';rw[<-e2]at h';exact h') (sB hkT)
     simp only[Option.some.injEq,Addr.mk.injEq,and_true]at e9;obtain⟨rfl,rfl⟩:=e9;have hks:=H64.out _ (qB hkT);obtain⟨s,hs⟩:∃s,tk T k=s:=⟨_,rfl⟩;rw[hs]at hc hks;rw[Nat.zero_add]at hc;have HSE:=hW_ hs;clear hs;obtain⟨wo,rfl⟩:∃wo:World,wo=wr:=⟨_,rfl⟩;go_wp2_with (fail);go_loopw [10] (fun i wr=>∃(j:Nat) (mv:Value) (M':List Mg),1<=j/\(j<=s.size\/j=1)/\i= .int .i64 j/\Hid (M'.Perm (bD T k++pF T k (j-1)))/\Hid (lL M')/\iA Mg.enc 4 170 wr w2.heap.size mv M'/\wr.heap[w1.heap.size]?=some (.cells #[.slice (some ⟨gt,0,none⟩) n n,mv, .slice sa sn' sc'] 26)/\fB w1.heap.size w2 wr/\Below w0.heap.size w0 wr) (fun i _=>s.size-(intOf i).toNat)
     case atStart=>exact⟨1,mv,M',Nat.le_refl _, .inr rfl,rfl,hW_ (by simpa[sZ]using HP.out),HSM,HO.out,HBX.out,HKP.out,HBB.out⟩
     case round=>
      obtain⟨j,mv,M',hj1,hj,rfl,HP,HSM,ho,hbx,hkp,hbb⟩:=hrel;have HO:=hW_ ho;have HBX:=hW_ hbx;have HKP:=hW_ hkp;have HBB:=hW_ hbb;have HG6:Hid (w1.heap.size<wr.heap.size):=hW_ (Nat.lt_of_lt_of_le hs2 hkp.size);obtain⟨d0,d1,d2⟩:=A4 hbx;have fv:=cU hbx;clear ho hbx hkp hbb
      by_cases hlt2:j<s.size
      ·have hy1:(s.extract 0 j).size<=maxLen:=by rw[ByteArray.size_extract];unfold maxLen;omega
       have hy2:(s.extract j s.size).size<=maxLen:=by rw[ByteArray.size_extract];unfold maxLen;omega
       obtain⟨a1,ha1⟩:∃a1,ofT T (s.extract 0 j)=a1:=⟨_,rfl⟩;obtain⟨a2,ha2⟩:∃a2,ofT T (s.extract j s.size)=a2:=⟨_,rfl⟩;have HC:Hid (qS T k (j-1)=if 0<=a1/\0<=a2 then some ⟨a1,a2,k,k⟩else none):=hW_ (by
        unfold qS;rw[HSE.out,show j-1+1=j by omega,ha1,ha2])
       have HJ:Hid (j-1+1=j+1-1):=hW_ (by omega);have hcu:∃cc,cc=j-1:=⟨_,rfl⟩;have HTW:Hid (SlS wr (some ⟨gt,0,none⟩) n n T):=hW_ (by
        have h:=D3.keepG HOT.out HKP.out HGT.out;obtain⟨a',c',e',h'⟩:=uG h;simp only[Value.slice.injEq]at e';obtain⟨rfl,e2,rfl⟩:=e';rw[<-e2]at h';exact h')
       have q1:=fun m=>rof_q (s.extract 0 j) HTW.out m
       rw[ha1]at q1;clear ha1;go_wp2_with (fail);go_quiet ((go_at_call 106;exact Calls.quiet_of_same (q1 _)));obtain⟨wx,hwx⟩:∃wx,wr.drewN nq=wx:=⟨_,rfl⟩;have HTX:Hid (SlS wx (some ⟨gt,0,none⟩) n n T):=hW_ (by rw[<-hwx];exact Sl.stay HTW.out fun _ _ h=>h);have e0:wx.cell? ⟨w1.heap.size,0,none⟩=some (.slice (some ⟨gt,0,none⟩) n n):=by rw[<-hwx];exact d0
       have q2:=fun m=>rof_q (s.extract j s.size) HTX.out m
       rw[ha2]at q2;clear q1 ha2;rw[hwx];go_wp2_with (fail);go_quiet ((go_at_call 106;exact Calls.quiet_of_same (q2 _)));obtain⟨wy,hwy⟩:∃wy,wx.drewN nq=wy:=⟨_,rfl⟩;have hry:Below wr.heap.size wr wy:=by rw[<-hwy,<-hwx];exact bA (bA (Below.refl _ _) _) _
       have HRY:=hW_ hry;have hxy:=(hry.block w1.heap.size HG6.out).trans HBX.out;have HXY:=hW_ hxy;obtain⟨y0,y1,y2⟩:=A4 hxy;rw[hwy];have HOY:=hW_ (HO.out.below hry);clear q2 hwx hwy hry hxy d0 d1 d2 fv e0
       by_cases h0:0<=a1/\0<=a2
       ·have HC2:=HC.out;rw[if_pos h0]at HC2;have HCC:=hW_ (dQ HC2);rw[HJ.out]at HCC;obtain⟨h01,h02⟩:=h0;have hd1:decide (0<=a1)=true:=by simpa using h01
        have hd2:decide (0<=a2)=true:=by simpa using h02
        have hML:M'.length<=300000:=by
         have q1:=kW H64.out (k:=k) (by omega);have q2:=pS T k (j-1);rw[HP.out.length_eq,List.length_append];omega
        obtain⟨mo,mc,rfl,hsl⟩:=HOY.out.sl;obtain⟨ln,hln⟩:∃ln,M'.length=ln:=⟨_,rfl⟩;rw[hln]at hsl hML y1 HXY;have hput:=aAK a1 a2 (k:Int) (k:Int) wy hsl hML;have HSY:Hid (wr.heap.size<=wy.heap.size):=hW_ HRY.out.size;clear HC2 hln hsl;go_wp2_with (fail);refine hput.mono ?_
        rintro e wz ⟨⟨v',M'',rfl,ho',hp',hs'⟩,hbz⟩;obtain⟨xo,xc,rfl,_⟩:=ho'.sl;obtain⟨xn,hxn⟩:∃xn,M''.length=xn:=⟨_,rfl⟩;rw[hxn]at ho' |-;clear hxn;have HO':=hW_ ho';have HBZ:=hW_ hbz;have hxz:=(hbz.block w1.heap.size (Nat.lt_of_lt_of_le HG6.out HSY.out)).trans HXY.out;have HXZ:=hW_ hxz;obtain⟨z0,z1,z2⟩:=A4 hxz;have fz:=cU hxz;have HP':Hid (M''.Perm (bD T k++pF T k (j+1-1))):=hW_ (by
         rw[HCC.out,<-List.append_assoc];exact hp'.trans (HP.out.append_right _))
        have HS':=hW_ (hs' HSM.out);clear ho' hbz hxz hp' hs' hput y0 y1 y2;go_wp2_with (fail);go_roundw
        case rel=>exact⟨j+1,_,M'',by omega, .inl (by omega),by go_num,HP',HS',
         iA.mono (jA HO'.out fun q hq=>Below.heap_setCell _ _ _ _ (by show q≠w1.heap.size;have:=(World.ownsRow.lt HO'.out q hq).1;have:=HSY.out;have:=HG6.out;omega)) (Nat.le_trans HKP.out.size HSY.out),
         aDh HXZ.out,((HKP.out.below HRY.out).below HBZ.out).set _ _,((HBB.out.trans (HRY.out.mono HBB.out.size)).trans (HBZ.out.mono (Nat.le_trans HBB.out.size HSY.out))).setCell (by exact HG0.out) _⟩
        case measure=>simp[intOf];omega
       ·have HC2:=HC.out;rw[if_neg h0]at HC2;have HCC:=hW_ (tZ HC2);rw[HJ.out]at HCC;clear HC2
        by_cases h0a:0<=a1
        ·have hd1:decide (0<=a1)=true:=by simpa using h0a
         have h0b:¬0<=a2:=fun h=>h0 ⟨h0a,h⟩
         have hd2:decide (0<=a2)=false:=by simpa using h0b
         clear h0;go_wp2_with (fail);go_roundw
         case rel=>exact⟨j+1,mv,M',by omega, .inl (by omega),by go_num,hW_ (by rw[HCC.out];exact HP.out),HSM,HOY.out,HXY.out,HKP.out.below HRY.out,HBB.out.trans (HRY.out.mono HBB.out.size)⟩
         case measure=>simp[intOf];omega
        ·have hd1:decide (0<=a1)=false:=by simpa using h0a
         clear h0;go_wp2_with (fail);go_roundw
         case rel=>exact⟨j+1,mv,M',by omega, .inl (by omega),by go_num,hW_ (by rw[HCC.out];exact HP.out),HSM,HOY.out,HXY.out,HKP.out.below HRY.out,HBB.out.trans (HRY.out.mono HBB.out.size)⟩
         case measure=>simp[intOf];omega
      ·have HEQ:Hid (M'.Perm (bD T (k+1))):=hW_ (by
        rw[zF,iL,HSE.out,show s.size-1=j-1 by omega];exact HP.out)
       go_wp2_with (fail);go_roundw
       case rel=>exact⟨k+1,mv,M',by omega,by go_num,HEQ,HSM,HO.out,HBX.out,HKP.out,HBB.out⟩
       case measure=>simp[intOf];omega
    ·obtain rfl:k=n:=by omega
     have hMA:bD T k=xG T:=by rw[<-HN.out];exact uN T
     have HPM:Hid (M'.Perm (xG T)):=hW_ (by rw[<-hMA];exact HP.out);obtain⟨mo,mc,rfl,hsl⟩:=HO.out.sl;obtain⟨ln,hln⟩:∃ln,M'.length=ln:=⟨_,rfl⟩;have HO9:=hW_ HO.out;rw[hln]at hsl d1 HBX HO9;have hvr:xE wr ⟨some ⟨gt,0,none⟩,k,k,mo,ln,mc,sa,sn',sc'⟩ ⟨T,M',S'⟩:=by
      refine⟨?_,hsl,?_⟩
      ·have h:=D3.keepG HOT.out HKP.out HGT.out;obtain⟨a',c',e',h'⟩:=uG h;simp only[Value.slice.injEq]at e';obtain⟨rfl,e2,rfl⟩:=e';rw[<-e2]at h';exact h'
      ·exact qM (iA.keepG HOS.out HKP.out HGS.out)
     have hvok:VOk ⟨T,M',S'⟩:=⟨HSZ.out,fun s hs=>HSS.out s (HPS.out.mem_iff.1 hs),by
      have:=HPS.out.length_eq;have:=HSL.out;show S'.length<=_;omega⟩
     have hmay:=uR (V:=⟨T,M',S'⟩) (dd:=⟨some ⟨gt,0,none⟩,k,k,mo,ln,mc,sa,sn',sc'⟩) wr hvr hvok;clear hMA hsl hln hvr hvok;go_wp2_with (fail);refine hmay.mono ?_
     rintro e w5 ⟨⟨b,rfl,hi⟩,hb5⟩;have HI:=hW_ hi;have HB5:Hid (Below w0.heap.size w0 w5):=hW_ (HBB.out.trans (hb5.mono HBB.out.size));have HKP5:=hW_ (HKP.out.below hb5);have HO5:=hW_ (HO9.out.below hb5);have hx6:=(hb5.block w1.heap.size HG6.out).trans HBX.out;obtain⟨y0,y1,y2⟩:=A4 hx6;obtain⟨c0,c1,c2⟩:=A4 ((HB5.out.block w.heap.size hs0).trans HX0.out);have f0:=cU ((HB5.out.block w.heap.size hs0).trans HX0.out);have HVO:Hid (cR R S=⟨T,F6 (xG T),F5 S⟩):=hW_ (by unfold cR;rw[HTE.out]);have HSO:=hW_ (aAC (T:=T) HPM.out HSM.out HPS.out HSD.out);clear hmay hi hb5 hx6 d0 d1 d2 fv
     cases b with
     | false=>
      have HF:Hid (¬mL R S):=hW_ (fun h=>by
       have h2:=h.2;rw[HVO.out]at h2;have:=HI.out.2 (HSO.out.1.2 h2)
       cases this)
      go_wp2_with (fail);refine bodyPost_ret (v:= .tuple #[kH.val, .bool false]) ?_ rfl ⟨.inr ⟨HF.out,rfl⟩,?_⟩
      ·simp[results,Tryz.results65,go_sem,c0,c1,c2,kH]
      ·exact(((HB0.out.trans (HB5.out.mono HB0.out.size)).setCell (Nat.le_refl _) _).setCell (Nat.le_refl _) _).setCell (Nat.le_refl _) _
     | true=>
      have HG:Hid (mL R S/\M'=F6 (xG T)/\S'=F5 S):=hW_ (by
       have h:=HI.out.1 rfl;exact⟨⟨HOKR.out,by rw[HVO.out];exact HSO.out.1.1 h⟩,HSO.out.2 h⟩)
      go_wp2_with (fail);refine bodyPost_ret (v:= .tuple #[Vd.val ⟨some ⟨gt,0,none⟩,k,k,mo,ln,mc,sa,sn',sc'⟩, .bool true]) ?_ rfl ⟨.inl ⟨HG.out.1,⟨some ⟨gt,0,none⟩,k,k,mo,ln,mc,sa,sn',sc'⟩,rfl,?_⟩,?_⟩
      ·simp[results,Tryz.results65,go_sem,c0,c1,c2]
      ·rw[HVO.out,<-HG.out.2.1,<-HG.out.2.2];refine⟨?_,qM (jA HO5.out fun q h=>cL _ _ _ _ _ ?_),qM (jA (iA.keepG HOS.out HKP5.out HGS.out) fun q h=>cL _ _ _ _ _ ?_)⟩
       ·have h:=D3.keepG HOT.out HKP5.out HGT.out;have h2:D3 _ w0.heap.size (.slice (some ⟨gt,0,none⟩) k k) T:=jA h fun q hq=>cL w5 w.heap.size (.slice (some ⟨gt,0,none⟩) k k) (.slice mo ln mc) (.slice sa sn' sc') (by have:=(World.ownsRow.lt h q hq).1;omega)
        obtain⟨a',c',e',h'⟩:=uG h2;simp only[Value.slice.injEq]at e';obtain⟨rfl,e2,rfl⟩:=e';rw[<-e2]at h';exact h'
       ·have:=(World.ownsRow.lt HO5.out q h).1;have:=HB2.out.size;omega
       ·have:=(World.ownsRow.lt (iA.keepG HOS.out HKP5.out HGS.out) q h).1;omega
      ·exact(((HB0.out.trans (HB5.out.mono HB0.out.size)).setCell (Nat.le_refl _) _).setCell (Nat.le_refl _) _).setCell (Nat.le_refl _) _
 ·have HF:Hid (¬mL R S):=hW_ (fun h=>hno h.1);have HB1:=hW_ hb1;clear hb1 hbase hno;simp only[kH];obtain⟨w2,hw2⟩:∃w2,w1.alloc (.cells #[.slice none 0 0, .slice none 0 0, .slice none 0 0] 26)=w2:=⟨_,rfl⟩;have HBF:Hid (Below w0.heap.size w0 w2):=hW_ (by rw[<-hw2];exact HB1.out.alloc HB1.out.size _);obtain⟨c0,c1,c2⟩:=A4 ((HBF.out.block w.heap.size hs0).trans HX0.out);have f0:=cU ((HBF.out.block w.heap.size hs0).trans HX0.out);rw[<-hw2]at c0 c1 c2 f0 HBF;clear hw2;go_wp2_with (fail);refine bodyPost_ret (v:= .tuple #[kH.val, .bool false]) ?_ rfl ⟨.inr ⟨HF.out,rfl⟩,?_⟩
  ·simp[results,Tryz.results65,go_sem,c0,c1,c2,kH]
  ·exact(((HB0.out.trans (HBF.out.mono HB0.out.size)).setCell (Nat.le_refl _) _).setCell (Nat.le_refl _) _).setCell (Nat.le_refl _) _
section
variable {α:Type} {enc:α->List Value} {s:Nat} {e:TypeId}
theorem rI {P:Program} {w:World} {ops:Array Oper} {rest:List Oper} {o:Oper} {a:Act} {Q:Exit->Act->World->Prop} (hgd:o.guard= .none) (y x:Operand) (t:TypeId)
  (ho:o.op= .call {callee:= .builtin .append,args:=#[y,x],argTypes:=#[t,t]})
  {base:Nat} (i:TypeInfo) (z:Value) (bytes:Nat) (ht:P.underlying t=some (.slice e)) (hi:P.info? e=some i) (hz:i.zero=some z)
  (hsize:i.size=s) (hby:i.bytes=bytes) (hzs:z.cells.size=s) (hs:∀x,(enc x).length=s) (h0:0<s) (hone:∀x,∀u∈enc x,u.oneCell'=true)
  {v:Value} {L M:List α} (hy:a.eval y=v) (hown:iA enc s e w base v L)
  {ad:Addr} {m c:Nat} (hx:a.eval x= .slice (some ad) m c) (hl:SlF s w (some ad) m c (flat enc M)) (hm:0<m)
  (h63:L.length+m<=maxLen) (hbytes:(L.length+m)*bytes<=140737488355328) (hbase:base<=w.heap.size) {H:Nat} (hH:w.heap.size=H)
  (h:∀g cap w',iA enc s e w' base (.slice (some ⟨g,0,none⟩) (L.length+m) cap) (L++M)->w.grownBy w' v.ownBlock->(v.ownBlock=some g\/g=H)->Below base w w'->wpList P ops Q rest (a.put o.dst (.slice (some ⟨g,0,none⟩) (L.length+m) cap)) w'):wpList P ops Q (o::rest) a w:=by
 have hM:=hl.count hs h0;have hlt:=World.ownsRow.lt hown;refine wpList_append_lies w hgd y x t ho base e i z s bytes ht hi hz hsize hby hzs h0 v L.length _ hy hown ad m c (flat enc M) hx (by rw[lB hs,hM]) ?_ ?_ hm h63 hbytes hbase H hH (fun g cap w' h1 h2 h3 h4=>h g cap w' ?_ h2 h3 ?_)
 ·intro j u hu;obtain⟨b,of,e,hc⟩:=hl.at_ j u hu;obtain rfl:=Option.some.inj e;rw[Addr.add_lit];exact hc
 ·intro u hu;obtain⟨q,_,hq⟩:=List.mem_flatMap.1 hu;exact hone q u hq
 ·unfold iA;rw[List.length_append,hM,cB];exact h1
 ·exact(Below.refl _ _).grown h2 hbase fun k hk=>(hlt k hk).1
end
theorem oC {P:Program} {w:World} {ops:Array Oper} {rest:List Oper} {o:Oper} {a:Act} {Q:Exit->Act->World->Prop} (hgd:o.guard= .none) (t:TypeId) (x l:Operand)
  (ho:o.op= .slice t x (some l) .none .none) (e:TypeId) (i:TypeInfo) (ht:P.underlying t=some (.slice e)) (hi:P.info? e=some i) (hsz:i.size=1)
  (ao:Option Addr) (n cap:Nat) (hx:a.eval x= .slice ao n cap) (hle:n<=cap) (kl:IntKind) (L:Int) (k:Nat) (hl:a.eval l= .int kl L) (hL:L=(k:Int)) (hk:k<=n)
  (h:∀ao',(∀W vs,Sl W ao n cap vs->Sl W ao' (n-k) (cap-k) (vs.drop k))->wpList P ops Q rest (a.put o.dst (.slice ao' (n-k) (cap-k))) w):wpList P ops Q (o::rest) a w:=by
 subst hL;refine mE hgd (v:= .slice (if cap=k then ao else ao.map (·.add k)) (n-k) (cap-k)) (w':=w) ?_ (h _ (fun W vs hS=>hS.drop hk))
 have hr:=tA ht hi w ao n cap (some (.int kl k)) .none k n (fun w=>by simp[Instr.sliceBounds,run_sliceBound,hk]);simp only[execOp,ho,hx,hl,Option.map_some,Option.map_none,Sem.run_bind,hr,Result.andThen_ok,Sem.run_pure,hsz,Nat.mul_one]
def Ent.enc (e:Ent):List Value:=[.int .i64 e.place, .int .i64 e.order, .int .i64 e.out]
theorem Ent.enc_len (e:Ent):e.enc.length=3:=rfl
theorem infoEnt:(Tryz.prog.info? 256).map (fun i=>(i.zero.map (·.cells.size),i.size,i.bytes))=some (some 3,3,24):=by kernel_rfl
noncomputable def iV:B4 Tryz.prog 3 Int:=aCv Tryz.underlying3
theorem gU (w:World):(zeroValue 3).run Tryz.prog w= .ok (.int .i64 0) w:=by kernel_rfl
structure aB (w:World) (base g mb:Nat) (v:Value) (L:List Ent):Prop where
 box:w.heap[g]?=some (.cells #[v, .map (some mb)] 288)
 row:iA Ent.enc 3 256 w base v L
 at_:A0 iV 3 w mb L.length (atL L)
 once:fF L
 ok:∀e∈L,-9223372036854775808<=e.place/\e.place<=9223372036854775807
 far:∀q,v.ownBlock=some q->q≠g/\q≠mb
 lo:base<=g/\base<=mb/\g≠mb
 small:L.length<=1048576
theorem yH {w:World} {g:Nat} {a b:Value} {t:TypeId} (h:w.heap[g]?=some (.cells #[a,b] t)):w.cell? ⟨g,0,none⟩=some a/\w.cell? ⟨g,1,none⟩=some b/\∀o,w.frozen? ⟨g,o,none⟩=false:=by
 simp[World.cell?,World.frozen?,h]
theorem aB.stay {w w':World} {base g mb:Nat} {v:Value} {L:List Ent} (h:aB w base g mb v L) (hk:∀q,q<w.heap.size->w'.heap[q]?=w.heap[q]?):aB w' base g mb v L:=
 ⟨(hk _ (Array.getElem?_eq_some_iff.1 h.box).1).trans h.box,jA h.row (fun q hq=>hk q (World.ownsRow.lt h.row q hq).2),h.at_.stay (hk _ h.at_.lt),h.once,h.ok,h.far,h.lo,h.small⟩
theorem aB.below {w w':World} {base g mb:Nat} {v:Value} {L:List Ent} (h:aB w base g mb v L) (hb:Below w.heap.size w w'):aB w' base g mb v L:=h.stay (fun q hq=>hb.block q hq)
theorem D8 {base g mb:Nat} {v:Value} {L:List Ent} (w:World) (h:aB w base g mb v L):
  Calls Tryz.prog 244 #[.pointer (some ⟨g,0,none⟩)] w fun e w'=>e= .returned (.int .i64 L.length)/\w=w':=by
 obtain⟨ro,rc,rfl,_⟩:=h.row.sl;obtain⟨b0,b1,bf⟩:=yH h.box;clear h;generalize L.length=n at *;go_enter Tryz.func244,Tryz.ntmps244;go_wp2_with (fail);go_ret;exact⟨rfl,rfl⟩
theorem kL {w:World} (x y:Obj):Below w.heap.size w ((w.alloc x).alloc y).drew:=
 ((aA w x).trans (Below.mono (aA _ y) (aA w x).size)).drew
theorem dK {base g mb:Nat} {v:Value} {L:List Ent} (i j:Nat) (w:World) (h:aB w base g mb v L) (hi:i<L.length) (hj:j<L.length):
  Calls Tryz.prog 277 #[.pointer (some ⟨g,0,none⟩), .int .i64 i, .int .i64 j] w fun e w'=>e= .returned (.bool ((en L i).less (en L j)))/\Below w.heap.size w w':=by
 obtain⟨ro,rc,rfl,hsl⟩:=h.row.sl;obtain⟨b0,b1,bf⟩:=yH h.box;obtain⟨b,o,hao,hci⟩:=hsl.elem Ent.enc_len (by omega) (dE hi);obtain⟨b',o',hao',hcj⟩:=hsl.elem Ent.enc_len (by omega) (dE hj);subst hao;simp only[Option.some.injEq,Addr.mk.injEq,and_true]at hao';obtain⟨rfl,rfl⟩:=hao';have hsm:=h.small;obtain⟨x,hx⟩:∃x,en L i=x:=⟨_,rfl⟩;obtain⟨y,hy⟩:∃y,en L j=y:=⟨_,rfl⟩;rw[hx]at hci |-;rw[hy]at hcj |-;have d0:=hci 0 _ rfl;have d1:=hci 1 _ rfl;have d2:=hci 2 _ rfl;have e0:=hcj 0 _ rfl;have e1:=hcj 1 _ rfl;have e2:=hcj 2 _ rfl;rw[Nat.add_zero]at d0 e0;have gi:(i:Int)<(L.length:Int):=by omega
 have gj:(j:Int)<(L.length:Int):=by omega
 have gi0:(0:Int)<=(i:Int):=by omega
 have gj0:(0:Int)<=(j:Int):=by omega
 have HL:Hid (x.less y=(decide (x.order<y.order) || (decide (x.order=y.order) && decide (x.place<y.place)))):=hW_ rfl;obtain⟨n,hn⟩:∃n,L.length=n:=⟨_,rfl⟩;rw[hn]at gi gj b0 hsm;clear h hsl hci hcj hx hy hi hj hn;go_enter Tryz.func277,Tryz.ntmps277;go_wp2_with (fail)
 go_region_held3 (fun w'=>w'.cell? ⟨g,0,none⟩=some (.slice (some ⟨b,o,none⟩) n rc)/\w'.cell? ⟨b,o+i*3,none⟩=some (.int .i64 x.place)/\w'.cell? ⟨b,o+i*3+1,none⟩=some (.int .i64 x.order)/\w'.cell? ⟨b,o+i*3+2,none⟩=some (.int .i64 x.out)/\w'.cell? ⟨b,o+j*3,none⟩=some (.int .i64 y.place)/\w'.cell? ⟨b,o+j*3+1,none⟩=some (.int .i64 y.order)/\w'.cell? ⟨b,o+j*3+2,none⟩=some (.int .i64 y.out)) (first | assumption | go_keep) (fail)
 all_goals
  by_cases h1:x.order<y.order
  ·go_wp2_with (fail);go_ret;exact⟨by rw[HL.out];simp[h1],by exact kL _ _⟩
  ·by_cases h2:x.order=y.order
   ·by_cases h3:x.place<y.place
    ·go_wp2_with (fail);go_ret;exact⟨by rw[HL.out];simp[h2,h3],by exact kL _ _⟩
    ·go_wp2_with (fail);go_ret;exact⟨by rw[HL.out];simp[h2,h3],by exact kL _ _⟩
   ·go_wp2_with (fail);go_ret;exact⟨by rw[HL.out];simp[h1,h2],by exact kL _ _⟩
end Go.Proofs.YtahiballegpbgaaGreatDoor
