/- Walk: CommitFew. (Printed by gFew.py.) -/
import Derived.Test.YtimkkkdabmhedaaGreatDoorD38
import Derived.Test.YtimkkkdabmhedaaGreatDoorD41
import Derived.Test.YtimkkkdabmhedaaGreatDoorD43
set_option linter.unusedVariables false
set_option maxHeartbeats 4000000
set_option maxRecDepth 100000
namespace Go.Proofs.YtimkkkdabmhedaaGreatDoor
open Go.RowKit
theorem lastRun_bytes:∀{A:List Int},∀x∈lastRun A,isB x=true
 | [],x,hx=>by cases hx
 | y::l,x,hx=>by
  unfold lastRun at hx
  split at hx
  ·next h=>exact List.all_eq_true.1 h x hx
  ·exact lastRun_bytes x hx
theorem lastRun_le:∀A:List Int,(lastRun A).length≤A.length
 | []=>Nat.le_refl _
 | y::l=>by
  unfold lastRun
  split
  ·exact Nat.le_refl _
  ·have:=lastRun_le l
   simp only[List.length_cons]
   omega
theorem rest_key (A:List Int):restF (bytesI (keyB (lastRun A)))=restF (lastRun A):=by rw[keyB_bytes (fun x hx=>isB_iff.1 (lastRun_bytes x hx))]
theorem great20_calls {R:List (List Int)} {ro:Option Addr} {rn rc:Nat} (w:World) (hR:SlRows w ro rn rc R):
  Calls Tryz.prog 24 #[.slice ro rn rc] w fun e w'=>∃b,e= .returned (.bool b)∧(b=false→rn≤20∧R.flatten.length≤60)∧w'=w:=by
 have HR:=Lib.hid hR
 have HRL:=Lib.hid hR.len
 have hmr:=Nat.le_trans hR.le hR.max
 unfold maxLen at hmr
 clear hR
 by_cases h20:20<rn
 ·have g:(20:Int)<(rn:Int):=by omega
  go_enter Tryz.func24,Tryz.ntmps24
  go_wp2_with (fail)
  go_ret
  exact⟨true,rfl,fun h=>(by cases h),rfl⟩
 have g:¬(20:Int)<(rn:Int):=by omega
 go_enter Tryz.func24,Tryz.ntmps24
 go_wp2_with (fail)
 go_loopw [3,5,11] (fun n _ i wr=>∃k:Nat,k≤rn∧i= .int .i64 k∧n= .int .i64 (tot R k)∧tot R k≤60*k∧wr=w) (fun _ _ i _=>rn-(intOf i).toNat)
 case atStart=>exact⟨0,Nat.zero_le _,rfl,by rw[tot_zero];rfl,by rw[tot_zero];omega,rfl⟩
 case round=>
  obtain⟨k,hk,rfl,rfl,ht,rfl⟩:=hrel
  by_cases hlt:k<rn
  ·obtain⟨b,o,ra,rc',hao,hce,hsl⟩:=HR.out.at_ k hlt
   subst hao
   have hts:=tot_succ (R:=R) (k:=k) (by have:=HRL.out;omega)
   obtain⟨A,hA⟩:∃A,rx R k=A:=⟨_,rfl⟩
   rw[hA]at hce hts
   have HTS:=Lib.hid hts
   have gk:(k:Int)<(rn:Int):=by omega
   clear hsl hA hts
   by_cases h60:60<A.length
   ·have gl:(60:Int)<(A.length:Int):=by omega
    go_wp2_with (fail)
    refine bodyPost_ret (results_tmp rfl _ _ _) rfl ⟨true,rfl,fun h=>(by cases h),rfl⟩
   ·have gl:¬(60:Int)<(A.length:Int):=by omega
    have e1:IntKind.i64.wrap ((tot R k:Int)+(A.length:Int))=((tot R (k+1):Nat):Int):=by rw[IntKind.wrap_i64,HTS.out];omega
    go_wp2_with (fail)
    go_roundw
    case rel=>exact⟨k+1,by omega,by go_num,rfl,by rw[HTS.out];omega,by first | rfl | trivial⟩
    case measure=>simp[intOf];omega
  ·obtain rfl:k=rn:=by omega
   have HT:Hid (tot R k=R.flatten.length):=Lib.hid (by rw[←HRL.out];exact tot_all R)
   go_wp2_with (fail)
   go_ret
   refine⟨_,rfl,fun h=>⟨by omega,?_⟩,rfl⟩
   have h:=of_decide_eq_false h
   have:=HT.out
   omega
structure FwI (V:Vc) (N:List ByteArray) (kind room:Int) (w4 wr:World) (base pb g:Nat) (P0:Nat→Prop) (R:List (List Int)) (k:Nat) (A:List Int) (v9:Value) (o:Option Addr) (cnt tk:Int) (P:Nat→Prop):Prop where
 cdr:Cdr wr base g V N kind usR room cnt P
 pt:PtR wr pb g o (A.drop (comN kind usR A false)) (comN kind usR A false) tk false
 ck:checkF V N A=0
 own:Own wr base v9 A
 fr:∀q,v9.ownBlock=some q→¬P q∧q≠pb
 pn:¬P pb
 sub:∀q,P q→P0 q∨w4.heap.size≤q
 kp:Keeps (fun q=>P0 q∨q=pb∨w4.heap.size≤q) w4 wr
 le:A.length≤tot R k
 num:0≤cnt∧cnt≤60*k∧0≤tk∧tk≤60*k
theorem FwI.below {V:Vc} {N:List ByteArray} {kind room:Int} {w4 wr w':World} {base pb g:Nat} {P0:Nat→Prop} {R:List (List Int)} {k:Nat} {A:List Int} {v9:Value} {o:Option Addr} {cnt tk:Int} {P:Nat→Prop} (h:FwI V N kind room w4 wr base pb g P0 R k A v9 o cnt tk P) (hb:Below wr.heap.size wr w'):FwI V N kind room w4 w' base pb g P0 R k A v9 o cnt tk P:=
 ⟨h.cdr.below hb,h.pt.stay (hb.block _ h.pt.lt) (fun ad e h0=>hb.block _ (h.pt.olt ad e h0)),h.ck,h.own.below hb,h.fr,h.pn,h.sub,h.kp.trans (Keeps.of_below hb),h.le,h.num⟩
theorem commitFew_walk {V:Vc} {dd:Vd} {N:List ByteArray} {kind:Int} {T:List Rg} {room:Int} {no to_:Option Addr} {nn nc tn tc:Nat} {ro:Option Addr} {rn rc:Nat} {R:List (List Int)} (w:World) (hV:VocR w dd V) (hok:(∀s∈V.tokens,s.size≤maxLen)∧Sized V.specials) (hN:SlS w no nn nc N) (hNs:∀s∈N,s.size≤maxLen)
  (hT:SlF 3 w to_ tn tc (flat Rg.enc T)) (hR:SlRows w ro rn rc R) (hU:Usu w):
  Frame.Law Tryz.prog 6 #[.agg #[.slice dd.ta dd.tn dd.tc, .slice dd.ma dd.mn dd.mc, .slice dd.sa dd.sn dd.sc, .slice no nn nc, .int .i64 kind, .slice to_ tn tc, .int .i64 room], .slice ro rn rc] w:=by
 unfold Frame.Law
 obtain⟨ta,tn',tc',ma,mn,mc,sa,sn,sc'⟩:=dd
 obtain⟨w0,hw0⟩:∃w0,w.alloc (.cells #[.slice ta tn' tc', .slice ma mn mc, .slice sa sn sc', .slice no nn nc, .int .i64 kind, .slice none 0 0, .int .i64 room] 29)=w0:=⟨_,rfl⟩
 have hb0:Below w.heap.size w w0:=hw0▸below_alloc w _
 have hx0:w0.heap[w.heap.size]?=some (.cells #[.slice ta tn' tc', .slice ma mn mc, .slice sa sn sc', .slice no nn nc, .int .i64 kind, .slice none 0 0, .int .i64 room] 29):=by rw[←hw0];exact heap_alloc_new w _
 have hmade:=made2_calls (dd:=⟨ta,tn',tc',ma,mn,mc,sa,sn,sc'⟩) (kind:=kind) (room:=room) (T:=[]) w0 (hV.below hb0) hok (Sl.below hN hb0) hNs (SlF.nothing _) (hU.below hb0)
 have HV0:=Lib.hid hV
 have HN0:=Lib.hid hN
 have HX0:=Lib.hid hx0
 have HR:=Lib.hid hR
 have HRL:=Lib.hid hR.len
 have hmr:=Nat.le_trans hR.le hR.max
 unfold maxLen at hmr
 have HU:=Lib.hid hU
 have HB0:=Lib.hid hb0
 have HW0:=Lib.hid hw0
 obtain⟨c0,c1,c2,c3,c4,c5,c6⟩:=box7 hx0
 rw[←HW0.out]at c0 c1 c2 c3 c4 c5 c6
 clear hV hok hN hNs hT hU hb0 hw0 hx0 hR
 go_enter Tryz.func6,Tryz.ntmps6
 go_wp2_with (fail)
 rw[HW0.out]
 clear c0 c1 c2 c3 c4 c5 c6
 refine hmade.mono ?_
 rintro e w1 ⟨hpost,hb1⟩
 have hZ01:Hid (w0.heap.size≤w1.heap.size):=Lib.hid hb1.size
 have HB01:=Lib.hid hb1
 have HB1:Hid (Below w.heap.size w w1):=Lib.hid (HB0.out.trans (hb1.mono HB0.out.size))
 clear hb1 hmade
 rcases hpost with⟨rfl,-⟩ | ⟨hM,hOK,hG,g,cb,mb,to2,tn2,tc2,rfl,hTC,hCR⟩
 ·unfold noC
  have hb2:=HB1.out.alloc HB1.out.size (.cells #[.slice none 0 0, .slice none 0 0, .slice none 0 0, .slice none 0 0, .int .i64 0, .slice none 0 0] 37)
  have HB2:=Lib.hid hb2
  clear hb2
  go_wp2_with (fail)
  refine(fixed20_calls _ (HU.out.below HB2.out)).mono ?_
  rintro e w3 ⟨rfl,hb3⟩
  have HB3:=Lib.hid (HB2.out.trans (hb3.mono HB2.out.size))
  clear hb3
  go_wp2_with (fail)
  go_ret
  exact⟨rfl,HB3.out⟩
 obtain⟨w2,hw2⟩:∃w2,w1.alloc (.cells #[.slice ta tn' tc', .slice ma mn mc, .slice sa sn sc', .slice no nn nc, .int .i64 kind, .slice to2 tn2 tc2] 37)=w2:=⟨_,rfl⟩
 have hb2:Below w1.heap.size w1 w2:=hw2▸below_alloc w1 _
 have hx2:w2.heap[w1.heap.size]?=some (.cells #[.slice ta tn' tc', .slice ma mn mc, .slice sa sn sc', .slice no nn nc, .int .i64 kind, .slice to2 tn2 tc2] 37):=by rw[←hw2];exact heap_alloc_new w1 _
 have hz2:w1.heap.size<w2.heap.size:=by rw[←hw2];simp
 have HB2:Hid (Below w.heap.size w w2):=Lib.hid (HB1.out.trans (hb2.mono HB1.out.size))
 rw[show tabOf ([]:List Rg)=usR from rfl]at hTC
 have hK1:=Cdr.new hTC hOK.2.2.2.2.1
 have HK1:=Lib.hid (hK1.below hb2)
 have HCR:=Lib.hid (hCR.below hb2)
 have HM:=Lib.hid hM
 have HOK:=Lib.hid hOK
 have HX2:=Lib.hid hx2
 have HZ2:=Lib.hid hz2
 have HW2:=Lib.hid hw2
 have HN1:Hid (N.length≤16∧0≤kind∧kind≤3∧MayTab (usR)∧0≤room∧room≤1048576):=Lib.hid ⟨hOK.1.1,hOK.2.1,hOK.2.2.1,mayTab_us,hOK.2.2.2.2.1,hOK.2.2.2.2.2⟩
 have HKT:Hid (w2.heap[w.heap.size]?=some (.cells #[.slice ta tn' tc', .slice ma mn mc, .slice sa sn sc', .slice no nn nc, .int .i64 kind, .slice none 0 0, .int .i64 room] 29)):=Lib.hid ((hb2.block _ (by have:=(Array.getElem?_eq_some_iff.1 HX0.out).1;have:=hZ01.out;omega)).trans ((HB01.out.block _ (Array.getElem?_eq_some_iff.1 HX0.out).1).trans HX0.out))
 clear hb2 hx2 hz2 hw2 hTC hCR hM hOK hG hK1
 unfold cVal
 have hgr:=great20_calls w2 (SlRows.below HR.out HB2.out)
 have HGR:=Lib.hid hgr
 clear hgr
 go_wp2_with (fail)
 rw[HW2.out]
 go_at_call 24
 refine HGR.out.mono ?_
 rintro E W2 ⟨b,rfl,hbf,rfl⟩
 cases b with
 | true=>
  go_wp2_with (fail)
  refine(fixed20_calls _ (HU.out.below HB2.out)).mono ?_
  rintro e w9 ⟨rfl,hb9⟩
  have HB9:=Lib.hid (HB2.out.trans (hb9.mono HB2.out.size))
  clear hb9
  go_wp2_with (fail)
  go_ret
  exact⟨rfl,HB9.out⟩
 | false=>
 obtain⟨h20,h60⟩:=hbf rfl
 have HFL:Hid (R.flatten.length≤60):=Lib.hid h60
 clear hbf h60
 go_wp2_with (fail)
 obtain⟨w3,hw3⟩:∃w3,W2.alloc (.cells #[.pointer (some ⟨g,0,none⟩), .slice none 0 0, .int .i64 0, .int .i64 0, .bool false] 110)=w3:=⟨_,rfl⟩
 have hb3:Below W2.heap.size W2 w3:=hw3▸below_alloc W2 _
 have hx3:w3.heap[W2.heap.size]?=some (.cells #[.pointer (some ⟨g,0,none⟩), .slice none 0 0, .int .i64 0, .int .i64 0, .bool false] 110):=by rw[←hw3];exact heap_alloc_new W2 _
 have hz3:w3.heap.size=W2.heap.size+1:=by rw[←hw3];simp
 obtain⟨w4,hw4⟩:∃w4,w3.alloc (.cells #[] 3)=w4:=⟨_,rfl⟩
 have hb4:Below w3.heap.size w3 w4:=hw4▸below_alloc w3 _
 have hz4:w4.heap.size=w3.heap.size+1:=by rw[←hw4];simp
 have hown4:Own w4 w3.heap.size (.slice (some ⟨w3.heap.size,0,none⟩) 0 0) []:=by rw[←hw4];exact own_made0 w3
 have hb24:=hb3.trans (hb4.mono hb3.size)
 have hz2:=HZ2.out
 have hz01:=hZ01.out
 have hcd4:=HK1.out.below hb24
 have HF0:Hid (FwI V N kind room w4 w4 w0.heap.size W2.heap.size g (fun q=>w0.heap.size≤q∧q<w1.heap.size) R 0 [] (.slice (some ⟨w3.heap.size,0,none⟩) 0 0) none 0 0 (fun q=>w0.heap.size≤q∧q<w1.heap.size)):=Lib.hid
  ⟨hcd4,⟨0,by
    have e:comN kind usR [] false=0:=rfl
    rw[e]
    exact(hb4.block _ (by omega)).trans hx3,Sl.none⟩,rfl,hown4.mono (by omega),fun q hq=>by
    obtain rfl:w3.heap.size=q:=by simpa[Value.ownBlock]using hq
    exact⟨fun h=>by omega,by omega⟩,fun h=>by omega,fun q hq=> .inl hq,Keeps.refl _ _,Nat.zero_le _,by omega⟩
 have HB4:Hid (Below w.heap.size w w4):=Lib.hid (HB2.out.trans (hb24.mono HB2.out.size))
 have HX4:=Lib.hid ((hb24.block _ HZ2.out).trans HX2.out)
 have HS4:Hid (w.heap.size≤w0.heap.size∧w0.heap.size≤w1.heap.size∧w1.heap.size<W2.heap.size∧W2.heap.size<w3.heap.size∧w3.heap.size<w4.heap.size):=Lib.hid ⟨HB0.out.size,by omega,by omega,by omega,by omega⟩
 have HW3:=Lib.hid hw3
 have HW4:=Lib.hid hw4
 clear hb3 hx3 hz3 hb4 hz4 hown4 hb24 hz2 hz01 hcd4 hw3 hw4
 go_wp2_with (go_at_call 26;refine(pnew_calls g W2).mono ?_;rintro E W6 ⟨rfl,rfl⟩)
 rw[HW3.out,HW4.out]
 go_loopw [9,11,12,13,33] (fun v9 _ _ _ i wr=>∃(k:Nat) (A:List Int) (o:Option Addr) (cnt tk:Int) (P:Nat→Prop),k≤rn∧i= .int .i64 k∧Hid (FwI V N kind room w4 wr w0.heap.size W2.heap.size g (fun q=>w0.heap.size≤q∧q<w1.heap.size) R k A v9 o cnt tk P)) (fun _ _ _ _ i _=>rn-(intOf i).toNat)
 case atStart=>exact⟨0,[],none,0,0,_,Nat.zero_le _,rfl,by
  have h:w3.heap.size=W2.heap.size+1:=by rw[←HW3.out];simp
  rw[←h];exact HF0⟩
 case round=>
  obtain⟨k,A,o,cnt,tk,P,hk,rfl,HF0⟩:=hrel
  obtain⟨wz,hwz⟩:∃w',w'=wr:=⟨_,rfl⟩
  subst hwz
  have HBr:Hid (Below w.heap.size w wz):=Lib.hid (HB4.out.trans (HF0.out.kp.below (by have:=HS4.out;omega) (fun q hq=>by
   have:=HS4.out
   rcases hq with h | h | h<;>omega)))
  have HNN:=HN1.out
  by_cases hlt:k<rn
  ·obtain⟨b,o1,ra,rc',hao,hce,hsl⟩:=(HR.out.below HBr.out).at_ k hlt
   subst hao
   have hts:=tot_succ (R:=R) (k:=k) (by have:=HRL.out;omega)
   have htl:=tot_le R (k+1)
   obtain⟨B,hB⟩:∃B,rx R k=B:=⟨_,rfl⟩
   rw[hB]at hce hsl hts
   have gk:(k:Int)<(rn:Int):=by omega
   have HSL:=Lib.hid hsl
   have HTS:=Lib.hid hts
   have HTL:=Lib.hid htl
   have hA60:A.length+B.length≤60:=by
    have h1:=HF0.out.le
    have h2:=HFL.out
    omega
   clear hsl hts htl hB
   by_cases hc:checkF V N B=0
   ·have hcA:=HF0.out.ck
    have hle:=comN_le (kind:=kind) (e:=false) mayTab_us hcA
    have hnum:=HF0.out.num
    have hck1:=(checkF_take hcA (comN kind usR A false)).2
    have hlr:(A.drop (comN kind usR A false)).length=A.length-comN kind usR A false:=by rw[List.length_drop]
    have hG:=pgrow_calls wz HF0.out.cdr HM.out HNN.1 mayTab_us HNN.2.1 HNN.2.2.1 HNN.2.2.2.2.2 HF0.out.pt HF0.out.pn HSL.out (by rw[hlr];omega) (by rw[hlr];omega) hck1 hc (by omega) (by omega)
    have hck2:checkF V N (A.drop (comN kind usR A false)++B)=0:=by rw[checkF_cat hck1];exact hc
    have r1:=com_len (V:=V) (N:=N) mayTab_us hck2 (kind:=kind) (e:=false)
    have r3:=comB_le (V:=V) (N:=N) mayTab_us hck2 (kind:=kind) (e:=false)
    rw[List.length_append,hlr]at r1 r3
    have hcm:=(com_more (V:=V) (N:=N) (kind:=kind) mayTab_us ⟨HNN.2.1,HNN.2.2.1⟩ B hcA).2
    have HG:=Lib.hid hG
    have HPL:=Lib.hid (And.intro hcA (And.intro hle (And.intro hcm (And.intro hc (And.intro r1 r3)))))
    clear hG hcA hle hnum hck1 hlr hck2 r1 r3 hcm hc
    go_wp2_with (fail)
    go_at_call 27
    refine HG.out.mono ?_
    rintro E w5 ⟨v5,rfl,o5,P5,-,hc5,hp5,hs5,-,-,hk5⟩
    have hi9:=own_on HF0.out.own hk5 (fun q hq hz=>by
     obtain⟨h1,h2⟩:=HF0.out.fr q hq
     rcases hz with h | h
     ·exact h1 h
     ·exact h2 h)
    obtain⟨a9,k9,e9,hs9⟩:=hi9.sl
    have hB5:SlI w5 ra B.length rc' B:=HSL.out.keep0 (fun ad e h0=>hk5.block _ (HSL.out.blk ad e h0) (fun hz=>by
     have h1:=(HR.out.at_ k hlt)
     obtain⟨b',o',ra',rc2,hao',hce',hsl'⟩:=h1
     obtain⟨rfl,-,-⟩:=Value.slice.inj (Option.some.inj (hce.symm.trans ((congrArg (fun a=>wz.cell? a) (by
      obtain⟨e1,e2,-⟩:=Addr.mk.inj (Option.some.inj hao')
      rw[e1,e2])).trans (cell_below HBr.out _ _ hce'))))
     have hb':=hsl'.blk ad e (by
      by_cases g:(rx R k).length=0
      ·have:=(cell_below HBr.out _ _ hce')
       obtain⟨e1,e2,-⟩:=Addr.mk.inj (Option.some.inj hao')
       rw[e1,e2]at hce
       obtain⟨-,e3,-⟩:=Value.slice.inj (Option.some.inj (hce.symm.trans this))
       omega
      ·omega)
     have:=HS4.out
     rcases hz with h | h
     ·have:=(HF0.out.cdr.lt _ h).1;omega
     ·omega))
    subst e9
    have HJ:=Lib.hid (rjoin_calls w5 hs9 hB5 (by omega) (by omega))
    have HC5:=Lib.hid hc5
    have HP5:=Lib.hid hp5
    have HS5:=Lib.hid hs5
    have HK5:=Lib.hid hk5
    clear hc5 hp5 hs5 hk5 hi9 hs9 hB5
    go_wp2_with (fail)
    go_at_call 22
    refine HJ.out.mono ?_
    rintro E wj ⟨⟨vo6,vc6,rfl,ho6⟩,hbj⟩
    have hF:FwI V N kind room w4 wj w0.heap.size W2.heap.size g (fun q=>w0.heap.size≤q∧q<w1.heap.size) R (k+1) (A++B) (.slice vo6 (A.length+B.length) vc6) o5 (cnt+comB kind usR (A.drop (comN kind usR A false)++B) false) (tk+(comT V N kind usR (A.drop (comN kind usR A false)++B) false).length) P5:=by
     obtain⟨p1,p2,p3,p4,p5,p6⟩:=HPL.out
     have hs4:=HS4.out
     have hkz:=HF0.out.kp.size
     have hk5s:=HK5.out.size
     have hnum:=HF0.out.num
     have hpt:=HF0.out.pt.lt
     have hfr0:=HF0.out.fr
     have hbl:=World.ownsRow.lt ho6
     have hpn5:¬P5 W2.heap.size:=fun h=>by
      rcases HS5.out _ h with h1 | h1
      ·exact HF0.out.pn h1
      ·omega
     refine⟨HC5.out.below hbj,?_,?_,?_,fun q hq=> ?_,hpn5,fun q hq=> ?_,?_,?_,?_⟩
     ·have h:=HP5.out.stay (w':=wj) (hbj.block _ HP5.out.lt) (fun ad e h0=>hbj.block _ (HP5.out.olt ad e h0))
      have e1:(A++B).drop (comN kind usR (A++B) false)=(A.drop (comN kind usR A false)++B).drop (comN kind usR (A.drop (comN kind usR A false)++B) false):=by
       rw[p3,←List.drop_drop,List.drop_append_of_le_length p2]
      rw[e1,p3]
      rw[Int.natCast_add]
      exact h
     ·rw[checkF_cat p1];exact p4
     ·have h:Own wj w5.heap.size (.slice vo6 (A.length+B.length) vc6) (A++B):=ho6
      exact h.mono (by omega)
     ·obtain⟨h1,h2⟩:=hbl q hq
      exact⟨fun h=>by have:=(HC5.out.lt q h).2;omega,by omega⟩
     ·rcases HS5.out q hq with h1 | h1
      ·exact HF0.out.sub q h1
      ·exact .inr (by omega)
     ·refine(HF0.out.kp.trans (HK5.out.mono (fun q _ h=> ?_))).trans (Keeps.of_below hbj)
      rcases h with h | h
      ·rcases HF0.out.sub q h with h1 | h1
       ·exact .inl h1
       ·exact .inr (.inr h1)
      ·exact .inr (.inl h)
     ·rw[HTS.out,List.length_append]
      have:=HF0.out.le
      omega
     ·omega
    have HF:=Lib.hid hF
    clear hF ho6 hbj
    have hfo:=few_open (kind:=kind) (V:=V) (N:=N) ⟨HN1.out.2.1,HN1.out.2.2.1⟩ HF.out.ck
    obtain⟨n4,hn4⟩:∃n,(splitF kind usR ((A++B).drop (comN kind usR (A++B) false)) false).length=n:=⟨_,rfl⟩
    obtain⟨cb6,hcod⟩:=HF.out.cdr.cod
    have hal:(A++B).length≤60:=by
     have h1:=HF.out.le
     have h2:=HFL.out
     have h3:=tot_le R (k+1)
     omega
    have hop:=popen_calls hcod HF.out.pt (by rw[List.length_drop];omega) mayTab_us HN1.out.2.1 HN1.out.2.2.1
    rw[hn4]at hop hfo
    have HOP:=Lib.hid hop
    have HFO:=Lib.hid hfo.2
    have g4:decide ((4:Int)<(n4:Int))=false:=by have:=hfo.1;simp;omega
    have HAL:=Lib.hid hal
    have HN4:=Lib.hid hn4
    clear hop hcod hn4 hfo hal
    go_wp2_with (fail)
    go_at_call 28
    refine HOP.out.mono ?_
    rintro E w6 ⟨rfl,hb6⟩
    have HF6:=Lib.hid (HF.out.below hb6)
    clear hb6
    obtain⟨cb7,hcod7⟩:=HF6.out.cdr.cod
    have hop7:=popen_calls hcod7 HF6.out.pt (by have:=HAL.out;rw[List.length_drop];omega) mayTab_us HN1.out.2.1 HN1.out.2.2.1
    rw[HN4.out]at hop7
    have HOP7:=Lib.hid hop7
    clear hop7 hcod7
    go_wp2_with (fail)
    go_at_call 28
    refine HOP7.out.mono ?_
    rintro E w7 ⟨rfl,hb7⟩
    have HF7:=Lib.hid (HF6.out.below hb7)
    clear hb7
    by_cases h2:2<n4
    ·have g2:decide ((2:Int)<(n4:Int))=true:=by simp;omega
     obtain⟨ao9,c9,e9,hs9⟩:=HF7.out.own.sl
     obtain⟨rfl,el9,rfl⟩:=Value.slice.inj e9
     rw[←el9]at hs9
     clear el9 e9
     have hrl:=rlast_calls w7 hs9 (by have:=HAL.out;omega)
     have hne:restF (lastRun (A++B))≠0:=fun e=>by have:=HFO.out e;omega
     have HRLA:=Lib.hid hrl
     have HNE:=Lib.hid hne
     clear hrl hne hs9
     go_wp2_with (fail)
     go_at_call 30
     refine HRLA.out.mono ?_
     rintro E w8 ⟨rfl,hb8⟩
     have HF8:=Lib.hid (HF7.out.below hb8)
     clear hb8
     have hrr:=rrest_calls (keyB (lastRun (A++B))) w8 (by
      rw[←bytesI_len,keyB_bytes (fun x hx=>isB_iff.1 (lastRun_bytes x hx))]
      have:=HAL.out
      have:=lastRun_le (A++B)
      omega)
     rw[rest_key]at hrr
     obtain⟨z,hz⟩:∃z,restF (lastRun (A++B))=z:=⟨_,rfl⟩
     rw[hz]at hrr
     have HRR:=Lib.hid hrr
     have gz:((z:Int)==0)=false:=by have:=HNE.out;rw[hz]at this;simp;omega
     clear hrr hz
     go_wp2_with (fail)
     go_at_call 29
     refine HRR.out.mono ?_
     rintro E w9 ⟨rfl,hb9⟩
     have HF9:=Lib.hid (HF8.out.below hb9)
     clear hb9
     go_wp2_with (fail)
     go_roundw
     case rel=>exact⟨k+1,_,_,_,_,_,by omega,by go_num,HF9⟩
     case measure=>simp[intOf];omega
    ·have g2:decide ((2:Int)<(n4:Int))=false:=by simp;omega
     go_wp2_with (fail)
     go_roundw
     case rel=>exact⟨k+1,_,_,_,_,_,by omega,by go_num,HF7⟩
     case measure=>simp[intOf];omega
   ·obtain⟨a9,k9,e9,-⟩:=HF0.out.own.sl
    subst e9
    obtain⟨cb5,hcod⟩:=HF0.out.cdr.cod
    have hgf:=pgrow_fault wz hcod HNN.1 HF0.out.pt HSL.out (by omega) hc
    have hck:=rcheck_calls (dd:=⟨ta,tn',tc',ma,mn,mc,sa,sn,sc'⟩) (kind:=kind) (to_:=to2) (tn':=tn2) (tc':=tc2) wz ⟨HV0.out.below HBr.out,Sl.below HN0.out HBr.out,HCR.out.t64,HCR.out.n16,HCR.out.sp,HCR.out.tk⟩ HSL.out (by omega)
    obtain⟨x,hx⟩:∃x,checkF V N B=x:=⟨_,rfl⟩
    rw[hx]at hgf hck hc
    unfold cVal at hck
    have gx:(x==0)=false:=by simpa using hc
    have hxm:=(HF0.out.kp.block w1.heap.size (by have:=HS4.out;omega) (fun h=>by
     have:=HS4.out
     rcases h with h | h | h<;>omega)).trans HX4.out
    obtain⟨b0,b1,b2,b3,b4,b5,bf⟩:=box6 hxm
    have HGF:=Lib.hid hgf
    have HCK:=Lib.hid hck
    clear hcod hgf hck hx hc hxm
    go_wp2_with (fail)
    go_at_call 27
    refine HGF.out.mono ?_
    rintro E W5 ⟨rfl,rfl⟩
    go_wp2_with (fail)
    go_at_call 21
    refine HCK.out.mono ?_
    rintro E wj ⟨rfl,hbj⟩
    have HF:Hid (FwI V N kind room w4 wj w0.heap.size W2.heap.size g (fun q=>w0.heap.size≤q∧q<w1.heap.size) R (k+1) A (.slice a9 A.length k9) o cnt tk P):=Lib.hid (by
     have h:=HF0.out.below hbj
     have hn:=h.num
     have hl:=h.le
     exact⟨h.cdr,h.pt,h.ck,h.own,h.fr,h.pn,h.sub,h.kp,by have:=HTS.out;omega,by omega⟩)
    clear hbj b0 b1 b2 b3 b4 b5 bf
    have hfo:=few_open (kind:=kind) (V:=V) (N:=N) ⟨HN1.out.2.1,HN1.out.2.2.1⟩ HF.out.ck
    obtain⟨n4,hn4⟩:∃n,(splitF kind usR (A.drop (comN kind usR A false)) false).length=n:=⟨_,rfl⟩
    obtain⟨cb6,hcod⟩:=HF.out.cdr.cod
    have hal:A.length≤60:=by
     have h1:=HF.out.le
     have h2:=HFL.out
     have h3:=tot_le R (k+1)
     omega
    have hop:=popen_calls hcod HF.out.pt (by rw[List.length_drop];omega) mayTab_us HN1.out.2.1 HN1.out.2.2.1
    rw[hn4]at hop hfo
    have HOP:=Lib.hid hop
    have HFO:=Lib.hid hfo.2
    have g4:decide ((4:Int)<(n4:Int))=false:=by have:=hfo.1;simp;omega
    have HAL:=Lib.hid hal
    have HN4:=Lib.hid hn4
    clear hop hcod hn4 hfo hal
    go_wp2_with (fail)
    go_at_call 28
    refine HOP.out.mono ?_
    rintro E w6 ⟨rfl,hb6⟩
    have HF6:=Lib.hid (HF.out.below hb6)
    clear hb6
    obtain⟨cb7,hcod7⟩:=HF6.out.cdr.cod
    have hop7:=popen_calls hcod7 HF6.out.pt (by have:=HAL.out;rw[List.length_drop];omega) mayTab_us HN1.out.2.1 HN1.out.2.2.1
    rw[HN4.out]at hop7
    have HOP7:=Lib.hid hop7
    clear hop7 hcod7
    go_wp2_with (fail)
    go_at_call 28
    refine HOP7.out.mono ?_
    rintro E w7 ⟨rfl,hb7⟩
    have HF7:=Lib.hid (HF6.out.below hb7)
    clear hb7
    by_cases h2:2<n4
    ·have g2:decide ((2:Int)<(n4:Int))=true:=by simp;omega
     obtain⟨ao9,c9,e9,hs9⟩:=HF7.out.own.sl
     obtain⟨rfl,el9,rfl⟩:=Value.slice.inj e9
     rw[←el9]at hs9
     clear el9 e9
     have hrl:=rlast_calls w7 hs9 (by have:=HAL.out;omega)
     have hne:restF (lastRun A)≠0:=fun e=>by have:=HFO.out e;omega
     have HRLA:=Lib.hid hrl
     have HNE:=Lib.hid hne
     clear hrl hne hs9
     go_wp2_with (fail)
     go_at_call 30
     refine HRLA.out.mono ?_
     rintro E w8 ⟨rfl,hb8⟩
     have HF8:=Lib.hid (HF7.out.below hb8)
     clear hb8
     have hrr:=rrest_calls (keyB (lastRun A)) w8 (by
      rw[←bytesI_len,keyB_bytes (fun x hx=>isB_iff.1 (lastRun_bytes x hx))]
      have:=HAL.out
      have:=lastRun_le A
      omega)
     rw[rest_key]at hrr
     obtain⟨z,hz⟩:∃z,restF (lastRun A)=z:=⟨_,rfl⟩
     rw[hz]at hrr
     have HRR:=Lib.hid hrr
     have gz:((z:Int)==0)=false:=by have:=HNE.out;rw[hz]at this;simp;omega
     clear hrr hz
     go_wp2_with (fail)
     go_at_call 29
     refine HRR.out.mono ?_
     rintro E w9 ⟨rfl,hb9⟩
     have HF9:=Lib.hid (HF8.out.below hb9)
     clear hb9
     go_wp2_with (fail)
     go_roundw
     case rel=>exact⟨k+1,_,_,_,_,_,by omega,by go_num,HF9⟩
     case measure=>simp[intOf];omega
    ·have g2:decide ((2:Int)<(n4:Int))=false:=by simp;omega
     go_wp2_with (fail)
     go_roundw
     case rel=>exact⟨k+1,_,_,_,_,_,by omega,by go_num,HF7⟩
     case measure=>simp[intOf];omega
  ·obtain rfl:k=rn:=by omega
   have hle:=comN_le (kind:=kind) (e:=false) mayTab_us HF0.out.ck
   obtain⟨n1,hn1⟩:∃n,comN kind usR A false=n:=⟨_,rfl⟩
   have hpt:=HF0.out.pt
   rw[hn1]at hpt hle
   have hA60:A.length≤60:=by
    have h1:=HF0.out.le
    have h2:=HFL.out
    have h3:=tot_le R k
    omega
   obtain⟨a9,k9,e9,-⟩:=HF0.out.own.sl
   subst e9
   have HPT:=Lib.hid hpt
   have hrl:(A.drop n1).length=A.length-n1:=by rw[List.length_drop]
   have HRLn:=Lib.hid hrl
   have esum:IntKind.i64.wrap ((n1:Int)+((A.length-n1:Nat):Int))=(A.length:Int):=by rw[IntKind.wrap_i64];omega
   clear hn1 hpt hrl
   go_wp2_with (fail)
   refine(fixed20_calls _ (HU.out.below HBr.out)).mono ?_
   rintro E w6 ⟨rfl,hb6⟩
   have HB6:Hid (Below w.heap.size w w6):=Lib.hid (HBr.out.trans (hb6.mono HBr.out.size))
   have hp6:=HPT.out.stay (w':=w6) (hb6.block _ HPT.out.lt) (fun ad e h0=>hb6.block _ (HPT.out.olt ad e h0))
   have HP6:=Lib.hid hp6
   have hpr:=prest_calls hp6 (by rw[HRLn.out];omega)
   rw[HRLn.out]at hpr
   have HPR:=Lib.hid hpr
   clear hb6 hp6 hpr
   go_wp2_with (first
    | (go_at_call 31;refine(pat_calls HP6.out).mono ?_;rintro E W8 ⟨rfl,rfl⟩)
    | (go_at_call 32;refine HPR.out.mono ?_;rintro E w8 ⟨vo8,vc8,rfl,-,hb8⟩;have HB8:=Lib.hid hb8;clear hb8))
   go_ret
   exact⟨rfl,HB6.out.trans (HB8.out.mono HB6.out.size)⟩
end Go.Proofs.YtimkkkdabmhedaaGreatDoor
