/- Plain law: tokens' symbols, one behind the other. No program here. -/
import Derived.Test.YtimkkkdabmhedaaGreatDoorD9
import Derived.Test.YtimkkkdabmhedaaGreatDoorD1
import Derived.Test.YtimkkkdabmhedaaGreatDoorD35
import Derived.Test.YtimkkkdabmhedaaGreatDoorD18
import Derived.LoopN
import Derived.Test.YtimkkkdabmhedaaGreatDoorD37
import Derived.Test.YtimkkkdabmhedaaGreatDoorD19
set_option linter.unusedVariables false
set_option maxHeartbeats 2000000
set_option maxRecDepth 100000
namespace Go.Proofs.YtimkkkdabmhedaaGreatDoor
open Go
theorem decTo_cons (V:Vc) (N:List ByteArray) (t:Int) (l:List Int):decTo V N (t::l)=if(symsOf V N t).2=0 then(if(decTo V N l).2=0 then((symsOf V N t).1++(decTo V N l).1,0)else([],(decTo V N l).2))else([],(symsOf V N t).2):=rfl
theorem decTo_app {V:Vc} {N:List ByteArray}:∀{L R:List Int},(decTo V N L).2=0→decTo V N (L++R)=if(decTo V N R).2=0 then((decTo V N L).1++(decTo V N R).1,0)else([],(decTo V N R).2)
 | [],R,_=>by
  show decTo V N R=_
  by_cases h:(decTo V N R).2=0
  ·rw[if_pos h];simp only[decTo,List.nil_append]
   rw[←h]
  ·rw[if_neg h]
   exact decTo_bad h
 | t::L,R,h=>by
  rw[decTo_cons]at h
  by_cases h1:(symsOf V N t).2=0
  ·rw[if_pos h1]at h
   by_cases h2:(decTo V N L).2=0
   ·rw[List.cons_append,decTo_cons,decTo_app h2,if_pos h1,decTo_cons V N t L,if_pos h1,if_pos h2]
    by_cases h3:(decTo V N R).2=0
    ·simp[h3]
    ·simp[h3]
   ·rw[if_neg h2]at h;exact absurd h h2
  ·rw[if_neg h1]at h;exact absurd h h1
where
 decTo_bad {V:Vc} {N:List ByteArray}:∀{R:List Int},(decTo V N R).2≠0→decTo V N R=([],(decTo V N R).2)
 | [],h=>absurd rfl h
 | t::L,h=>by
  rw[decTo_cons]at h ⊢
  by_cases h1:(symsOf V N t).2=0
  ·rw[if_pos h1]at h ⊢
   by_cases h2:(decTo V N L).2=0
   ·rw[if_pos h2]at h;exact absurd rfl h
   ·rw[if_neg h2]
  ·rw[if_neg h1]
structure DecK (V:Vc) (N:List ByteArray) (A:List Int) (k:Nat) (out:List Int):Prop where
 ok:(decTo V N (A.take k)).2=0
 out:(decTo V N (A.take k)).1=out
theorem DecK.zero (V:Vc) (N:List ByteArray) (A:List Int):DecK V N A 0 []:=⟨rfl,rfl⟩
theorem decTo_one (V:Vc) (N:List ByteArray) (t:Int):(decTo V N [t]).2=(symsOf V N t).2∧((symsOf V N t).2=0→(decTo V N [t]).1=(symsOf V N t).1):=by
 rw[decTo_cons]
 by_cases h:(symsOf V N t).2=0
 ·rw[if_pos h];simp[decTo,h]
 ·rw[if_neg h];exact⟨rfl,fun h2=>absurd h2 h⟩
theorem DecK.next {V:Vc} {N:List ByteArray} {A:List Int} {k:Nat} {out:List Int} (h:DecK V N A k out) (hk:k<A.length) (he:(symsOf V N (ix A k)).2=0):DecK V N A (k+1) (out++(symsOf V N (ix A k)).1):=by
 obtain⟨h1,h2⟩:=decTo_one V N (ix A k)
 have h3:(decTo V N [ix A k]).2=0:=by rw[h1];exact he
 have h4:=decTo_app (R:=[ix A k]) h.ok
 rw[if_pos h3,take_snoc hk]at h4
 exact⟨by rw[h4],by rw[h4,h.out,h2 he]⟩
theorem DecK.bad {V:Vc} {N:List ByteArray} {A:List Int} {k:Nat} {out:List Int} (h:DecK V N A k out) (hk:k<A.length) (he:(symsOf V N (ix A k)).2≠0):decTo V N A=([],(symsOf V N (ix A k)).2):=by
 have e1:A=A.take k++(ix A k::A.drop (k+1)):=by
  have e2:=List.take_append_drop k A
  rw[List.drop_eq_getElem_cons hk]at e2
  have e3:A[k]=ix A k:=by simp[ix,List.getD,hk]
  rw[e3]at e2
  exact e2.symm
 have h3:decTo V N (ix A k::A.drop (k+1))=([],(symsOf V N (ix A k)).2):=by rw[decTo_cons,if_neg he]
 have h4:=decTo_app (R:=ix A k::A.drop (k+1)) h.ok
 rw[h3]at h4
 simp only at h4
 rw[if_neg he,←e1]at h4
 exact h4
theorem DecK.all {V:Vc} {N:List ByteArray} {A:List Int} {k:Nat} {out:List Int} (h:DecK V N A k out) (hk:A.length=k):decTo V N A=(out,0):=by
 obtain⟨h1,h2⟩:=h
 rw[←hk,List.take_length]at h1 h2
 rw[←h1,←h2]
open Go.RowKit
theorem join_calls {base q rn rc:Nat} {A R:List Int} {v:Value} {ro:Option Addr} (w:World) (ho:Own w base v A) (hR:SlI w ro rn rc R) (hq:w.cell? ⟨q,0,none⟩=some (.slice ro rn rc)) (hlen:A.length+rn≤100000) (hb:base≤w.heap.size):
  Calls Tryz.prog 72 #[v, .slice (some ⟨q,0,none⟩) 1 1] w fun e w'=>∃v',e= .returned v'∧Own w' base v' (A++R)∧Below base w w':=by
 obtain⟨i0,hi,hz0,hz1,hz2⟩:=info_parts infoInt3
 have HO:=Lib.hid ho
 have HR:=Lib.hid hR
 have HLN:=Lib.hid hlen
 have HB:=Lib.hid hb
 clear ho hR hlen hb
 go_enter Tryz.func72,Tryz.ntmps72
 go_wp2_with (fail)
 refine wp_loop_rounds 2 ?_
 rw[rounds_succ]
 go_wp2_with (at_builtin;refine wpList_int_app rfl _ _ 43 rfl i0 Tryz.underlying43 hi hz0 hz1 hz2 rfl HO.out rfl HR.out (by have:=HLN.out;omega) HB.out ?_;intro v' w2 ho2 hg2 hb2;have HO2:=Lib.hid ho2;have HB2:=Lib.hid hb2;clear ho2 hg2 hb2)
 rw[rounds_succ]
 go_wp2_with (fail)
 go_ret
 exact⟨v',rfl,HO2.out,HB2.out⟩
theorem symsOf_le64 {V:Vc} {N:List ByteArray} (hT:∀s∈V.tokens,s.size≤64) (t:Int):(symsOf V N t).1.length≤64:=by
 unfold symsOf
 split
 ·next h=>
  obtain⟨a1,a2,_⟩:=isTk_iff.1 h
  rw[bytesI_len]
  exact hT _ (tk_mem (by omega))
 ·split
  ·simp
  ·split<;>simp
def DecPost (V:Vc) (N:List ByteArray) (A:List Int) (w:World) (e:Ending) (w':World):Prop:=
 (∃v,e= .returned (.tuple #[v, .int .i64 (decTo V N A).2])∧Own w' w.heap.size v (decTo V N A).1)∧Below w.heap.size w w'
theorem tdecode_calls {V:Vc} {N:List ByteArray} {kind:Int} {T:List Rg} {base g cb:Nat} {A:List Int} {ao:Option Addr} {n c:Nat} (w:World) (hC:TCod w base g V N kind T cb) (hT:∀s∈V.tokens,s.size≤64) (hN:MayNames N) (hA:SlI w ao n c A) (hn:n≤100):
  Calls Tryz.prog 34 #[.pointer (some ⟨g,0,none⟩), .slice ao n c] w (DecPost V N A w):=by
 have HC:=Lib.hid hC
 have HT:=Lib.hid hT
 have HN:=Lib.hid hN
 have HA:=Lib.hid hA
 have HAL:=Lib.hid hA.len
 clear hC hT hN hA
 go_enter Tryz.func34,Tryz.ntmps34
 go_wp2_with (fail)
 go_loopw [6,15] (fun o i wr=>∃(k:Nat) (O:List Int),k≤n∧i= .int .i64 k∧Hid (DecK V N A k O)∧Hid (O.length≤64*k)∧Hid (Own wr w.heap.size o O)∧Hid (Below w.heap.size w wr)) (fun _ i _=>n-(intOf i).toNat)
 case atStart=>exact⟨0,[],Nat.zero_le _,rfl,Lib.hid (DecK.zero V N A),Lib.hid (Nat.le_refl _),Lib.hid (Own.nil _ _),Lib.hid (Below.refl _ _)⟩
 case round=>
  obtain⟨k,O,hk,rfl,HK,HOL,HO,HB⟩:=hrel
  by_cases hlt:k<n
  ·obtain⟨b,o',hao,hc⟩:=(SlI.below HA.out HB.out).at_ hlt
   subst hao
   have hkA:k<A.length:=by have:=HAL.out;omega
   have HSY:=Lib.hid (symbols_calls (ix A k) wr (HC.out.below HB.out) HT.out HN.out)
   have HL64:=Lib.hid (symsOf_le64 (N:=N) HT.out (ix A k))
   by_cases he:(symsOf V N (ix A k)).2=0
   ·have HKN:=Lib.hid (HK.out.next hkA he)
    unfold SymPost at HSY
    rw[he]at HSY
    obtain⟨R,hR⟩:∃R,(symsOf V N (ix A k)).1=R:=⟨_,rfl⟩
    rw[hR]at HSY HKN HL64
    obtain⟨s,hs⟩:∃s,ix A k=s:=⟨_,rfl⟩
    rw[hs]at hc HSY
    clear he hR hs
    go_wp2_with (fail)
    go_at_call 23
    refine HSY.out.mono ?_
    rintro e w2 ⟨⟨vs,rfl,hos⟩,hb2⟩
    obtain⟨ro,rc,rfl,hsl⟩:=hos.sl
    have hb3:=below_alloc w2 (.cells #[.slice ro R.length rc] 43)
    have hq:(w2.alloc (.cells #[.slice ro R.length rc] 43)).cell? ⟨w2.heap.size,0,none⟩=some (.slice ro R.length rc):=by simp
    have HJ:=Lib.hid (join_calls _ ((HO.out.below hb2).below hb3) (SlI.below hsl hb3) hq (by have:=HOL.out;have:=HL64.out;omega) (Nat.le_trans HB.out.size (Nat.le_trans hb2.size hb3.size)))
    have HB3:Hid (Below w.heap.size w (w2.alloc (.cells #[.slice ro R.length rc] 43))):=Lib.hid ((HB.out.trans (hb2.mono HB.out.size)).trans (hb3.mono (Nat.le_trans HB.out.size hb2.size)))
    clear hos hb2 hsl hb3 hq
    go_wp2_with (fail)
    go_at_call 72
    refine HJ.out.mono ?_
    rintro e w4 ⟨v4,rfl,ho4,hb4⟩
    have HO4:=Lib.hid ho4
    have HB4:=Lib.hid (HB3.out.trans hb4)
    clear ho4 hb4
    go_wp2_with (fail)
    go_roundw
    case rel=>exact⟨k+1,_,by omega,by go_num,HKN,Lib.hid (by rw[List.length_append];have:=HOL.out;have:=HL64.out;omega),HO4,HB4⟩
    case measure=>simp[intOf];omega
   ·have HD:=Lib.hid (HK.out.bad hkA he)
    unfold SymPost at HSY
    obtain⟨er,her⟩:∃er,(symsOf V N (ix A k)).2=er:=⟨_,rfl⟩
    rw[her]at HSY HD he
    have hbe:(er==0)=false:=by simpa using he
    obtain⟨s,hs⟩:∃s,ix A k=s:=⟨_,rfl⟩
    rw[hs]at hc HSY
    clear her hs he
    go_wp2_with (fail)
    go_at_call 23
    refine HSY.out.mono ?_
    rintro e w2 ⟨⟨vs,rfl,hos⟩,hb2⟩
    have HB2:=Lib.hid (HB.out.trans (hb2.mono HB.out.size))
    clear hos hb2
    go_wp2_with (fail)
    refine bodyPost_ret (v:= .tuple #[.slice none 0 0, .int .i64 er]) ?_ rfl ⟨⟨_,by rw[HD.out],by rw[HD.out];exact Own.nil _ _⟩,HB2.out⟩
    simp[results,Tryz.results34,go_sem]
  ·obtain rfl:k=n:=by omega
   have HD:=Lib.hid (HK.out.all HAL.out)
   go_wp2_with (fail)
   refine bodyPost_ret (v:= .tuple #[u6, .int .i64 0]) ?_ rfl ⟨⟨_,by rw[HD.out],by rw[HD.out];exact HO.out⟩,HB.out⟩
   simp[results,Tryz.results34,go_sem]
theorem own_zero16 (w:World):Own (w.alloc (.cells #[] 3)) w.heap.size (.slice (some ⟨w.heap.size,0,none⟩) 0 0) []:=World.ownsRow_made w #[] 0 (Nat.le_refl _) (by unfold maxLen;omega) (by simp)
theorem rdecode_calls {V:Vc} {N:List ByteArray} {dd:Vd} {no to_:Option Addr} {nn nc tn' tc':Nat} {kind:Int} {A:List Int} {ao:Option Addr} {n c:Nat} (w:World) (hC:CR w dd no nn nc V N) (hA:SlI w ao n c A) (hn:n≤100):
  Calls Tryz.prog 38 #[cVal dd no nn nc kind to_ tn' tc', .slice ao n c] w (DecPost V N A w):=by
 obtain⟨ta,tn,tc,ma,mn,mc,sa,sn,sc⟩:=dd
 obtain⟨i0,hi,hz0,hz1,hz2⟩:=info_parts infoInt3
 obtain⟨w0,hw0⟩:∃w0,w.alloc (.cells #[.slice ta tn tc, .slice ma mn mc, .slice sa sn sc, .slice no nn nc, .int .i64 kind, .slice to_ tn' tc'] 37)=w0:=⟨_,rfl⟩
 obtain⟨w1,hw1⟩:∃w1,w0.alloc (.cells #[] 3)=w1:=⟨_,rfl⟩
 have hb0:Below w.heap.size w w0:=hw0▸below_alloc w _
 have hb1:Below w0.heap.size w0 w1:=hw1▸below_alloc w0 _
 have hx0:w0.heap[w.heap.size]?=some (.cells #[.slice ta tn tc, .slice ma mn mc, .slice sa sn sc, .slice no nn nc, .int .i64 kind, .slice to_ tn' tc'] 37):=by rw[←hw0];exact heap_alloc_new w _
 have hz:w.heap.size<w0.heap.size:=by rw[←hw0];simp
 have ho1:Own w1 (w.heap.size+1) (.slice (some ⟨w0.heap.size,0,none⟩) 0 0) []:=hw1▸(own_zero16 w0).mono hz
 have hsym:=fun(t:Int) (w:World)=>rsym_c (V:=V) (N:=N) (kind:=kind) (to_:=to_) (tn':=tn') (tc':=tc') (dd:=⟨ta,tn,tc,ma,mn,mc,sa,sn,sc⟩) (no:=no) (nn:=nn) (nc:=nc) t w
 unfold cVal at *
 simp only at hsym ⊢
 have HSY:=Lib.hid hsym
 have HC:=Lib.hid hC
 have HA:=Lib.hid hA
 have HAL:=Lib.hid hA.len
 have HB1:Hid (Below w.heap.size w w1):=Lib.hid (hb0.trans (hb1.mono hb0.size))
 have HX1:Hid (w1.heap[w.heap.size]?=some (.cells #[.slice ta tn tc, .slice ma mn mc, .slice sa sn sc, .slice no nn nc, .int .i64 kind, .slice to_ tn' tc'] 37)):=Lib.hid ((hb1.block _ hz).trans hx0)
 have HZ1:Hid (w.heap.size<w1.heap.size):=Lib.hid (Nat.lt_of_lt_of_le hz hb1.size)
 have HO1:=Lib.hid ho1
 have HS0:Hid (w0.heap.size=w.heap.size+1):=Lib.hid (by rw[←hw0];simp)
 have HW0:=Lib.hid hw0
 have HW1:=Lib.hid hw1
 have HT64:=Lib.hid hC.t64
 clear hC hA hsym hb0 hb1 hx0 hz ho1 hw0 hw1
 go_enter Tryz.func38,Tryz.ntmps38
 go_wp2_with (fail)
 rw[HW0.out,←HS0.out,HW1.out]
 go_loopw [6,13] (fun o i wr=>∃(k:Nat) (O:List Int),k≤n∧i= .int .i64 k∧Hid (DecK V N A k O)∧Hid (O.length≤64*k)∧Hid (Own wr (w.heap.size+1) o O)∧Hid (Below (w.heap.size+1) w1 wr)∧Hid (Below w.heap.size w wr)) (fun _ i _=>n-(intOf i).toNat)
 case atStart=>exact⟨0,[],Nat.zero_le _,rfl,Lib.hid (DecK.zero V N A),Lib.hid (Nat.le_refl _),HO1,Lib.hid (Below.refl _ _),HB1⟩
 case round=>
  obtain⟨k,O,hk,rfl,HK,HOL,HO,HB,HBW⟩:=hrel
  by_cases hlt:k<n
  ·obtain⟨b,o',hao,hc⟩:=(SlI.below HA.out HBW.out).at_ hlt
   subst hao
   have hkA:k<A.length:=by have:=HAL.out;omega
   obtain⟨b0,b1,b2,b3,b4,b5,bf⟩:=box6 ((HB.out.block _ (Nat.lt_succ_self _)).trans HX1.out)
   have HL64:=Lib.hid (symsOf_le64 (N:=N) HT64.out (ix A k))
   have HSQ:Hid (∀W,Ge wr W→Calls Tryz.prog 39 #[.agg #[.slice ta tn tc, .slice ma mn mc, .slice sa sn sc, .slice no nn nc, .int .i64 kind, .slice to_ tn' tc'], .int .i64 (ix A k)] W fun e w'=>(∃ro rc,e= .returned (.tuple #[.slice ro (symsOf V N (ix A k)).1.length rc, .int .i64 (symsOf V N (ix A k)).2])∧SlI w' ro (symsOf V N (ix A k)).1.length rc (symsOf V N (ix A k)).1)∧Below wr.heap.size wr w'):=Lib.hid (fun W hW=>(HSY.out (ix A k) W ((HC.out.below HBW.out).below hW)).mono (by
    rintro e w' ⟨⟨v,rfl,ho⟩,hb⟩
    obtain⟨ro,rc,rfl,hs⟩:=ho.sl
    exact⟨⟨ro,rc,rfl,hs⟩,hW.below hb⟩))
   by_cases he:(symsOf V N (ix A k)).2=0
   ·have HKN:=Lib.hid (HK.out.next hkA he)
    rw[he]at HSQ
    obtain⟨R,hR⟩:∃R,(symsOf V N (ix A k)).1=R:=⟨_,rfl⟩
    rw[hR]at HSQ HKN HL64
    obtain⟨s,hs⟩:∃s,ix A k=s:=⟨_,rfl⟩
    rw[hs]at hc HSQ
    clear he hR hs
    go_wp2_with (fail)
    go_region_with (go_at_call 39;refine(HSQ.out _ (by exact below_drewN (Below.refl _ _) _)).mono ?_;rintro e w9 ⟨⟨ro,rc,rfl,hs9⟩,hb9⟩;have HS9:=Lib.hid hs9;have HB9:=Lib.hid hb9;clear hs9 hb9)
    all_goals(
     go_wp2_with (at_builtin;refine wpList_int_app rfl _ _ 43 rfl i0 Tryz.underlying43 hi hz0 hz1 hz2 rfl (HO.out.below HB9.out) rfl HS9.out (by have:=HOL.out;have:=HL64.out;omega) (Nat.le_trans (Nat.le_trans HZ1.out HB.out.size) HB9.out.size) ?_;intro v4 w4 ho4 hg4 hb4;have HO4:=Lib.hid ho4;have HW4:Hid (Below (w.heap.size+1) w1 w4):=Lib.hid (Below.grown (HB.out.trans (HB9.out.mono (Nat.le_trans HZ1.out HB.out.size))) hg4 (Nat.le_trans (Nat.le_trans HZ1.out HB.out.size) HB9.out.size) (fun q hq=>(World.ownsRow.lt HO.out q hq).1));have HB4:Hid (Below w.heap.size w w4):=Lib.hid ((HBW.out.trans (HB9.out.mono HBW.out.size)).trans (hb4.mono (Nat.le_succ _)));clear ho4 hg4 hb4)
     go_roundw
     case rel=>exact⟨k+1,_,by omega,by go_num,HKN,Lib.hid (by rw[List.length_append];have:=HOL.out;have:=HL64.out;omega),HO4,HW4,HB4⟩
     case measure=>simp[intOf];omega)
   ·have HD:=Lib.hid (HK.out.bad hkA he)
    obtain⟨er,her⟩:∃er,(symsOf V N (ix A k)).2=er:=⟨_,rfl⟩
    rw[her]at HSQ HD he
    have hbe:(er==0)=false:=by simpa using he
    obtain⟨s,hs⟩:∃s,ix A k=s:=⟨_,rfl⟩
    rw[hs]at hc HSQ
    clear her hs he
    go_wp2_with (fail)
    go_region_with (go_at_call 39;refine(HSQ.out _ (by exact below_drewN (Below.refl _ _) _)).mono ?_;rintro e w9 ⟨⟨ro,rc,rfl,hs9⟩,hb9⟩;have HB9:=Lib.hid hb9;clear hs9 hb9)
    all_goals(
     have HE9:Hid (Below w.heap.size w (w9.alloc (.cells #[] 3))):=Lib.hid ((HBW.out.trans (HB9.out.mono HBW.out.size)).alloc (Nat.le_trans HBW.out.size HB9.out.size) _)
     go_wp2_with (fail)
     refine bodyPost_ret (v:= .tuple #[.slice (some ⟨w9.heap.size,0,none⟩) 0 0, .int .i64 er]) ?_ rfl ⟨⟨_,by rw[HD.out],by rw[HD.out];exact(own_zero16 w9).mono (Nat.le_trans HBW.out.size HB9.out.size)⟩,HE9.out⟩
     simp[results,Tryz.results38,go_sem])
  ·obtain rfl:k=n:=by omega
   have HD:=Lib.hid (HK.out.all HAL.out)
   go_wp2_with (fail)
   refine bodyPost_ret (v:= .tuple #[u6, .int .i64 0]) ?_ rfl ⟨⟨_,by rw[HD.out],by rw[HD.out];exact HO.out.mono (Nat.le_succ _)⟩,HBW.out⟩
   simp[results,Tryz.results38,go_sem]
theorem textDecodes_walk {V:Vc} {dd:Vd} {N:List ByteArray} {kind:Int} {T:List Rg} {room:Int} {no to_ so:Option Addr} {nn nc tn tc sl sc:Nat} {S:List Int} (one_:Int) (w:World) (hV:VocR w dd V) (hok:(∀s∈V.tokens,s.size≤maxLen)∧Sized V.specials) (hN:SlS w no nn nc N) (hNs:∀s∈N,s.size≤maxLen)
  (hT:SlF 3 w to_ tn tc (flat Rg.enc T)) (hS:SlI w so sl sc S) (hU:Usu w):
  Frame.Law Tryz.prog 8 #[.agg #[.slice dd.ta dd.tn dd.tc, .slice dd.ma dd.mn dd.mc, .slice dd.sa dd.sn dd.sc, .slice no nn nc, .int .i64 kind, .slice to_ tn tc, .int .i64 room], .slice so sl sc, .int .i64 one_] w:=by
 unfold Frame.Law
 obtain⟨ta,tn',tc',ma,mn,mc,sa,sn,sc'⟩:=dd
 obtain⟨w0,hw0⟩:∃w0,w.alloc (.cells #[.slice ta tn' tc', .slice ma mn mc, .slice sa sn sc', .slice no nn nc, .int .i64 kind, .slice to_ tn tc, .int .i64 room] 29)=w0:=⟨_,rfl⟩
 have hb0:Below w.heap.size w w0:=hw0▸below_alloc w _
 have hx0:w0.heap[w.heap.size]?=some (.cells #[.slice ta tn' tc', .slice ma mn mc, .slice sa sn sc', .slice no nn nc, .int .i64 kind, .slice to_ tn tc, .int .i64 room] 29):=by rw[←hw0];exact heap_alloc_new w _
 have hmade:=made_calls (dd:=⟨ta,tn',tc',ma,mn,mc,sa,sn,sc'⟩) (kind:=kind) (room:=room) w0 (hV.below hb0) hok (Sl.below hN hb0) hNs (hT.below hb0) (hU.below hb0)
 have HS:=Lib.hid hS
 have hmx:=Sl.max hS
 have hlx:=Sl.le hS
 unfold maxLen at hmx
 have HU:=Lib.hid hU
 have HB0:=Lib.hid hb0
 have HW0:=Lib.hid hw0
 obtain⟨c0,c1,c2,c3,c4,c5,c6⟩:=box7 hx0
 rw[←HW0.out]at c0 c1 c2 c3 c4 c5 c6
 clear hV hok hN hNs hT hU hb0 hw0 hx0 hS
 go_enter Tryz.func8,Tryz.ntmps8
 go_wp2_with (fail)
 rw[HW0.out]
 clear c0 c1 c2 c3 c4 c5 c6
 refine hmade.mono ?_
 rintro e w1 ⟨hpost,hb1⟩
 have HB1:Hid (Below w.heap.size w w1):=Lib.hid (HB0.out.trans (hb1.mono HB0.out.size))
 clear hb1 hmade
 rcases hpost with rfl | ⟨hM,hOK,hG,g,cb,dd2,no2,nn2,nc2,to2,tn2,tc2,rfl,hTC,hCR⟩
 ·unfold noC
  have hb2:=HB1.out.alloc HB1.out.size (.cells #[.slice none 0 0, .slice none 0 0, .slice none 0 0, .slice none 0 0, .int .i64 0, .slice none 0 0] 37)
  have HB2:=Lib.hid hb2
  clear hb2
  go_wp2_with (fail)
  refine(fixed16_calls _ (HU.out.below HB2.out)).mono ?_
  rintro e w3 ⟨rfl,hb3⟩
  have HB3:=Lib.hid (HB2.out.trans (hb3.mono HB2.out.size))
  clear hb3
  go_wp2_with (fail)
  go_ret
  exact⟨rfl,HB3.out⟩
 obtain⟨ta2,tn2',tc2',ma2,mn2,mc2,sa2,sn2,sc2⟩:=dd2
 obtain⟨w2,hw2⟩:∃w2,w1.alloc (.cells #[.slice ta2 tn2' tc2', .slice ma2 mn2 mc2, .slice sa2 sn2 sc2, .slice no2 nn2 nc2, .int .i64 kind, .slice to2 tn2 tc2] 37)=w2:=⟨_,rfl⟩
 have hb2:Below w1.heap.size w1 w2:=hw2▸below_alloc w1 _
 have hx2:w2.heap[w1.heap.size]?=some (.cells #[.slice ta2 tn2' tc2', .slice ma2 mn2 mc2, .slice sa2 sn2 sc2, .slice no2 nn2 nc2, .int .i64 kind, .slice to2 tn2 tc2] 37):=by rw[←hw2];exact heap_alloc_new w1 _
 have hz2:w1.heap.size<w2.heap.size:=by rw[←hw2];simp
 have HB2:Hid (Below w.heap.size w w2):=Lib.hid (HB1.out.trans (hb2.mono HB1.out.size))
 have HTC:Hid (TCod w2 w0.heap.size g V N kind (tabOf T) cb):=Lib.hid (hTC w2 hb2)
 have HCR:=Lib.hid (hCR.below hb2)
 have HM:=Lib.hid hM
 have HOK:=Lib.hid hOK
 have HX2:=Lib.hid hx2
 have HZ2:=Lib.hid hz2
 have HW2:=Lib.hid hw2
 clear hb2 hx2 hz2 hw2 hTC hCR hM hOK hG
 unfold cVal
 by_cases hl:100<sl
 ·have hl1:(100:Int)<(sl:Int):=by omega
  go_wp2_with (fail)
  rw[HW2.out]
  refine(fixed16_calls _ (HU.out.below HB2.out)).mono ?_
  rintro e w3 ⟨rfl,hb3⟩
  have HB3:=Lib.hid (HB2.out.trans (hb3.mono HB2.out.size))
  clear hb3
  go_wp2_with (fail)
  go_ret
  exact⟨rfl,HB3.out⟩
 ·have hl1:¬(100:Int)<(sl:Int):=by omega
  have hl2:decide ((100:Int)<(sl:Int))=false:=by simpa using hl1
  have HD:=Lib.hid (tdecode_calls w2 HTC.out HM.out.1.2.1 HOK.out.1 (SlI.below HS.out HB2.out) (by omega))
  unfold DecPost at HD
  obtain⟨D,hD⟩:∃D,decTo V N S=D:=⟨_,rfl⟩
  rw[hD]at HD
  obtain⟨O,er⟩:=D
  have HDD:=Lib.hid hD
  clear hD
  simp only at HD
  go_wp2_with (fail)
  rw[HW2.out]
  go_at_call 34
  refine HD.out.mono ?_
  rintro e w3 ⟨⟨v3,rfl,ho3⟩,hb3⟩
  obtain⟨a3,k3,rfl,hs3⟩:=ho3.sl
  have HB3:=Lib.hid hb3
  have HS3:=Lib.hid hs3
  obtain⟨c0,c1,c2,c3,c4,c5,cf⟩:=box6 ((hb3.block _ HZ2.out).trans HX2.out)
  have HR:=Lib.hid (rdecode_calls (dd:=⟨ta2,tn2',tc2',ma2,mn2,mc2,sa2,sn2,sc2⟩) (kind:=kind) (to_:=to2) (tn':=tn2) (tc':=tc2) w3 (HCR.out.below hb3) (SlI.below (SlI.below HS.out HB2.out) hb3) (by omega))
  unfold DecPost cVal at HR
  rw[HDD.out]at HR
  simp only at HR
  clear ho3 hb3 hs3
  go_wp2_with (fail)
  go_at_call 38
  refine HR.out.mono ?_
  rintro e w4 ⟨⟨v4,rfl,ho4⟩,hb4⟩
  obtain⟨a4,k4,rfl,hs4⟩:=ho4.sl
  have HB4:Hid (Below w2.heap.size w2 w4):=Lib.hid (HB3.out.trans (hb4.mono HB3.out.size))
  have HS34:=Lib.hid (SlI.below HS3.out hb4)
  have HS4:=Lib.hid hs4
  clear ho4 hb4 hs4 c0 c1 c2 c3 c4 c5 cf
  obtain⟨c0,c1,c2,c3,c4,c5,cf⟩:=box6 ((HB4.out.block _ HZ2.out).trans HX2.out)
  have HY:=Lib.hid (symbols_calls one_ w4 (HTC.out.below HB4.out) HM.out.1.2.1 HOK.out.1)
  unfold SymPost at HY
  obtain⟨Q,hQ⟩:∃Q,symsOf V N one_=Q:=⟨_,rfl⟩
  rw[hQ]at HY
  obtain⟨P,ep⟩:=Q
  have HQ:=Lib.hid hQ
  clear hQ
  simp only at HY
  go_wp2_with (fail)
  go_at_call 23
  refine HY.out.mono ?_
  rintro e w5 ⟨⟨v5,rfl,ho5⟩,hb5⟩
  obtain⟨a5,k5,rfl,hs5⟩:=ho5.sl
  have HB5:Hid (Below w2.heap.size w2 w5):=Lib.hid (HB4.out.trans (hb5.mono HB4.out.size))
  have HS35:=Lib.hid (SlI.below HS34.out hb5)
  have HS45:=Lib.hid (SlI.below HS4.out hb5)
  have HS5:=Lib.hid hs5
  clear ho5 hb5 hs5 c0 c1 c2 c3 c4 c5 cf
  obtain⟨c0,c1,c2,c3,c4,c5,cf⟩:=box6 ((HB5.out.block _ HZ2.out).trans HX2.out)
  have HZ:=Lib.hid (rsym_c (dd:=⟨ta2,tn2',tc2',ma2,mn2,mc2,sa2,sn2,sc2⟩) (kind:=kind) (to_:=to2) (tn':=tn2) (tc':=tc2) one_ w5 (HCR.out.below HB5.out))
  unfold SymPost cVal at HZ
  rw[HQ.out]at HZ
  simp only at HZ
  go_wp2_with (fail)
  go_at_call 39
  refine HZ.out.mono ?_
  rintro e w6 ⟨⟨v6,rfl,ho6⟩,hb6⟩
  obtain⟨a6,k6,rfl,hs6⟩:=ho6.sl
  have HB6:Hid (Below w.heap.size w w6):=Lib.hid (HB2.out.trans ((HB5.out.trans (hb6.mono HB5.out.size)).mono HB2.out.size))
  have HS36:=Lib.hid (SlI.below HS35.out hb6)
  have HS46:=Lib.hid (SlI.below HS45.out hb6)
  have HS56:=Lib.hid (SlI.below HS5.out hb6)
  have HS6:=Lib.hid hs6
  clear ho6 hb6 hs6 c0 c1 c2 c3 c4 c5 cf
  go_wp2_with (fail)
  refine(fixed16_calls w6 (HU.out.below HB6.out)).mono ?_
  rintro e w7 ⟨rfl,hb7⟩
  have HS37:=Lib.hid (SlI.below HS36.out hb7)
  have HS47:=Lib.hid (SlI.below HS46.out hb7)
  have HS57:=Lib.hid (SlI.below HS56.out hb7)
  have HS67:=Lib.hid (SlI.below HS6.out hb7)
  have HB7:=Lib.hid (HB6.out.trans (hb7.mono HB6.out.size))
  clear hb7
  go_wp2_with (fail)
  refine(same10 w7 HS37.out HS47.out).mono ?_
  rintro e w8 ⟨q8,rfl,rfl⟩
  rw[eqB_true rfl]
  go_wp2_with (fail)
  refine(same10 (w7.drewN q8) (HS57.out.drewN q8) (HS67.out.drewN q8)).mono ?_
  rintro e w9 ⟨q9,rfl,rfl⟩
  rw[eqB_true rfl]
  go_wp2_with (fail)
  go_ret
  exact⟨rfl,below_drewN HB7.out (q8+q9)⟩
end Go.Proofs.YtimkkkdabmhedaaGreatDoor
