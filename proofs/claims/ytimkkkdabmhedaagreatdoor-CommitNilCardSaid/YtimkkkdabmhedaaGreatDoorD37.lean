/- Plain: the vocabulary of the law's own example: the bytes and one special. No program here. -/
import Derived.Test.YtimkkkdabmhedaaGreatDoorD36
import Derived.Test.YtimkkkdabmhedaaGreatDoorD28
import Derived.Test.YtimkkkdabmhedaaGreatDoorD19
import Derived.Test.YtimkkkdabmhedaaGreatDoorD13
set_option linter.unusedVariables false
set_option maxHeartbeats 2000000
set_option maxRecDepth 100000
namespace Go.Proofs.YtimkkkdabmhedaaGreatDoor
open Go
def endS:ByteArray:=⟨#[101,110,100]⟩
def R2:List Rw:=rowsN 256
def S2:List Sp:=[⟨endS,256⟩]
theorem R2_eq:lettersR []=R2:=by
 unfold lettersR R2
 simp[moreN]
theorem S2_eq:lettersS [] [endS]=S2:=rfl
def T2:List ByteArray:=(List.range 256).map one++ [ByteArray.empty]
theorem T2_len:T2.length=257:=by simp[T2]
theorem T2_low {i:Nat} (h:i<256):tk T2 i=one i:=by
 unfold tk T2
 rw[List.getD_eq_getElem?_getD,List.getElem?_append_left (by simpa using h)]
 simp[h]
theorem T2_top:tk T2 256=ByteArray.empty:=by
 unfold tk T2
 rw[List.getD_eq_getElem?_getD,List.getElem?_append_right (by simp)]
 simp
theorem top_R2:top R2 S2=257:=by decide +kernel
theorem toks_R2:toksOf R2 S2=T2:=by
 unfold toksOf
 rw[top_R2]
 refine List.ext_getElem? fun i=> ?_
 by_cases h:i<257
 ·rw[tk_eq (T:=T2) (by rw[T2_len];exact h)]
  simp only[List.getElem?_map,List.getElem?_range (show i<(257:Int).toNat from h),Option.map_some]
  congr 1
  unfold R2
  rw[rowsN_tok]
  by_cases e:i=256
  ·subst e;rw[T2_top,if_neg (by omega)]
  ·rw[T2_low (by omega),if_pos (by omega)]
 ·rw[List.getElem?_eq_none (by simp;omega),List.getElem?_eq_none (by rw[T2_len];omega)]
theorem merges_T2:mergesOf T2= []:=mgs_inj (by decide +kernel)
def V2:Vc:=⟨T2,[],S2⟩
theorem uniq_T2:Uniq T2:=fun i j h1 h2 e=>by
 rw[T2_len]at h2
 by_cases hj:j=256
 ·subst hj
  rw[T2_top]at e
  rw[e];rfl
 ·rw[T2_low (by omega),T2_low (by omega)]at e
  exfalso
  have h3:tk T0 i=tk T0 j:=by rw[T0_low (by omega),T0_low (by omega)];exact e
  have:=uniq_T0 i j h1 (by rw[T0_len];omega) h3
  rw[T0_low (by omega)]at this
  exact absurd this (by show¬1=0;omega)
theorem mayTok_T2:MayTok T2:=⟨by rw[T2_len];omega,fun s hs=>by
 unfold T2 at hs
 rcases List.mem_append.1 hs with h | h
 ·obtain⟨b,_,rfl⟩:=List.mem_map.1 h;exact show 1≤64 by omega
 ·obtain rfl:=List.mem_singleton.1 h
  exact show 0≤64 by omega,uniq_T2,fun b hb=>List.mem_append.2 (.inl (List.mem_map.2 ⟨b,List.mem_range.2 hb,rfl⟩))⟩
theorem mayName_end:MayName endS:=by unfold MayName;decide +kernel
theorem may_V2:May V2:=by
 refine⟨mayTok_T2,⟨by simp[V2],by simp[V2],by simp[V2]⟩,fun i hi h=> ?_,⟨by simp[V2,S2],fun s hs=> ?_,by simp[V2,S2]⟩⟩
 ·simp only[V2]at hi h ⊢
  rw[T2_len]at hi
  by_cases e:i=256
  ·subst e;rw[T2_top]at h;exact absurd h (by show¬1<0;omega)
  ·rw[T2_low (by omega)]at h
   exact absurd h (by show¬1<1;omega)
 ·obtain rfl:=List.mem_singleton.1 hs
  refine⟨mayName_end,by simp,?_,?_⟩
  ·show(256:Int)<(T2.length:Int);rw[T2_len];omega
  ·show(tk T2 256).size=0;rw[T2_top];rfl
theorem voc_R2:vocOf R2 S2=V2:=by
 unfold vocOf
 rw[toks_R2,merges_T2]
 have h1:sortMg []= []:=by unfold sortMg;simp
 have h2:sortSp S2=S2:=by unfold sortSp S2;simp
 rw[h1,h2];rfl
theorem ok_R2:OkRows R2 S2:=by
 refine⟨fun s hs=>by obtain rfl:=List.mem_singleton.1 hs;simp,fun r hr=> ?_,?_⟩
 ·obtain⟨b,hb,rfl⟩:=rowsN_mem hr;simp only;omega
 ·have h:=ok_R0.2.2
  unfold R0 at h
  exact(List.pairwise_append.1 h).1
theorem good_R2:GoodVoc R2 S2:=⟨ok_R2,by rw[voc_R2];exact may_V2⟩
theorem mayNames_end:MayNames [endS]:=⟨by simp,fun s hs=>by obtain rfl:=List.mem_singleton.1 hs;exact mayName_end,by simp⟩
theorem okKit_2:OkKit [endS] 2 [] 4:=⟨mayNames_end,by omega,by omega,⟨by simp,by simp,by simp⟩,by omega,by omega⟩
theorem mark_2:markAt V2 [endS] 256=256:=by decide +kernel
theorem tok_2:ofT V2.tokens (one (97:Int).toNat)=97:=by
 have h1:(97:Int).toNat=97:=rfl
 have:=uniq_T2.of (i:=97) (by rw[T2_len];omega) (by rw[T2_low (by omega)];show 1≠0;omega)
 rw[T2_low (by omega)]at this
 rw[h1];exact this
theorem check_2:checkF V2 [endS] [97,256]=0:=by
 have h1:faultF V2 [endS] 97=0:=by unfold faultF;simp
 have h2:faultF V2 [endS] 256=0:=by
  unfold faultF
  rw[mark_2];simp
 simp[checkF,h1,h2]
open Go.RowKit
theorem split_2:∃d1 d2,splitF 2 usR [97,256] true= [(1,d1),(1,d2)]:=⟨true,true,by decide +kernel⟩
theorem mayTab_us:MayTab usR:=by unfold MayTab OkRg;decide +kernel
theorem Sl.lit6 (w:World) (vs:List Value) (cs:Array Value) (hcs:cs=vs.toArray) (g n:Nat) (hg:g=w.heap.size) (hn:n=vs.length) (hm:n≤100) (t:TypeId):
  Sl (w.alloc (.cells cs t)) (some ⟨g,0, .none⟩) n n vs:=by
 subst hg hn hcs
 refine⟨rfl,Nat.le_refl _,by unfold maxLen;omega,fun h=>(by cases h),fun i u hu=>⟨_,_,rfl,?_⟩⟩
 simp[hu]
theorem end_small:∀s∈[endS],s.size≤maxLen:=fun s hs=>by
 obtain rfl:=List.mem_singleton.1 hs
 exact show 3≤maxLen by unfold maxLen;omega
theorem text_2:textF V2 [endS] 2 usR [97,256]= [97,256]:=by
 obtain⟨d1,d2,hsp⟩:=split_2
 have hc:checkF V2 [endS] [97]=0:=checkF_all.2 (fun s hs=>checkF_all.1 check_2 s (by simp at hs;simp[hs]))
 have hm:checkF V2 [endS] [256]=0:=checkF_all.2 (fun s hs=>checkF_all.1 check_2 s (by simp at hs;simp[hs]))
 have h1:pieceF V2 [endS] [97]= [97]:=by rw[pieceF_bytes hc (by simp) (fun y hy=>by simp at hy;subst hy;omega),encF_one,tok_2]
 have h2:pieceF V2 [endS] [256]= [256]:=by rw[pieceF_mark hm (by omega),mark_2]
 unfold textF
 rw[hsp]
 have e1:([97,256]:List Int).take (1:Int).toNat= [97]:=rfl
 have e2:([97,256]:List Int).drop (1:Int).toNat= [256]:=rfl
 have e3:([256]:List Int).take (1:Int).toNat= [256]:=rfl
 simp only[piecesT,e1,e2,e3,h1,h2,List.append_nil,List.singleton_append]
theorem fixed16_calls (w:World) (hU:Usu w):Calls Tryz.prog 13 #[] w fun e w'=>e= .returned (.bool true)∧Below w.heap.size w w':=by
 obtain⟨w1,hw1⟩:∃w1,w.alloc (.cells #[.string ⟨#[101,110,100]⟩] 9)=w1:=⟨_,rfl⟩
 have hb1:Below w.heap.size w w1:=hw1▸below_alloc w _
 have HS1:Hid (SlS w1 (some ⟨w.heap.size,0,none⟩) 1 1 [endS]):=Lib.hid (by rw[←hw1];exact Sl.lit6 w _ _ rfl _ _ rfl rfl (by simp) _)
 have HU1:=Lib.hid (hU.below hb1)
 have HB1:=Lib.hid hb1
 have HW1:=Lib.hid hw1
 clear hw1 hb1 hU
 go_enter Tryz.func13,Tryz.ntmps13
 go_wp2_with (fail)
 rw[HW1.out]
 refine(letters_calls (M:=[]) (N:=[endS]) w1 Sl.none HS1.out (by simp) end_small (by omega) (by omega)).mono ?_
 rintro e w2 ⟨hpost,hb2⟩
 rw[R2_eq,S2_eq,voc_R2]at hpost
 rcases hpost with⟨_,⟨ta,tn,tc,ma,mn,mc,sa,sn,sc⟩,rfl,hv⟩ | ⟨hn,_⟩
 rotate_left
 ·exact absurd good_R2 hn
 obtain⟨w3,hw3⟩:∃w3,w2.alloc (.cells #[.slice ta tn tc, .slice ma mn mc, .slice sa sn sc] 26)=w3:=⟨_,rfl⟩
 have hb3:Below w2.heap.size w2 w3:=hw3▸below_alloc w2 _
 obtain⟨w4,hw4⟩:∃w4,w3.alloc (.cells #[.string ⟨#[101,110,100]⟩] 9)=w4:=⟨_,rfl⟩
 have hb4:Below w3.heap.size w3 w4:=hw4▸below_alloc w3 _
 have HS4:Hid (SlS w4 (some ⟨w3.heap.size,0,none⟩) 1 1 [endS]):=Lib.hid (by rw[←hw4];exact Sl.lit6 w3 _ _ rfl _ _ rfl rfl (by simp) _)
 have HB4:Hid (Below w.heap.size w w4):=Lib.hid (HB1.out.trans ((hb2.trans ((hb3.mono hb2.size).trans (hb4.mono (Nat.le_trans hb2.size hb3.size)))).mono HB1.out.size))
 have HV4:=Lib.hid ((hv.below hb3).below hb4)
 have HU4:=Lib.hid (((HU1.out.below hb2).below hb3).below hb4)
 have hx3:w3.heap[w2.heap.size]?=some (.cells #[.slice ta tn tc, .slice ma mn mc, .slice sa sn sc] 26):=by rw[←hw3];exact heap_alloc_new w2 _
 have HZ3:Hid (w3.heap.size=w2.heap.size+1):=Lib.hid (by rw[←hw3];simp)
 have HW3:=Lib.hid hw3
 have HW4:=Lib.hid hw4
 clear hw3 hw4 hb2 hb3 hb4 hv hx3
 simp only[Vd.val]
 go_wp2_with (fail)
 rw[HW3.out,←HZ3.out,HW4.out]
 refine(textNew_calls (dd:=⟨ta,tn,tc,ma,mn,mc,sa,sn,sc⟩) (kind:=2) (N:=[endS]) (T:=[]) (room:=4) w4 HV4.out ⟨fun s hs=>Nat.le_trans (may_V2.1.2.1 s hs) (by unfold maxLen;omega),fun s hs=>(by obtain rfl:=List.mem_singleton.1 hs;exact show 3≤maxLen by unfold maxLen;omega),(show 1≤1048576 by omega)⟩ HS4.out end_small (by omega) (SlF.nothing _) (by omega) HU4.out).mono ?_
 rintro e w5 ⟨hpost,hb5⟩
 rcases hpost with⟨h,_⟩ | ⟨_,h,_⟩ | ⟨_,_,g,cb,mb,rfl,hcod⟩
 ·exact absurd may_V2 h
 ·exact absurd okKit_2 h
 have HB5:=Lib.hid (HB4.out.trans (hb5.mono HB4.out.size))
 have hT5:=Cdr.new hcod (by omega)
 obtain⟨w6,hw6⟩:∃w6,w5.alloc (.cells #[.int .i64 97, .int .i64 256] 3)=w6:=⟨_,rfl⟩
 have hb6:Below w5.heap.size w5 w6:=hw6▸below_alloc w5 _
 have hx6:w6.heap[w5.heap.size]?=some (.cells #[.int .i64 97, .int .i64 256] 3):=by rw[←hw6];exact heap_alloc_new w5 _
 have HT6:=Lib.hid (hT5.below hb6)
 have HSZ6:Hid (w5.heap.size<w6.heap.size):=Lib.hid (by rw[←hw6];simp)
 have HX6:=Lib.hid hx6
 have HB6:=Lib.hid (HB5.out.trans (hb6.mono HB5.out.size))
 have HW6:=Lib.hid hw6
 have HB46:Hid (w4.heap.size≤w6.heap.size):=Lib.hid (Nat.le_trans hb5.size hb6.size)
 clear hb5 hcod hT5 hw6 hb6 hx6
 go_wp2_with (fail)
 rw[HW6.out]
 go_at_call 17
 refine(tencode_calls w6 HT6.out may_V2 (by simp) mayTab_us (by omega) (by omega) (by omega) (two_sl HX6.out) (fun ad e _=>by obtain rfl:(⟨w5.heap.size,0,none⟩:Addr)=ad:=Option.some.inj e;exact⟨HSZ6.out,fun h=>absurd h.2 (Nat.lt_irrefl _)⟩) (by omega) (by omega) check_2).mono ?_
 rintro e w7 ⟨v,P7,rfl,ho,-,-,-,hk7⟩
 have hb7:Below w4.heap.size w6 w7:=hk7.below HB46.out (fun q hq=>hq.1)
 rw[show tabOf ([]:List Rg)=usR from rfl,text_2]at ho
 obtain⟨ao,cap,rfl,hs⟩:=ho.sl
 have HB7:Hid (Below w.heap.size w w7):=Lib.hid (HB6.out.trans (hb7.mono HB4.out.size))
 obtain⟨w8,hw8⟩:∃w8,w7.alloc (.cells #[.int .i64 97, .int .i64 256] 3)=w8:=⟨_,rfl⟩
 have hb8:Below w7.heap.size w7 w8:=hw8▸below_alloc w7 _
 have HS8:Hid (SlI w8 (some ⟨w7.heap.size,0,none⟩) 2 2 [97,256]):=Lib.hid (by rw[←hw8];exact Sl.lit6 w7 _ _ rfl _ _ rfl rfl (by simp) _)
 have HA8:=Lib.hid (hs.below hb8)
 have HB8:=Lib.hid (HB7.out.trans (hb8.mono HB7.out.size))
 have HW8:=Lib.hid hw8
 clear hw8 hb8 hb7 hk7 ho hs
 go_wp2_with (fail)
 rw[HW8.out]
 refine(same10 w8 HA8.out HS8.out).mono ?_
 rintro e w9 ⟨k,rfl,rfl⟩
 rw[eqB_true rfl]
 go_wp2_with (fail)
 go_ret
 exact⟨rfl,below_drewN HB8.out k⟩
theorem own:ownKnob Tryz.prog.godebug=none:=by kernel_rfl
theorem laidOut:laidOutB Tryz.prog=true:=by kernel_rfl
end Go.Proofs.YtimkkkdabmhedaaGreatDoor
