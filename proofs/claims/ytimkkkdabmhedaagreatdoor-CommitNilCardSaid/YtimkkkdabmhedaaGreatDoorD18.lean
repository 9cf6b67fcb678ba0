/- Walks: cmp.Less, isNaN and slices.BinarySearch at strings. -/
import Derived.Test.YtimkkkdabmhedaaGreatDoorD16
import Derived.Test.YtimkkkdabmhedaaGreatDoorD9
import Derived.Deep.LoopGhost
import Derived.Test.YtimkkkdabmhedaaGreatDoorD17
import Derived.Test.YtimkkkdabmhedaaGreatDoorD15
import Derived.Test.YtimkkkdabmhedaaGreatDoorD1
import Derived.Test.YtimkkkdabmhedaaGreatDoorD3
import Derived.Test.YtimkkkdabmhedaaGreatDoorD11
set_option linter.unusedVariables false
set_option maxHeartbeats 2000000
set_option maxRecDepth 100000
namespace Go.Proofs.YtimkkkdabmhedaaGreatDoor
open Go.RowKit
theorem nanC_calls (x:ByteArray) (w:World):Calls Tryz.prog 131 #[.string x] w fun e w'=>e= .returned (.bool false)∧w=w':=by
 go_enter Tryz.func131,Tryz.ntmps131
 go_wp2
 go_ret
 exact⟨by simp,rfl⟩
theorem nanS_calls (x:ByteArray) (w:World):Calls Tryz.prog 97 #[.string x] w fun e w'=>e= .returned (.bool false)∧w=w':=by
 go_enter Tryz.func97,Tryz.ntmps97
 go_wp2
 go_ret
 exact⟨by simp,rfl⟩
theorem lessS_calls (x y:ByteArray) (w:World):Calls Tryz.prog 96 #[.string x, .string y] w fun e w'=>e= .returned (.bool (sless x y))∧w=w':=by
 go_enter Tryz.func96,Tryz.ntmps96
 go_wp2_with (go_at_call 131;refine(nanC_calls _ _).mono ?_;rintro e w' ⟨rfl,rfl⟩)
 go_ret
 exact⟨rfl,rfl⟩
theorem binS_calls {N:List ByteArray} {no:Option Addr} {nn nc:Nat} (x:ByteArray) (w:World) (hN:SlS w no nn nc N) {k0:Nat} (hk:k0≤N.length) (hbig:nn≤1048576)
  (h1:∀t,t<k0→sless (tk N t) x=true) (h2:∀t,k0≤t→t<N.length→sless (tk N t) x=false) {bb:Bool} (hbb:bb=true↔(k0<N.length∧tk N k0=x)):
  Calls Tryz.prog 65 #[.slice no nn nc, .string x] w fun e w'=>e= .returned (.tuple #[.int .i64 (k0:Int), .bool bb])∧Below w.heap.size w w':=by
 have HL:=Lib.hid hN.count
 have HN:=Lib.hid hN
 have H1:=Lib.hid h1
 have H2:=Lib.hid h2
 have HK:=Lib.hid hk
 have HBB:=Lib.hid hbb
 clear hN h1 h2 hk hbb
 go_enter Tryz.func65,Tryz.ntmps65
 go_wp2_with (fail)
 go_loopw [7,8] (fun a b wr=>∃lo hi:Nat,a= .int .i64 lo∧b= .int .i64 hi∧Hid (lo≤k0)∧Hid (k0≤hi)∧lo≤hi∧hi≤nn∧Below w.heap.size w wr) (fun a b _=>(intOf b).toNat-(intOf a).toNat)
 case atStart=>exact⟨0,nn,rfl,rfl,Lib.hid (by omega),Lib.hid (by have:=HK.out;have:=HL.out;omega),by omega,by omega,Below.refl _ _⟩
 case round=>
  obtain⟨lo,hi,rfl,rfl,Hlo,Hhi,hlh,hhn,hb⟩:=hrel
  by_cases hlt:lo<hi
  ·obtain⟨m,hm⟩:∃m,(lo+hi) / 2=m:=⟨_,rfl⟩
   have hmN:m<N.length:=by have:=HL.out;omega
   obtain⟨b,o,hao,hc⟩:=SlS.cell (Sl.below HN.out hb) (tk_eq hmN)
   subst hao
   have HM:Hid ((lo+hi) / 2=m):=Lib.hid hm
   rw[←hm]at hc
   have HB:=Lib.hid hb
   obtain⟨y,hy⟩:∃y,tk N ((lo+hi) / 2)=y:=⟨_,rfl⟩
   rw[hy]at hc
   have HY:=Lib.hid hy
   have hmlt:(lo+hi) / 2<nn:=by omega
   clear hm hy hb hmN
   cases hyx:sless y x with
   | false=>
    have HMH:Hid (k0≤(lo+hi) / 2):=Lib.hid (by
     rcases Nat.lt_or_ge ((lo+hi) / 2) k0 with h | h
     ·have:=H1.out _ h
      rw[HY.out,hyx]at this;cases this
     ·exact h)
    go_wp2_with (first
     | (go_at_call 96;refine(lessS_calls _ _ _).mono ?_;rintro e w' ⟨rfl,rfl⟩))
    go_roundw
    case rel=>exact⟨lo,(lo+hi) / 2,rfl,by rw[show((lo:Int)+(hi:Int)) / 2=(((lo+hi) / 2:Nat):Int) by omega],Hlo,HMH,by omega,by omega,HB.out⟩
    case measure=>simp[intOf];omega
   | true=>
    have HMH:Hid ((lo+hi) / 2+1≤k0):=Lib.hid (by
     rcases Nat.lt_or_ge ((lo+hi) / 2) k0 with h | h
     ·exact h
     ·have:=H2.out _ h (by have:=HL.out;omega)
      rw[HY.out,hyx]at this;cases this)
    go_wp2_with (first
     | (go_at_call 96;refine(lessS_calls _ _ _).mono ?_;rintro e w' ⟨rfl,rfl⟩))
    go_roundw
    case rel=>exact⟨(lo+hi) / 2+1,hi,by rw[show((lo:Int)+(hi:Int)) / 2+1=(((lo+hi) / 2+1:Nat):Int) by omega],rfl,HMH,Hhi,by omega,by omega,HB.out⟩
    case measure=>simp[intOf];omega
  ·have hE:lo=k0∧hi=k0:=by have:=Hlo.out;have:=Hhi.out;omega
   obtain⟨hlo,hhi⟩:=hE
   obtain rfl:hi=lo:=by omega
   subst hlo
   have HB:=Lib.hid hb
   by_cases hn:hi<nn
   ·have hmN:hi<N.length:=by have:=HL.out;omega
    obtain⟨b,o,hao,hc⟩:=SlS.cell (Sl.below HN.out hb) (tk_eq hmN)
    subst hao
    obtain⟨y,hy⟩:∃y,tk N hi=y:=⟨_,rfl⟩
    rw[hy]at hc
    have HY:=Lib.hid hy
    have HMN:=Lib.hid hmN
    clear hy hb hmN
    by_cases hyx:y=x
    ·have hb2:=beqS_yes hyx
     obtain rfl:bb=true:=HBB.out.2 ⟨HMN.out,by rw[HY.out];exact hyx⟩
     clear hyx
     go_wp2_with (first
      | (go_at_call 97;refine(nanS_calls _ _).mono ?_;rintro e w' ⟨rfl,rfl⟩))
     refine bodyPost_ret (v:= .tuple #[.int .i64 hi, .bool true]) ?_ rfl ⟨rfl,HB.out⟩
     simp[results,Tryz.results65,go_sem]
    ·have hb2:=beqS_no hyx
     obtain rfl:bb=false:=by
      cases bb with
      | false=>rfl
      | true=>exact absurd (HBB.out.1 rfl).2 (by rw[HY.out];exact hyx)
     clear hyx
     go_wp2_with (first
      | (go_at_call 97;refine(nanS_calls _ _).mono ?_;rintro e w' ⟨rfl,rfl⟩))
     refine bodyPost_ret (v:= .tuple #[.int .i64 hi, .bool false]) ?_ rfl ⟨rfl,HB.out⟩
     simp[results,Tryz.results65,go_sem]
   ·obtain rfl:bb=false:=by
     cases bb with
     | false=>rfl
     | true=>exact absurd (HBB.out.1 rfl).1 (by have:=HL.out;omega)
    go_wp2_with (first
     | (go_at_call 97;refine(nanS_calls _ _).mono ?_;rintro e w' ⟨rfl,rfl⟩))
    refine bodyPost_ret (v:= .tuple #[.int .i64 hi, .bool false]) ?_ rfl ⟨rfl,HB.out⟩
    simp[results,Tryz.results65,go_sem]
theorem names_cut {N:List ByteArray} (h:MayNames N) (x:ByteArray):∃k0,k0≤N.length∧(∀t,t<k0→sless (tk N t) x=true)∧(∀t,k0≤t→t<N.length→sless (tk N t) x=false)∧
  ((k0<N.length∧tk N k0=x∧nameAt N x=some k0)∨(¬(k0<N.length∧tk N k0=x)∧nameAt N x=none)):=by
 have hp:∀i j,i<j→j<N.length→sless (tk N i) (tk N j)=true:=fun i j hij hj=>by
  have h1:=List.pairwise_iff_getElem.1 h.2.2 i j (by omega) hj hij
  have e1:N[i]'(by omega)=tk N i:=by simp[tk,List.getD,show i<N.length by omega]
  have e2:N[j]=tk N j:=by simp[tk,List.getD,hj]
  rwa [e1,e2]at h1
 have key:∃k0,k0≤N.length∧(∀t,t<k0→sless (tk N t) x=true)∧(∀t,k0≤t→t<N.length→sless (tk N t) x=false):=by
  have:∀d,d≤N.length→∃k0,k0≤d∧(∀t,t<k0→sless (tk N t) x=true)∧(∀t,k0≤t→t<d→sless (tk N t) x=false):=by
   intro d
   induction d with
   | zero=>intro _;exact⟨0,by omega,fun t h=>by omega,fun t h1 h2=>by omega⟩
   | succ d ih=>
    intro hd
    obtain⟨k0,a,b,c⟩:=ih (by omega)
    by_cases hk:k0=d
    ·cases hs:sless (tk N d) x with
     | true=>
      refine⟨d+1,by omega,fun t ht=> ?_,fun t h1 h2=>by omega⟩
      by_cases e:t=d
      ·subst e;exact hs
      ·exact b t (by omega)
     | false=>
      refine⟨d,by omega,fun t ht=>b t (by omega),fun t h1 h2=> ?_⟩
      have:t=d:=by omega
      subst this;exact hs
    ·refine⟨k0,by omega,b,fun t h1 h2=> ?_⟩
     by_cases e:t=d
     ·subst e
      have h3:=c k0 (Nat.le_refl _) (by omega)
      cases hs:sless (tk N t) x with
      | false=>rfl
      | true=>
       have:=sless_trans (hp k0 t (by omega) (by omega)) hs
       rw[h3]at this;cases this
     ·exact c t h1 (by omega)
  exact this _ (Nat.le_refl _)
 obtain⟨k0,a,b,c⟩:=key
 refine⟨k0,a,b,c,?_⟩
 by_cases hx:k0<N.length∧tk N k0=x
 ·exact .inl ⟨hx.1,hx.2,nameAt_some hx.1 hx.2 fun j hj e=>by
   have:=b j hj
   rw[e,sless_irrefl]at this;cases this⟩
 ·refine .inr ⟨hx,nameAt_none fun j hj e=> ?_⟩
  rcases Nat.lt_trichotomy j k0 with h1 | h1 | h1
  ·have:=b j h1
   rw[e,sless_irrefl]at this;cases this
  ·subst h1;exact hx ⟨hj,e⟩
  ·have h2:=c k0 (Nat.le_refl _) (by omega)
   have h3:=hp k0 j h1 hj
   rw[e,h2]at h3;cases h3
theorem own_one (w:World) (x:Int):Own (w.alloc (.cells #[.int .i64 x] 3)) w.heap.size (.slice (some ⟨w.heap.size,0,none⟩) 1 1) [x]:=by
 refine⟨by simp, .inr ⟨w.heap.size,1,#[.int .i64 x],by simp,Nat.le_refl _,heap_alloc_new w _,by simp,by unfold maxLen;omega,by simp,?_⟩⟩
 simp
def SymPost (V:Vc) (N:List ByteArray) (t:Int) (w:World) (e:Ending) (w':World):Prop:=
 (∃v,e= .returned (.tuple #[v, .int .i64 (symsOf V N t).2])∧Own w' w.heap.size v (symsOf V N t).1)∧Below w.heap.size w w'
theorem symsOf_yes {V:Vc} {N:List ByteArray} {t:Int} (h:isTk V.tokens t=true):symsOf V N t=(bytesI (tk V.tokens t.toNat),0):=by
 unfold symsOf;rw[if_pos h]
theorem symsOf_none {V:Vc} {N:List ByteArray} {t:Int} (h:isTk V.tokens t=false) (h2:spBy V.specials t=none):symsOf V N t=([],3):=by
 unfold symsOf;rw[h,h2];simp
theorem symsOf_at {V:Vc} {N:List ByteArray} {t:Int} (h:isTk V.tokens t=false) {s:Sp} (h2:spBy V.specials t=some s) {k:Nat} (h3:nameAt N s.name=some k):symsOf V N t=([256+(k:Int)],0):=by
 unfold symsOf;rw[h,h2];simp only[h3];simp
theorem symsOf_un {V:Vc} {N:List ByteArray} {t:Int} (h:isTk V.tokens t=false) {s:Sp} (h2:spBy V.specials t=some s) (h3:nameAt N s.name=none):symsOf V N t=([],4):=by
 unfold symsOf;rw[h,h2];simp only[h3];simp
theorem symbols_calls {V:Vc} {N:List ByteArray} {kind:Int} {T:List Rg} {base g cb:Nat} (t:Int) (w:World) (hC:TCod w base g V N kind T cb) (hT:∀s∈V.tokens,s.size≤64) (hN:MayNames N):
  Calls Tryz.prog 23 #[.pointer (some ⟨g,0,none⟩), .int .i64 t] w (SymPost V N t w):=by
 obtain⟨hlo,ta,tc,sa,sc,na,nc,ma,mc,oa,oc,eg,hx,hot,hos,hon,_⟩:=hC
 obtain⟨i0,hi,hz0,hz1,hz2⟩:=info_parts infoInt3
 obtain⟨_,_,e1,hst⟩:=hot.sl
 simp only[Value.slice.injEq]at e1
 obtain⟨rfl,_,rfl⟩:=e1
 obtain⟨_,_,e1,hss⟩:=hos.sl
 simp only[Value.slice.injEq]at e1
 obtain⟨rfl,_,rfl⟩:=e1
 obtain⟨_,_,e1,hsn⟩:=hon.sl
 simp only[Value.slice.injEq]at e1
 obtain⟨rfl,_,rfl⟩:=e1
 have hV:VocR w ⟨ta,V.tokens.length,tc,none,0,0,sa,V.specials.length,sc⟩ ⟨V.tokens,[],V.specials⟩:=⟨SlF.strs hst,SlF.nothing _,hss⟩
 have hvb:=vbytes_calls (dd:=⟨ta,V.tokens.length,tc,none,0,0,sa,V.specials.length,sc⟩) t w hV
 have HV:=Lib.hid hV
 have HX:=Lib.hid hx
 have HNN:=Lib.hid (SlF.strs hsn)
 have HMN:=Lib.hid hN
 have hg:g<w.heap.size:=(Array.getElem?_eq_some_iff.1 hx).1
 obtain⟨c0,c1,c2,c3,c4,c5,c6,c7,c8,cf⟩:=box9 hx
 have HT:=Lib.hid hT
 clear hx hot hos hon hst hss hsn hV hT hN
 go_enter Tryz.func23,Tryz.ntmps23
 go_wp2_with (fail)
 refine hvb.mono ?_
 rintro e w1 ⟨rfl,hb1⟩
 have HB1:=Lib.hid hb1
 cases htk:isTk V.tokens t with
 | true=>
  have HSY:=Lib.hid (symsOf_yes (N:=N) htk)
  obtain⟨s,hs⟩:∃s,tk V.tokens t.toNat=s:=⟨_,rfl⟩
  have hbo:bytesOf V.tokens t=s:=by unfold bytesOf;rw[if_pos htk,hs]
  have hsz:s.size≤64:=by
   obtain⟨a1,a2,_⟩:=isTk_iff.1 htk
   rw[←hs]
   exact HT.out _ (tk_mem (by omega))
  rw[hs]at HSY
  simp only[hbo]
  clear hb1 hvb hs hbo htk c0 c1 c2 c3 c4 c5 c6 c7 c8 cf
  go_wp2_with (fail)
  go_loopw [8,27] (fun v i wr=>∃k:Nat,k≤s.size∧i= .int .i64 k∧Own wr w.heap.size v ((bytesI s).take k)∧Below w.heap.size w wr) (fun _ i _=>s.size-(intOf i).toNat)
  case atStart=>exact⟨0,Nat.zero_le _,rfl,by simpa using Own.nil w1 w.heap.size,HB1.out⟩
  case round=>
   obtain⟨k,hk,rfl,ho,hb⟩:=hrel
   have HO:=Lib.hid ho
   have HB:=Lib.hid hb
   clear ho hb
   by_cases hlt:k<s.size
   ·have HK:=Lib.hid (bytesI_succ hlt)
    have HL:Hid (((bytesI s).take k).length=k):=Lib.hid (by rw[List.length_take,bytesI_len];omega)
    obtain⟨x,hxx⟩:∃x:Int,(s[k].toNat:Int)=x:=⟨_,rfl⟩
    have HS1:Hid (SlI (wr.alloc (.cells #[.int .i64 x] 3)) (some ⟨wr.heap.size,0,none⟩) 1 1 [x]):=Lib.hid (SlI.one wr x _)
    have HO1:Hid (Own (wr.alloc (.cells #[.int .i64 x] 3)) w.heap.size u8 ((bytesI s).take k)):=Lib.hid (HO.out.alloc _)
    have HSZ:Hid (w.heap.size≤wr.heap.size):=Lib.hid HB.out.size
    rw[hxx]at HK
    have hx8:=s[k].toNat_lt
    have hwx:wrap64 x=x:=by rw[←hxx];unfold wrap64;omega
    go_wp2_with (at_builtin;go_loud (refine wpList_int_app rfl _ _ 43 rfl i0 Tryz.underlying43 hi hz0 hz1 hz2 rfl HO1.out rfl HS1.out (by have:=HL.out;omega) (by have:=HSZ.out;simp;omega) ?_))
    intro v1 w2 ho2 hg2 hb2
    rw[←HK.out]at ho2
    have HO2:=Lib.hid ho2
    have HB2:=Lib.hid ((HB.out.alloc HB.out.size _).trans hb2)
    clear ho2 hg2 hb2
    go_wp2_with (fail)
    go_roundw
    case rel=>exact⟨k+1,by omega,by go_num,HO2.out,HB2.out⟩
    case measure=>simp[intOf];omega
   ·obtain rfl:k=s.size:=by omega
    have HO2:=HO.out
    rw[List.take_of_length_le (by rw[bytesI_len];exact Nat.le_refl _)]at HO2
    have HO3:=Lib.hid HO2
    clear HO2
    go_wp2_with (fail)
    refine bodyPost_ret (v:= .tuple #[u8, .int .i64 0]) ?_ rfl ⟨⟨u8,by rw[HSY.out],by rw[HSY.out];exact HO3.out⟩,HB.out⟩
    simp[results,Tryz.results23,go_sem]
 | false=>
 have hbo:bytesOf V.tokens t=ByteArray.empty:=by unfold bytesOf;rw[htk];rfl
 have hnm:=name_calls (dd:=⟨ta,V.tokens.length,tc,none,0,0,sa,V.specials.length,sc⟩) t w1 (HV.out.below hb1)
 simp only[hbo]
 have HTK:=Lib.hid htk
 clear hb1 hvb hbo htk c0 c1 c2 c3 c4 c5 c6 c7 c8 cf
 obtain⟨c0,c1,c2,c3,c4,c5,c6,c7,c8,cf⟩:=box9 ((HB1.out.block g hg).trans HX.out)
 go_wp2_with (fail)
 refine hnm.mono ?_
 rintro e w2 ⟨rfl,hb2⟩
 have HB2:=Lib.hid (HB1.out.trans (hb2.mono HB1.out.size))
 cases hsp:spBy V.specials t with
 | none=>
  have HSY:=Lib.hid (symsOf_none (N:=N) HTK.out hsp)
  simp only[nmOf,Option.isSome_none]
  clear hb2 hnm hsp
  go_wp2_with (fail)
  refine bodyPost_ret (v:= .tuple #[.slice none 0 0, .int .i64 3]) ?_ rfl ⟨⟨_,by rw[HSY.out],by rw[HSY.out];exact Own.nil _ _⟩,HB2.out⟩
  simp[results,Tryz.results23,go_sem]
 | some s=>
 simp only[nmOf,Option.isSome_some]
 obtain⟨k0,q1,q2,q3,q4⟩:=names_cut HMN.out s.name
 have HSP:=Lib.hid hsp
 clear hb2 hnm c0 c1 c2 c3 c4 c5 c6 c7 c8 cf
 obtain⟨c0,c1,c2,c3,c4,c5,c6,c7,c8,cf⟩:=box9 ((HB2.out.block g hg).trans HX.out)
 rcases q4 with⟨r1,r2,r3⟩ | ⟨r1,r3⟩
 ·have hbs:=binS_calls s.name w2 (Sl.below HNN.out HB2.out) q1 (by have:=HMN.out.1;omega) q2 q3 (bb:=true) (by simp[r1,r2])
  have HSY:=Lib.hid (symsOf_at HTK.out hsp r3)
  have HK0:Hid ((k0:Int)<16):=Lib.hid (by have:=HMN.out.1;omega)
  clear q1 q2 q3 r1 r2 r3 hsp
  go_wp2_with (fail)
  refine hbs.mono ?_
  rintro e w3 ⟨rfl,hb3⟩
  have HB3:=Lib.hid (HB2.out.trans (hb3.mono HB2.out.size))
  have hk0:=HK0.out
  have hwr:IntKind.i64.wrap (256+(k0:Int))=256+(k0:Int):=by rw[IntKind.wrap_i64];omega
  clear hb3 hbs
  go_wp2_with (fail)
  refine bodyPost_ret (v:= .tuple #[.slice (some ⟨w3.heap.size,0,none⟩) 1 1, .int .i64 0]) ?_ rfl ⟨⟨_,by rw[HSY.out],by rw[HSY.out];exact Own.mono (own_one w3 _) HB3.out.size⟩,HB3.out.alloc HB3.out.size _⟩
  simp[results,Tryz.results23,go_sem]
 ·have hbs:=binS_calls s.name w2 (Sl.below HNN.out HB2.out) q1 (by have:=HMN.out.1;omega) q2 q3 (bb:=false) ⟨(fun h=>by cases h),(fun h=>absurd h r1)⟩
  have HSY:=Lib.hid (symsOf_un HTK.out hsp r3)
  clear q1 q2 q3 r1 r3 hsp
  go_wp2_with (fail)
  refine hbs.mono ?_
  rintro e w3 ⟨rfl,hb3⟩
  have HB3:=Lib.hid (HB2.out.trans (hb3.mono HB2.out.size))
  clear hb3 hbs
  go_wp2_with (fail)
  refine bodyPost_ret (v:= .tuple #[.slice none 0 0, .int .i64 4]) ?_ rfl ⟨⟨_,by rw[HSY.out],by rw[HSY.out];exact Own.nil _ _⟩,HB3.out⟩
  simp[results,Tryz.results23,go_sem]
theorem spBy_hit {S:List Sp} {t:Int} {k:Nat} (hk:k<S.length) (h:(sp S k).id=t) (hno:∀j,j<k→(sp S j).id≠t):spBy S t=some (sp S k):=by
 unfold spBy
 rw[List.find?_eq_some_iff_getElem]
 exact⟨by simpa using h,k,hk,sp_get hk,fun j hj=>by rw[sp_get (by omega)];simpa using hno j hj⟩
theorem spBy_miss {S:List Sp} {t:Int} (hno:∀j,j<S.length→(sp S j).id≠t):spBy S t=none:=by
 unfold spBy
 rw[List.find?_eq_none]
 intro x hx
 obtain⟨j,hj,rfl⟩:=List.getElem_of_mem hx
 rw[sp_get hj];simpa using hno j hj
theorem rsymbols_calls {V:Vc} {N:List ByteArray} {dd:Vd} {no to_:Option Addr} {nn nc tn' tc':Nat} {kind:Int} (t:Int) (w:World) (hV:VocR w dd V) (hN:SlS w no nn nc N) (hT:∀s∈V.tokens,s.size≤64) (hnb:nn≤16) (hsb:V.specials.length≤1048576) (htb:V.tokens.length≤1048576):
  Calls Tryz.prog 39 #[.agg #[.slice dd.ta dd.tn dd.tc, .slice dd.ma dd.mn dd.mc, .slice dd.sa dd.sn dd.sc, .slice no nn nc, .int .i64 kind, .slice to_ tn' tc'], .int .i64 t] w (SymPost V N t w):=by
 obtain⟨ta,tn,tc,ma,mn,mc,sa,sn,sc⟩:=dd
 obtain⟨i0,hi,hz0,hz1,hz2⟩:=info_parts infoInt3
 obtain⟨w0,hw0⟩:∃w0,w.alloc (.cells #[.slice ta tn tc, .slice ma mn mc, .slice sa sn sc, .slice no nn nc, .int .i64 kind, .slice to_ tn' tc'] 37)=w0:=⟨_,rfl⟩
 have hb0:Below w.heap.size w w0:=hw0▸below_alloc w _
 have hx0:w0.heap[w.heap.size]?=some (.cells #[.slice ta tn tc, .slice ma mn mc, .slice sa sn sc, .slice no nn nc, .int .i64 kind, .slice to_ tn' tc'] 37):=by rw[←hw0];exact heap_alloc_new w _
 have HSZ1:Hid (w.heap.size<w0.heap.size):=Lib.hid (by rw[←hw0];simp)
 obtain⟨b0,b1,b2,b3,b4,b5,bf⟩:=box6 hx0
 have HCT:=Lib.hid hV.tok.count
 have HCS:=Lib.hid (hV.spc.count Sp.enc_len (by omega))
 have HNL:=Lib.hid hN.count
 have HNB:=Lib.hid hnb
 have HV:=Lib.hid (hV.below hb0)
 have HN:=Lib.hid (Sl.below hN hb0)
 have HT:=Lib.hid hT
 have HB0:=Lib.hid hb0
 have HX0:=Lib.hid hx0
 have HW0:=Lib.hid hw0
 have hsn:sn≤1048576:=by have:=HCS.out;simp only at this;omega
 have htn:tn≤1048576:=by have:=HCT.out;simp only at this;omega
 simp only at HCT HCS ⊢
 clear hV hN hb0 hx0 hw0 hsb htb hT
 by_cases h0:t<0
 ·have HTK:Hid (isTk V.tokens t=false):=Lib.hid (isTk_neg h0)
  go_enter Tryz.func39,Tryz.ntmps39
  go_wp2_with (fail)
  rw[HW0.out]
  go_wp2_with (fail)
  go_loopw [55] (fun i wr=>∃k:Nat,k≤sn∧i= .int .i64 k∧Hid (∀j,j<k→(sp V.specials j).id≠t)∧Below w0.heap.size w0 wr) (fun i _=>sn-(intOf i).toNat)
  case atStart=>exact⟨0,Nat.zero_le _,rfl,Lib.hid (fun j h=>by omega),Below.refl _ _⟩
  case round=>
   obtain⟨k,hk,rfl,HK,hb⟩:=hrel
   have HB:=Lib.hid hb
   obtain⟨b0,b1,b2,b3,b4,b5,bf⟩:=box6 ((hb.block w.heap.size HSZ1.out).trans HX0.out)
   clear hb
   by_cases hlt:k<sn
   ·have hkS:k<V.specials.length:=by have:=HCS.out;omega
    obtain⟨b,of,hao,hce⟩:=(HV.out.below HB.out).spc.elem Sp.enc_len (by omega) (sp_eq hkS)
    simp only at hao
    subst hao
    obtain⟨⟨nm,id⟩,hseq⟩:∃m,sp V.specials k=m:=⟨_,rfl⟩
    rw[hseq]at hce
    have d0:=hce 0 _ rfl
    have d1:=hce 1 _ rfl
    rw[Nat.add_zero]at d0
    simp only at d0 d1
    have HSK:=Lib.hid hseq
    have gk:(k:Int)<(sn:Int):=by omega
    clear hce hseq
    by_cases hid:id=t
    ·have hbid:(id != t)=false:=by simpa using hid
     have hbid2:(id==t)=true:=by simpa using hid
     have HSB:Hid (spBy V.specials t=some ⟨nm,id⟩):=Lib.hid (by rw[←HSK.out];exact spBy_hit hkS (by rw[HSK.out];exact hid) HK.out)
     clear hid
     obtain⟨wi,rfl⟩:∃wi:World,wi=wr:=⟨_,rfl⟩
     go_wp2_with (fail)
     go_loopw [70] (fun i wr=>∃q nq:Nat,q≤nn∧i= .int .i64 q∧Hid (∀j,j<q→tk N j≠nm)∧wr=wi.drewN nq) (fun i _=>nn-(intOf i).toNat)
     case atStart=>exact⟨0,0,Nat.zero_le _,rfl,Lib.hid (fun j h=>by omega),rfl⟩
     case round=>
      obtain⟨q,nq0,hq,rfl,HQ,rfl⟩:=hrel
      have HBQ:Hid (Below w0.heap.size w0 (wi.drewN nq0)):=Lib.hid (below_drewN HB.out _)
      by_cases hltq:q<nn
      ·have hqN:q<N.length:=by have:=HNL.out;omega
       obtain⟨b',of',hao,hc⟩:=SlS.cell (Sl.below HN.out HB.out) (tk_eq hqN)
       subst hao
       obtain⟨y,hy⟩:∃y,tk N q=y:=⟨_,rfl⟩
       rw[hy]at hc
       have HY:=Lib.hid hy
       have gq:(q:Int)<(nn:Int):=by omega
       have HQN:=Lib.hid hqN
       clear hy hqN
       by_cases hyn:y=nm
       ·have hb2:=beqS_yes hyn
        have HSY:Hid (symsOf V N t=([256+(q:Int)],0)):=Lib.hid (symsOf_at HTK.out HSB.out (nameAt_some HQN.out (by rw[HY.out];exact hyn) HQ.out))
        have hq16:q<1048576:=by have:=HNB.out;omega
        have hwr:IntKind.i64.wrap (256+(q:Int))=256+(q:Int):=by rw[IntKind.wrap_i64];omega
        clear hyn
        go_wp2_with (fail)
        go_quiet (fail)
        obtain⟨wz,hwz⟩:∃wz,(wi.drewN nq0).drewN nq=wz:=⟨_,rfl⟩
        have HBZ:Hid (Below w0.heap.size w0 wz):=Lib.hid (by rw[←hwz];exact below_drewN HBQ.out _)
        rw[hwz]
        clear hwz
        go_wp2_with (fail)
        refine bodyPost_ret (v:= .tuple #[.slice (some ⟨wz.heap.size,0,none⟩) 1 1, .int .i64 0]) ?_ rfl ⟨⟨_,by rw[HSY.out],by rw[HSY.out];exact Own.mono (own_one wz _) (Nat.le_trans HB0.out.size HBZ.out.size)⟩,(HB0.out.trans (HBZ.out.mono HB0.out.size)).alloc (Nat.le_trans HB0.out.size HBZ.out.size) _⟩
        simp[results,Tryz.results39,go_sem]
       ·have hb2:=beqS_no hyn
        have HQ2:Hid (∀j,j<q+1→tk N j≠nm):=Lib.hid (fun j hj=>by
         by_cases e:j=q
         ·subst e;rw[HY.out];exact hyn
         ·exact HQ.out j (by omega))
        clear hyn
        go_wp2_with (fail)
        go_quiet (fail)
        go_wp2_with (fail)
        go_roundw
        case rel=>exact⟨q+1,_,by omega,by go_num,HQ2,rfl⟩
        case measure=>simp[intOf];omega
      ·have HSY:Hid (symsOf V N t=([],4)):=Lib.hid (symsOf_un HTK.out HSB.out (nameAt_none (fun j hj=>HQ.out j (by have:=HNL.out;omega))))
       obtain⟨wz,hwz⟩:∃wz,wi.drewN nq0=wz:=⟨_,rfl⟩
       rw[hwz]at HBQ ⊢
       clear hwz
       go_wp2_with (fail)
       refine bodyPost_ret (v:= .tuple #[.slice (some ⟨wz.heap.size,0,none⟩) 0 0, .int .i64 4]) ?_ rfl ⟨⟨_,by rw[HSY.out],by rw[HSY.out];exact Own.mono (own_made0 wz) (Nat.le_trans HB0.out.size HBQ.out.size)⟩,(HB0.out.trans (HBQ.out.mono HB0.out.size)).alloc (Nat.le_trans HB0.out.size HBQ.out.size) _⟩
       simp[results,Tryz.results39,go_sem]
    ·have hbid:(id != t)=true:=by simpa using hid
     have hbid2:(id==t)=false:=by simpa using hid
     have HK2:Hid (∀j,j<k+1→(sp V.specials j).id≠t):=Lib.hid (fun j hj=>by
      by_cases e:j=k
      ·subst e;rw[HSK.out];exact hid
      ·exact HK.out j (by omega))
     clear hid
     go_wp2_with (fail)
     go_roundw
     case rel=>exact⟨k+1,by omega,by go_num,HK2,HB.out⟩
     case measure=>simp[intOf];omega
   ·have HSY:Hid (symsOf V N t=([],3)):=Lib.hid (symsOf_none HTK.out (spBy_miss (fun j hj=>HK.out j (by have:=HCS.out;omega))))
    go_wp2_with (fail)
    refine bodyPost_ret (v:= .tuple #[.slice (some ⟨wr.heap.size,0,none⟩) 0 0, .int .i64 3]) ?_ rfl ⟨⟨_,by rw[HSY.out],by rw[HSY.out];exact Own.mono (own_made0 wr) (Nat.le_trans HB0.out.size HB.out.size)⟩,(HB0.out.trans (HB.out.mono HB0.out.size)).alloc (Nat.le_trans HB0.out.size HB.out.size) _⟩
    simp[results,Tryz.results39,go_sem]
 ·obtain⟨q0,rfl⟩:=Int.eq_ofNat_of_zero_le (Int.not_lt.1 h0)
  by_cases hq0:q0<tn
  ·obtain⟨b,o,hao,hc⟩:=HV.out.tok.cell (tk_eq (T:=V.tokens) (i:=q0) (by have:=HCT.out;omega))
   simp only at hao
   subst hao
   have HF:=Lib.hid (isTk_at (T:=V.tokens) (k:=q0) (by have:=HCT.out;omega))
   have hq0i:(q0:Int)<(tn:Int):=by omega
   by_cases hz:(tk V.tokens q0).size=0
   ·obtain⟨e1,e2,e3⟩:=strE_yes hz
    have HTK:Hid (isTk V.tokens (q0:Int)=false):=Lib.hid (by rw[HF.out];simp[hz])
    clear hz
    rw[←HW0.out]at hc
    go_enter Tryz.func39,Tryz.ntmps39
    go_wp2_with (fail)
    rw[HW0.out]
    clear e1 e2 e3 hc
    go_wp2_with (fail)
    go_loopw [55] (fun i wr=>∃k:Nat,k≤sn∧i= .int .i64 k∧Hid (∀j,j<k→(sp V.specials j).id≠(q0:Int))∧Below w0.heap.size w0 wr) (fun i _=>sn-(intOf i).toNat)
    case atStart=>exact⟨0,Nat.zero_le _,rfl,Lib.hid (fun j h=>by omega),Below.refl _ _⟩
    case round=>
     obtain⟨k,hk,rfl,HK,hb⟩:=hrel
     have HB:=Lib.hid hb
     obtain⟨b0,b1,b2,b3,b4,b5,bf⟩:=box6 ((hb.block w.heap.size HSZ1.out).trans HX0.out)
     clear hb
     by_cases hlt:k<sn
     ·have hkS:k<V.specials.length:=by have:=HCS.out;omega
      obtain⟨b,of,hao,hce⟩:=(HV.out.below HB.out).spc.elem Sp.enc_len (by omega) (sp_eq hkS)
      simp only at hao
      subst hao
      obtain⟨⟨nm,id⟩,hseq⟩:∃m,sp V.specials k=m:=⟨_,rfl⟩
      rw[hseq]at hce
      have d0:=hce 0 _ rfl
      have d1:=hce 1 _ rfl
      rw[Nat.add_zero]at d0
      simp only at d0 d1
      have HSK:=Lib.hid hseq
      have gk:(k:Int)<(sn:Int):=by omega
      clear hce hseq
      by_cases hid:id=(q0:Int)
      ·have hbid:(id != (q0:Int))=false:=by simpa using hid
       have hbid2:(id==(q0:Int))=true:=by simpa using hid
       have HSB:Hid (spBy V.specials (q0:Int)=some ⟨nm,id⟩):=Lib.hid (by rw[←HSK.out];exact spBy_hit hkS (by rw[HSK.out];exact hid) HK.out)
       clear hid
       obtain⟨wi,rfl⟩:∃wi:World,wi=wr:=⟨_,rfl⟩
       go_wp2_with (fail)
       go_loopw [70] (fun i wr=>∃q nq:Nat,q≤nn∧i= .int .i64 q∧Hid (∀j,j<q→tk N j≠nm)∧wr=wi.drewN nq) (fun i _=>nn-(intOf i).toNat)
       case atStart=>exact⟨0,0,Nat.zero_le _,rfl,Lib.hid (fun j h=>by omega),rfl⟩
       case round=>
        obtain⟨q,nq0,hq,rfl,HQ,rfl⟩:=hrel
        have HBQ:Hid (Below w0.heap.size w0 (wi.drewN nq0)):=Lib.hid (below_drewN HB.out _)
        by_cases hltq:q<nn
        ·have hqN:q<N.length:=by have:=HNL.out;omega
         obtain⟨b',of',hao,hc⟩:=SlS.cell (Sl.below HN.out HB.out) (tk_eq hqN)
         subst hao
         obtain⟨y,hy⟩:∃y,tk N q=y:=⟨_,rfl⟩
         rw[hy]at hc
         have HY:=Lib.hid hy
         have gq:(q:Int)<(nn:Int):=by omega
         have HQN:=Lib.hid hqN
         clear hy hqN
         by_cases hyn:y=nm
         ·have hb2:=beqS_yes hyn
          have HSY:Hid (symsOf V N (q0:Int)=([256+(q:Int)],0)):=Lib.hid (symsOf_at HTK.out HSB.out (nameAt_some HQN.out (by rw[HY.out];exact hyn) HQ.out))
          have hq16:q<1048576:=by have:=HNB.out;omega
          have hwr:IntKind.i64.wrap (256+(q:Int))=256+(q:Int):=by rw[IntKind.wrap_i64];omega
          clear hyn
          go_wp2_with (fail)
          go_quiet (fail)
          obtain⟨wz,hwz⟩:∃wz,(wi.drewN nq0).drewN nq=wz:=⟨_,rfl⟩
          have HBZ:Hid (Below w0.heap.size w0 wz):=Lib.hid (by rw[←hwz];exact below_drewN HBQ.out _)
          rw[hwz]
          clear hwz
          go_wp2_with (fail)
          refine bodyPost_ret (v:= .tuple #[.slice (some ⟨wz.heap.size,0,none⟩) 1 1, .int .i64 0]) ?_ rfl ⟨⟨_,by rw[HSY.out],by rw[HSY.out];exact Own.mono (own_one wz _) (Nat.le_trans HB0.out.size HBZ.out.size)⟩,(HB0.out.trans (HBZ.out.mono HB0.out.size)).alloc (Nat.le_trans HB0.out.size HBZ.out.size) _⟩
          simp[results,Tryz.results39,go_sem]
         ·have hb2:=beqS_no hyn
          have HQ2:Hid (∀j,j<q+1→tk N j≠nm):=Lib.hid (fun j hj=>by
           by_cases e:j=q
           ·subst e;rw[HY.out];exact hyn
           ·exact HQ.out j (by omega))
          clear hyn
          go_wp2_with (fail)
          go_quiet (fail)
          go_wp2_with (fail)
          go_roundw
          case rel=>exact⟨q+1,_,by omega,by go_num,HQ2,rfl⟩
          case measure=>simp[intOf];omega
        ·have HSY:Hid (symsOf V N (q0:Int)=([],4)):=Lib.hid (symsOf_un HTK.out HSB.out (nameAt_none (fun j hj=>HQ.out j (by have:=HNL.out;omega))))
         obtain⟨wz,hwz⟩:∃wz,wi.drewN nq0=wz:=⟨_,rfl⟩
         rw[hwz]at HBQ ⊢
         clear hwz
         go_wp2_with (fail)
         refine bodyPost_ret (v:= .tuple #[.slice (some ⟨wz.heap.size,0,none⟩) 0 0, .int .i64 4]) ?_ rfl ⟨⟨_,by rw[HSY.out],by rw[HSY.out];exact Own.mono (own_made0 wz) (Nat.le_trans HB0.out.size HBQ.out.size)⟩,(HB0.out.trans (HBQ.out.mono HB0.out.size)).alloc (Nat.le_trans HB0.out.size HBQ.out.size) _⟩
         simp[results,Tryz.results39,go_sem]
      ·have hbid:(id != (q0:Int))=true:=by simpa using hid
       have hbid2:(id==(q0:Int))=false:=by simpa using hid
       have HK2:Hid (∀j,j<k+1→(sp V.specials j).id≠(q0:Int)):=Lib.hid (fun j hj=>by
        by_cases e:j=k
        ·subst e;rw[HSK.out];exact hid
        ·exact HK.out j (by omega))
       clear hid
       go_wp2_with (fail)
       go_roundw
       case rel=>exact⟨k+1,by omega,by go_num,HK2,HB.out⟩
       case measure=>simp[intOf];omega
     ·have HSY:Hid (symsOf V N (q0:Int)=([],3)):=Lib.hid (symsOf_none HTK.out (spBy_miss (fun j hj=>HK.out j (by have:=HCS.out;omega))))
      go_wp2_with (fail)
      refine bodyPost_ret (v:= .tuple #[.slice (some ⟨wr.heap.size,0,none⟩) 0 0, .int .i64 3]) ?_ rfl ⟨⟨_,by rw[HSY.out],by rw[HSY.out];exact Own.mono (own_made0 wr) (Nat.le_trans HB0.out.size HB.out.size)⟩,(HB0.out.trans (HB.out.mono HB0.out.size)).alloc (Nat.le_trans HB0.out.size HB.out.size) _⟩
      simp[results,Tryz.results39,go_sem]
   ·obtain⟨e1,e2,e3⟩:=strE_no hz
    obtain⟨s,hs⟩:∃s,tk V.tokens q0=s:=⟨_,rfl⟩
    have HSY:Hid (symsOf V N (q0:Int)=(bytesI s,0)):=Lib.hid (by rw[←hs];exact symsOf_yes (by rw[HF.out];simp[hz]))
    have hs64:s.size≤64:=by rw[←hs];exact HT.out _ (tk_mem (by have:=HCT.out;omega))
    rw[hs]at hc e1 e2 e3
    clear hz hs
    go_enter Tryz.func39,Tryz.ntmps39
    obtain⟨wm,hwm⟩:∃wm,w0.alloc (.cells #[] 3)=wm:=⟨_,rfl⟩
    have HWM:=Lib.hid hwm
    have HBM:Hid (Below w.heap.size w wm):=Lib.hid (by rw[←hwm];exact HB0.out.alloc HB0.out.size _)
    have HOM:Hid (Own wm w.heap.size (.slice (some ⟨w.heap.size+1,0,none⟩) 0 0) []):=Lib.hid (by
     have e:w.heap.size+1=w0.heap.size:=by rw[←HW0.out];simp
     rw[e,←hwm];exact Own.mono (own_made0 w0) HB0.out.size)
    have hc':=cell_below (below_alloc w0 (.cells #[] 3)) _ _ hc
    have b0':=cell_below (below_alloc w0 (.cells #[] 3)) _ _ b0
    rw[←HW0.out]at hc hc' b0'
    clear hwm
    go_wp2_with (fail)
    rw[HW0.out,HWM.out]
    clear e1 e2 e3 hc hc' b0' b0 b1 b2 b3 b4 b5 bf
    go_loopw [6,8] (fun v i wr=>∃k:Nat,k≤s.size∧i= .int .i64 k∧Own wr w.heap.size v ((bytesI s).take k)∧Below w.heap.size w wr) (fun _ i _=>s.size-(intOf i).toNat)
    case atStart=>exact⟨0,Nat.zero_le _,rfl,by simpa using HOM.out,HBM.out⟩
    case round=>
     obtain⟨k,hk,rfl,ho,hb⟩:=hrel
     have HO:=Lib.hid ho
     have HB:=Lib.hid hb
     clear ho hb
     by_cases hlt:k<s.size
     ·have HK:=Lib.hid (bytesI_succ hlt)
      have HL:Hid (((bytesI s).take k).length=k):=Lib.hid (by rw[List.length_take,bytesI_len];omega)
      obtain⟨x,hxx⟩:∃x:Int,(s[k].toNat:Int)=x:=⟨_,rfl⟩
      have HS1:Hid (SlI (wr.alloc (.cells #[.int .i64 x] 3)) (some ⟨wr.heap.size,0,none⟩) 1 1 [x]):=Lib.hid (SlI.one wr x _)
      have HO1:Hid (Own (wr.alloc (.cells #[.int .i64 x] 3)) w.heap.size u6 ((bytesI s).take k)):=Lib.hid (HO.out.alloc _)
      have HSZ:Hid (w.heap.size≤wr.heap.size):=Lib.hid HB.out.size
      rw[hxx]at HK
      have hx8:=s[k].toNat_lt
      have hwx:wrap64 x=x:=by rw[←hxx];unfold wrap64;omega
      go_wp2_with (at_builtin;go_loud (refine wpList_int_app rfl _ _ 43 rfl i0 Tryz.underlying43 hi hz0 hz1 hz2 rfl HO1.out rfl HS1.out (by have:=HL.out;omega) (by have:=HSZ.out;simp;omega) ?_))
      intro v1 w2 ho2 hg2 hb2
      rw[←HK.out]at ho2
      have HO2:=Lib.hid ho2
      have HB2:=Lib.hid ((HB.out.alloc HB.out.size _).trans hb2)
      clear ho2 hg2 hb2
      go_wp2_with (fail)
      go_roundw
      case rel=>exact⟨k+1,by omega,by go_num,HO2.out,HB2.out⟩
      case measure=>simp[intOf];omega
     ·obtain rfl:k=s.size:=by omega
      have HO2:=HO.out
      rw[List.take_of_length_le (by rw[bytesI_len];exact Nat.le_refl _)]at HO2
      have HO3:=Lib.hid HO2
      clear HO2
      go_wp2_with (fail)
      refine bodyPost_ret (v:= .tuple #[u6, .int .i64 0]) ?_ rfl ⟨⟨u6,by rw[HSY.out],by rw[HSY.out];exact HO3.out⟩,HB.out⟩
      simp[results,Tryz.results39,go_sem]
  ·have HTK:Hid (isTk V.tokens (q0:Int)=false):=Lib.hid (isTk_out (by have:=HCT.out;omega))
   go_enter Tryz.func39,Tryz.ntmps39
   go_wp2_with (fail)
   rw[HW0.out]
   go_wp2_with (fail)
   go_loopw [55] (fun i wr=>∃k:Nat,k≤sn∧i= .int .i64 k∧Hid (∀j,j<k→(sp V.specials j).id≠(q0:Int))∧Below w0.heap.size w0 wr) (fun i _=>sn-(intOf i).toNat)
   case atStart=>exact⟨0,Nat.zero_le _,rfl,Lib.hid (fun j h=>by omega),Below.refl _ _⟩
   case round=>
    obtain⟨k,hk,rfl,HK,hb⟩:=hrel
    have HB:=Lib.hid hb
    obtain⟨b0,b1,b2,b3,b4,b5,bf⟩:=box6 ((hb.block w.heap.size HSZ1.out).trans HX0.out)
    clear hb
    by_cases hlt:k<sn
    ·have hkS:k<V.specials.length:=by have:=HCS.out;omega
     obtain⟨b,of,hao,hce⟩:=(HV.out.below HB.out).spc.elem Sp.enc_len (by omega) (sp_eq hkS)
     simp only at hao
     subst hao
     obtain⟨⟨nm,id⟩,hseq⟩:∃m,sp V.specials k=m:=⟨_,rfl⟩
     rw[hseq]at hce
     have d0:=hce 0 _ rfl
     have d1:=hce 1 _ rfl
     rw[Nat.add_zero]at d0
     simp only at d0 d1
     have HSK:=Lib.hid hseq
     have gk:(k:Int)<(sn:Int):=by omega
     clear hce hseq
     by_cases hid:id=(q0:Int)
     ·have hbid:(id != (q0:Int))=false:=by simpa using hid
      have hbid2:(id==(q0:Int))=true:=by simpa using hid
      have HSB:Hid (spBy V.specials (q0:Int)=some ⟨nm,id⟩):=Lib.hid (by rw[←HSK.out];exact spBy_hit hkS (by rw[HSK.out];exact hid) HK.out)
      clear hid
      obtain⟨wi,rfl⟩:∃wi:World,wi=wr:=⟨_,rfl⟩
      go_wp2_with (fail)
      go_loopw [70] (fun i wr=>∃q nq:Nat,q≤nn∧i= .int .i64 q∧Hid (∀j,j<q→tk N j≠nm)∧wr=wi.drewN nq) (fun i _=>nn-(intOf i).toNat)
      case atStart=>exact⟨0,0,Nat.zero_le _,rfl,Lib.hid (fun j h=>by omega),rfl⟩
      case round=>
       obtain⟨q,nq0,hq,rfl,HQ,rfl⟩:=hrel
       have HBQ:Hid (Below w0.heap.size w0 (wi.drewN nq0)):=Lib.hid (below_drewN HB.out _)
       by_cases hltq:q<nn
       ·have hqN:q<N.length:=by have:=HNL.out;omega
        obtain⟨b',of',hao,hc⟩:=SlS.cell (Sl.below HN.out HB.out) (tk_eq hqN)
        subst hao
        obtain⟨y,hy⟩:∃y,tk N q=y:=⟨_,rfl⟩
        rw[hy]at hc
        have HY:=Lib.hid hy
        have gq:(q:Int)<(nn:Int):=by omega
        have HQN:=Lib.hid hqN
        clear hy hqN
        by_cases hyn:y=nm
        ·have hb2:=beqS_yes hyn
         have HSY:Hid (symsOf V N (q0:Int)=([256+(q:Int)],0)):=Lib.hid (symsOf_at HTK.out HSB.out (nameAt_some HQN.out (by rw[HY.out];exact hyn) HQ.out))
         have hq16:q<1048576:=by have:=HNB.out;omega
         have hwr:IntKind.i64.wrap (256+(q:Int))=256+(q:Int):=by rw[IntKind.wrap_i64];omega
         clear hyn
         go_wp2_with (fail)
         go_quiet (fail)
         obtain⟨wz,hwz⟩:∃wz,(wi.drewN nq0).drewN nq=wz:=⟨_,rfl⟩
         have HBZ:Hid (Below w0.heap.size w0 wz):=Lib.hid (by rw[←hwz];exact below_drewN HBQ.out _)
         rw[hwz]
         clear hwz
         go_wp2_with (fail)
         refine bodyPost_ret (v:= .tuple #[.slice (some ⟨wz.heap.size,0,none⟩) 1 1, .int .i64 0]) ?_ rfl ⟨⟨_,by rw[HSY.out],by rw[HSY.out];exact Own.mono (own_one wz _) (Nat.le_trans HB0.out.size HBZ.out.size)⟩,(HB0.out.trans (HBZ.out.mono HB0.out.size)).alloc (Nat.le_trans HB0.out.size HBZ.out.size) _⟩
         simp[results,Tryz.results39,go_sem]
        ·have hb2:=beqS_no hyn
         have HQ2:Hid (∀j,j<q+1→tk N j≠nm):=Lib.hid (fun j hj=>by
          by_cases e:j=q
          ·subst e;rw[HY.out];exact hyn
          ·exact HQ.out j (by omega))
         clear hyn
         go_wp2_with (fail)
         go_quiet (fail)
         go_wp2_with (fail)
         go_roundw
         case rel=>exact⟨q+1,_,by omega,by go_num,HQ2,rfl⟩
         case measure=>simp[intOf];omega
       ·have HSY:Hid (symsOf V N (q0:Int)=([],4)):=Lib.hid (symsOf_un HTK.out HSB.out (nameAt_none (fun j hj=>HQ.out j (by have:=HNL.out;omega))))
        obtain⟨wz,hwz⟩:∃wz,wi.drewN nq0=wz:=⟨_,rfl⟩
        rw[hwz]at HBQ ⊢
        clear hwz
        go_wp2_with (fail)
        refine bodyPost_ret (v:= .tuple #[.slice (some ⟨wz.heap.size,0,none⟩) 0 0, .int .i64 4]) ?_ rfl ⟨⟨_,by rw[HSY.out],by rw[HSY.out];exact Own.mono (own_made0 wz) (Nat.le_trans HB0.out.size HBQ.out.size)⟩,(HB0.out.trans (HBQ.out.mono HB0.out.size)).alloc (Nat.le_trans HB0.out.size HBQ.out.size) _⟩
        simp[results,Tryz.results39,go_sem]
     ·have hbid:(id != (q0:Int))=true:=by simpa using hid
      have hbid2:(id==(q0:Int))=false:=by simpa using hid
      have HK2:Hid (∀j,j<k+1→(sp V.specials j).id≠(q0:Int)):=Lib.hid (fun j hj=>by
       by_cases e:j=k
       ·subst e;rw[HSK.out];exact hid
       ·exact HK.out j (by omega))
      clear hid
      go_wp2_with (fail)
      go_roundw
      case rel=>exact⟨k+1,by omega,by go_num,HK2,HB.out⟩
      case measure=>simp[intOf];omega
    ·have HSY:Hid (symsOf V N (q0:Int)=([],3)):=Lib.hid (symsOf_none HTK.out (spBy_miss (fun j hj=>HK.out j (by have:=HCS.out;omega))))
     go_wp2_with (fail)
     refine bodyPost_ret (v:= .tuple #[.slice (some ⟨wr.heap.size,0,none⟩) 0 0, .int .i64 3]) ?_ rfl ⟨⟨_,by rw[HSY.out],by rw[HSY.out];exact Own.mono (own_made0 wr) (Nat.le_trans HB0.out.size HB.out.size)⟩,(HB0.out.trans (HB.out.mono HB0.out.size)).alloc (Nat.le_trans HB0.out.size HB.out.size) _⟩
     simp[results,Tryz.results39,go_sem]
open Go
theorem BestOf.up {seen:List Fr} {s:List Int} {best most:Int} (h:BestOf seen s best most) {r:Fr} (hb:begins s r.1=true) (hm:most<(r.1.length:Int)):BestOf (seen++ [r]) s r.2 (r.1.length:Int):=by
 refine .inr ⟨r,by simp,hb,rfl,rfl,fun q hq hqb=> ?_⟩
 rcases List.mem_append.1 hq with hq | hq
 ·rcases h with⟨_,_,h3⟩ | ⟨r0,_,_,_,h4,h5⟩
  ·rw[h3 q hq]at hqb;cases hqb
  ·have:=h5 q hq hqb
   omega
 ·simp at hq;rw[hq];exact Nat.le_refl _
theorem BestOf.no {seen:List Fr} {s:List Int} {best most:Int} (h:BestOf seen s best most) {r:Fr} (hb:begins s r.1=false):BestOf (seen++ [r]) s best most:=by
 rcases h with⟨h1,h2,h3⟩ | ⟨r0,h1,h2,h3,h4,h5⟩
 ·refine .inl ⟨h1,h2,fun q hq=> ?_⟩
  rcases List.mem_append.1 hq with hq | hq
  ·exact h3 q hq
  ·simp at hq;rw[hq];exact hb
 ·refine .inr ⟨r0,by simp[h1],h2,h3,h4,fun q hq hqb=> ?_⟩
  rcases List.mem_append.1 hq with hq | hq
  ·exact h5 q hq hqb
  ·simp at hq;rw[hq,hb]at hqb;cases hqb
structure CR (w:World) (dd:Vd) (no:Option Addr) (nn nc:Nat) (V:Vc) (N:List ByteArray):Prop where
 voc:VocR w dd V
 names:SlS w no nn nc N
 t64:∀s∈V.tokens,s.size≤64
 n16:nn≤16
 sp:V.specials.length≤1048576
 tk:V.tokens.length≤1048576
theorem CR.below {w w':World} {dd:Vd} {no:Option Addr} {nn nc:Nat} {V:Vc} {N:List ByteArray} (h:CR w dd no nn nc V N) (hb:Below w.heap.size w w'):CR w' dd no nn nc V N:=
 ⟨h.voc.below hb,Sl.below h.names hb,h.t64,h.n16,h.sp,h.tk⟩
def cVal (dd:Vd) (no:Option Addr) (nn nc:Nat) (kind:Int) (to_:Option Addr) (tn tc:Nat):Value:=
 .agg #[.slice dd.ta dd.tn dd.tc, .slice dd.ma dd.mn dd.mc, .slice dd.sa dd.sn dd.sc, .slice no nn nc, .int .i64 kind, .slice to_ tn tc]
theorem rsym_c {V:Vc} {N:List ByteArray} {dd:Vd} {no to_:Option Addr} {nn nc tn' tc':Nat} {kind:Int} (t:Int) (w:World) (h:CR w dd no nn nc V N):
  Calls Tryz.prog 39 #[cVal dd no nn nc kind to_ tn' tc', .int .i64 t] w (SymPost V N t w):=
 rsymbols_calls t w h.voc h.names h.t64 h.n16 h.sp h.tk
end Go.Proofs.YtimkkkdabmhedaaGreatDoor
