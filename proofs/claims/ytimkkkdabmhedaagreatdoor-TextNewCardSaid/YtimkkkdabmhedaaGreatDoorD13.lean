/- The frame for laws that read the table that the program lays: from what is laid to its cells; the law's lift. -/
import Derived.Test.YtimkkkdabmhedaaGreatDoorD12
import Derived.Test.YtimkkkdabmhedaaGreatDoorD10
import Derived.LaidMore
import Derived.Stop.Joined
import Derived.ProofKit
set_option linter.unusedVariables false
set_option maxHeartbeats 2000000
set_option maxRecDepth 100000
namespace Go.Proofs.YtimkkkdabmhedaaGreatDoor
open Go.ChangeShapes Go.WideShapes Go.ChangeAt Go.RowKit Go.Joins Go.Deep
def usR:List Rg:=[⟨9,9,3⟩,⟨10,10,4⟩,⟨11,12,3⟩,⟨13,13,4⟩,⟨32,32,3⟩,⟨48,57,2⟩,⟨65,90,1⟩,⟨97,122,1⟩,⟨133,133,3⟩,⟨160,160,3⟩,⟨170,170,1⟩,⟨178,179,2⟩,⟨181,181,1⟩,⟨185,185,2⟩,⟨186,186,1⟩,⟨188,190,2⟩,⟨192,214,1⟩,⟨216,246,1⟩,⟨248,705,1⟩,⟨880,883,1⟩,⟨886,887,1⟩,⟨891,893,1⟩,⟨895,895,1⟩,⟨902,902,1⟩,⟨904,1013,1⟩,⟨1015,1153,1⟩,⟨1162,1327,1⟩,⟨1329,1366,1⟩,⟨1377,1415,1⟩,⟨1488,1514,1⟩,⟨1568,1610,1⟩,⟨1632,1641,2⟩,⟨2308,2361,1⟩,⟨2406,2415,2⟩,⟨3585,3632,1⟩,⟨4256,4351,1⟩,⟨4352,4680,1⟩,⟨5760,5760,3⟩,⟨7680,8124,1⟩,⟨8192,8202,3⟩,⟨8232,8233,3⟩,⟨8239,8239,3⟩,⟨8287,8287,3⟩,⟨8544,8584,2⟩,⟨12288,12288,3⟩,⟨12353,12438,1⟩,⟨12449,12538,1⟩,⟨19968,40959,1⟩,⟨44032,55203,1⟩,⟨65296,65305,2⟩,⟨131072,173791,1⟩]
def Rg.datum {H:Type} (r:Rg):DataW H:= .agg [.lit (.int .i64 r.lo), .lit (.int .i64 r.hi), .lit (.int .i64 r.cls)]
def tabOf (T:List Rg):List Rg:=if T= []then usR else T
theorem usR_datum:(Rows.laid_footbridge_class_usual:DataW Unit)= .agg (usR.map Rg.datum):=rfl
def laidU:List (String×DataW Unit):=[("footbridge/class.usual",Rows.laid_footbridge_class_usual)]
theorem gUsual:Tryz.prog.globalNamed "footbridge/class.usual" = some 0:=by kernel_rfl
theorem tUsual:(Tryz.prog.globals[0]?).map (·.type)=some 136:=by kernel_rfl
theorem usR_len:usR.length=51:=rfl
def Usu (w:World):Prop:=SlF 3 w (some ⟨0,0,none⟩) 51 51 (flat Rg.enc usR)
theorem Usu.below {w w':World} (h:Usu w) (hb:Below w.heap.size w w'):Usu w':=SlF.below h hb
theorem cell_take {l:List Value} {b j:Nat} {v:Value} (h:((((l.drop b).take 3).drop j).take 1)= [v]) (hj:j<3):l[b+j]?=some v:=by
 have:=congrArg (·[0]?) h
 simp only[List.getElem?_take,List.getElem?_drop,List.getElem?_cons_zero]at this
 simpa[hj]using this
theorem of_laid {W:World} (h:laidMetH Tryz.prog laidU W):Usu W:=by
 rw[MakeChecks.laidMetH_plain _ _ _ (by kernel_rfl)]at h
 obtain⟨ps,⟨g0,t0,cs0,f0,p0,q0,hg0,ht0,hv0,hd0,_,_⟩,_,_⟩:=h
 obtain rfl:=Option.some.inj (gUsual.symm.trans hg0)
 obtain rfl:=Option.some.inj (tUsual.symm.trans ht0)
 obtain⟨f0,f1,f2,hu,e0,e1,e2,hone⟩:=rgStruct
 obtain⟨xs,m1,rfl,hx1,hlen,hn,hel⟩:=DataW.trod_array Tryz.underlying136 hd0
 rw[cellsRg]at hel
 simp only[Prod.mk.injEq]at hx1
 have hx2:usR.map Rg.datum=xs.map (·.1):=by
  have:=hx1.1
  rw[usR_datum]at this
  simpa using this
 have hc:∀i,W.cell? ⟨0,i,none⟩=cs0[i]? :=fun i=>World.var?_cell gUsual hv0 i
 refine⟨rfl,Nat.le_refl _,by unfold maxLen;omega,by simp,fun i u hi=>⟨_,_,rfl,?_⟩⟩
 have hi1:=(List.getElem?_eq_some_iff.1 hi).1
 rw[flat_len Rg.enc_len,usR_len]at hi1
 rw[Nat.zero_add,hc]
 have hq:i / 3<51:=by omega
 have hr:usR[i / 3]?=some (rg usR (i / 3)):=rg_eq (by rw[usR_len];exact hq)
 have hu2:(Rg.enc (rg usR (i / 3)))[i % 3]?=some u:=by
  rw[←flat_at Rg.enc_len hr (Nat.mod_lt _ (by omega)),Nat.div_add_mod' i 3]
  exact hi
 have hxi:xs[i / 3]?=some (xs[i / 3]'(by omega)):=List.getElem?_eq_getElem _
 have hd:(xs[i / 3]'(by omega)).1=Rg.datum (rg usR (i / 3)):=by
  have:=congrArg (·[i / 3]?) hx2
  simp only[List.getElem?_map,hr,hxi,Option.map_some,Option.some.injEq]at this
  exact this.symm
 have ht:=hel (i / 3) hq
 rw[hxi]at ht
 obtain⟨ys,n,_,hy,hyl,hysz,hfs⟩:=DataW.trod_struct hu ht
 rw[hy]at hd
 match ys,hysz,hfs,hd with
 | [y0,y1,y2],_,hfs,hd=>
  simp only[Rg.datum,List.map_cons,List.map_nil,DataW.agg.injEq,List.cons.injEq,and_true]at hd
  obtain⟨d0,d1,d2⟩:=hd
  have r0:=hfs 0 f0 rfl
  have r1:=hfs 1 f1 rfl
  have r2:=hfs 2 f2 rfl
  obtain⟨o0,n0⟩:=hone_of hone 0 f0 rfl
  obtain⟨o1,n1⟩:=hone_of hone 1 f1 rfl
  obtain⟨o2,n2⟩:=hone_of hone 2 f2 rfl
  rw[o0,n0,e0]at r0
  rw[o1,n1,e1]at r1
  rw[o2,n2,e2]at r2
  obtain⟨k0,q0,rfl,_⟩:=DataW.trod_int Tryz.underlying3 (show DataW.trod _ _ _ _ _ _ _ _ _=some y0 from r0)
  obtain⟨k1,q1,rfl,_⟩:=DataW.trod_int Tryz.underlying3 (show DataW.trod _ _ _ _ _ _ _ _ _=some y1 from r1)
  obtain⟨k2,q2,rfl,_⟩:=DataW.trod_int Tryz.underlying3 (show DataW.trod _ _ _ _ _ _ _ _ _=some y2 from r2)
  simp only[DataW.lit.injEq,Lit.int.injEq,true_and]at d0 d1 d2
  subst d0 d1 d2
  have s0:=cell_take q0
  have s1:=cell_take q1
  have s2:=cell_take q2
  have hi3:i=i / 3*3+i % 3:=(Nat.div_add_mod' i 3).symm
  have hm3:i % 3<3:=Nat.mod_lt _ (by omega)
  rw[hi3]
  generalize i % 3=j at *
  match j,hm3,hu2 with
  | 0,_,hu2=>simp[Rg.enc]at hu2;subst hu2;rw[←Array.getElem?_toList];exact s0 (by omega)
  | 1,_,hu2=>simp[Rg.enc]at hu2;subst hu2;rw[←Array.getElem?_toList];exact s1 (by omega)
  | 2,_,hu2=>simp[Rg.enc]at hu2;subst hu2;rw[←Array.getElem?_toList];exact s2 (by omega)
theorem door_met (os:Os) (args:Array Value):laidMetH Tryz.prog laidU ((World.doorLaid Tryz.prog 400 os).forCall (fun _ _=>0) ⟨#[],args,[]⟩).memory:=
 laidMetH_of_parts3 (fuel:=8) (laidMet_of_run' 8 (by kernel_rfl) (by kernel_rfl)) (by kernel_rfl) (by kernel_rfl)
section
variable {H:Type} {enc:TypeId×Value→H}
theorem law_laid {C:Checked} {os:Os} {f:FuncId} {fn:Func} {s:ChangeSpec} {tb:TypeId} {L:List (String×DataW Unit)} (own:ownKnob C.prog.godebug=none) (started:os.Started)
  (noInit:C.prog.inits.idxOf? f=none) (hfn:C.prog.funcs[f]?=some fn) (hl:laidOutB C.prog=true) (hp:∀t∈fn.params.toList,C.prog.readableRec t=true∧t<C.prog.types.size)
  (hr:fn.resultTypes= #[tb]) (hb:C.prog.underlying tb=some .bool) (hv:s.vars= [])
  (hs:∀ds:List (DataW H),ds.length=fn.params.size→s.fn H ds= {results:=[.lit (.bool true)],args:=ds})
  (witness:∃(w:World) (tape:Tape) (i:Input),w.os=os∧(w.forCall tape i).Shaped C.prog∧i.vars= []∧Input.okWide C.prog (w.forCall tape i) .any w.heap.size f i∧
   ((s.pre enc C.prog fn [] false (w.forCall tape i).memory i.args∧laidMetH C.prog L (w.forCall tape i).memory)∧sizedMet enc C.prog fn (OpenSpec.ofChange s) false (w.forCall tape i).memory i.args)∧({}:Assume).holds C.prog (lone (Frame.enter C.prog f i.args .normal) [] (w.forCall tape i)))
  (walk:∀(W:World) (base:Nat) (args:Array Value) (ds:List (DataW H)) (p:List MemPlace),(∀(j:Nat) t v,fn.params[j]?=some t→args[j]?=some v→Value.okWide C.prog W .any base t v)→
   DataW.TrodAll enc C.prog W 0 (fun _=>true) true fn.params.toList args.toList ds p→laidMetH C.prog L W→Frame.Law C.prog f args W):
  ReturnsInHanded {} C os f .any (fun w args=>(s.pre enc C.prog fn [] false w args∧laidMetH C.prog L w)∧sizedMet enc C.prog fn (OpenSpec.ofChange s) false w args) (s.post enc C.prog fn false true false false):=by
 refine returnsInHanded_of_change_and (C:=C) (X:=fun w _=>laidMetH C.prog L w) (fun _ _ _ hh h=>h.of_heap hh) own started noInit hfn witness ?_
 intro W base args ds gs before hval hW _ _ hL _
 exact Frame.law_post hl hp hr hb hv hs hW (walk W base args ds _ hval hW.choose_spec.choose_spec.1 hL)
end
open Go.RowKit
theorem hlenU:usU.length=51:=by decide
theorem insTo_all:insTo usU 51=usR:=by
 have:(insTo usU 51).map (fun r=>(r.lo,r.hi,r.cls))=usR.map (fun r=>(r.lo,r.hi,r.cls)):=by decide +kernel
 exact(List.map_inj_right (f:=fun r:Rg=>(r.lo,r.hi,r.cls)) (fun a b h=>by cases a;cases b;simp only[Prod.mk.injEq]at h;obtain⟨rfl,rfl,rfl⟩:=h;rfl)).1 this
theorem table_calls (w:World):
  Calls Tryz.prog 58 #[] w fun e w'=>∃v,e= .returned v∧OwnF Rg.enc 3 93 w' w.heap.size v usR∧Below w.heap.size w w':=by
 obtain⟨i0,z0,hi,hz0,hz1,hz2,hz3⟩:=info_row infoRg
 have hus:=rusual_calls w
 go_enter Tryz.func58,Tryz.ntmps58
 go_wp2_with (fail)
 refine hus.mono ?_
 rintro e w1 ⟨v,rfl,ho,hb⟩
 obtain⟨uo,uc,rfl,hs⟩:=ho.sl
 rw[hlenU]at hs ⊢
 obtain⟨w0,hw0⟩:∃w0,w1.alloc (.cells #[] 93)=w0:=⟨_,rfl⟩
 have HU:Hid (SlF 3 w0 uo 51 uc (flat Rg.enc usU)):=Lib.hid (by rw[←hw0];exact hs.alloc _)
 have HB0:Hid (Below w.heap.size w w0):=Lib.hid (by rw[←hw0];exact hb.alloc hb.size _)
 have HOut:Hid (OwnF Rg.enc 3 93 w0 w.heap.size (.slice (some ⟨w1.heap.size,0,none⟩) 0 0) []):=Lib.hid (by rw[←hw0];exact OwnF.mono (OwnF.made0 w1) hb.size)
 have HW0:=Lib.hid hw0
 clear hus ho hb hs hw0
 go_wp2_with (fail)
 rw[HW0.out]
 go_loopw [2,10] (fun v i wr=>∃(k:Nat),k≤51∧i= .int .i64 k∧OwnF Rg.enc 3 93 wr w.heap.size v (insTo usU k)∧Below w0.heap.size w0 wr) (fun _ i _=>51-(intOf i).toNat)
 case atStart=>exact⟨0,Nat.zero_le _,rfl,HOut.out,Below.refl _ _⟩
 case round=>
  obtain⟨k5,hk5,rfl,ho5,hb5⟩:=hrel
  have HB5:=Lib.hid hb5
  obtain⟨S',hS'⟩:∃S',insTo usU k5=S':=⟨_,rfl⟩
  rw[hS']at ho5
  have HS':=Lib.hid hS'.symm
  have HSL':Hid (S'.length=k5):=Lib.hid (by rw[←hS'];exact insTo_len _ (by rw[hlenU];omega))
  obtain⟨vo,vc,rfl,hvs⟩:=ho5.sl
  rw[HSL'.out]at hvs
  have HVS:=Lib.hid hvs
  have HO5:=Lib.hid ho5
  rw[HSL'.out]at HO5 ⊢
  clear hb5 hvs ho5 hS'
  by_cases hlt5:k5<51
  ·obtain⟨b,of,rfl,hce⟩:=(HU.out.below HB5.out).elem Rg.enc_len (by omega) (rg_eq (t:=usU) (i:=k5) (by rw[hlenU];exact hlt5))
   obtain⟨⟨lo,hi',cl⟩,hseq⟩:∃m,rg usU k5=m:=⟨_,rfl⟩
   rw[hseq]at hce
   have d0:=hce 0 _ rfl
   have d1:=hce 1 _ rfl
   have d2:=hce 2 _ rfl
   rw[Nat.add_zero]at d0
   simp only at d0 d1 d2
   have HSK:=Lib.hid hseq
   have gk:(k5:Int)<51:=by omega
   clear hce hseq
   obtain⟨wi,rfl⟩:∃wi:World,wi=wr:=⟨_,rfl⟩
   go_wp2_with (fail)
   go_loopw [4] (fun i wr=>∃q nn:Nat,q≤k5∧i= .int .i64 q∧Hid (∀j,j<q→(rg S' j).lo<lo)∧wr=wi.drewN nn) (fun i _=>k5-(intOf i).toNat)
   case atStart=>exact⟨0,0,Nat.zero_le _,rfl,Lib.hid (fun j h=>by omega),rfl⟩
   case round=>
    obtain⟨q,nn,hq,rfl,HQ,rfl⟩:=hrel
    by_cases hltq:q<k5
    ·obtain⟨b',of',rfl,hce⟩:=HVS.out.elem Rg.enc_len (by omega) (rg_eq (t:=S') (i:=q) (by rw[HSL'.out];exact hltq))
     obtain⟨⟨plo,phi,pcl⟩,hseq⟩:∃m,rg S' q=m:=⟨_,rfl⟩
     rw[hseq]at hce
     have p0:=hce 0 _ rfl
     rw[Nat.add_zero]at p0
     simp only at p0
     have HSQ:=Lib.hid hseq
     have gq:decide ((q:Int)<(k5:Int))=true:=by simp;omega
     have gq2:decide (q<k5)=true:=by simpa using hltq
     clear hce hseq
     cases hbl:decide (plo<lo)with
     | true=>
      have HQ2:Hid (∀j,j<q+1→(rg S' j).lo<lo):=Lib.hid (fun j hj=>by
       by_cases e:j=q
       ·subst e;rw[HSQ.out];simpa using hbl
       ·exact HQ.out j (by omega))
      go_wp2_with (fail)
      go_quiet (fail)
      go_wp2_with (fail)
      go_roundw
      case rel=>exact⟨q+1,_,by omega,by go_num,HQ2,rfl⟩
      case measure=>simp[intOf];omega
     | false=>
      have HST:Hid (q=S'.length∨¬(rg S' q).lo<lo):=Lib.hid (.inr (by rw[HSQ.out];simpa using hbl))
      have hpl:¬plo<lo:=by simpa using hbl
      have hpl2:lo≤plo:=by omega
      go_wp2_with (fail)
      go_quiet (fail)
      clear hbl hpl hpl2 gq gq2 p0
      obtain⟨wq,hwq⟩:∃wq,(wi.drewN nn).drewN nq=wq:=⟨_,rfl⟩
      have HINS:Hid (S'.take q++⟨lo,hi',cl⟩::S'.drop q=insTo usU (k5+1)):=Lib.hid (by
       rw[insTo_succ (by rw[hlenU];omega),HSK.out,HS'.out]
       exact(insRg_at (by rw[←HS'.out,HSL'.out];omega) (fun j hj=>by rw[←HS'.out];exact HQ.out j hj) (by rw[←HS'.out];exact HST.out.imp_right (fun h=>by simp only[]at h ⊢;omega))).symm)
      have HLTk:Hid ((S'.take q).length=q):=Lib.hid (by rw[List.length_take,HSL'.out];omega)
      have HBQ:Hid (Below w0.heap.size w0 wq):=Lib.hid (by rw[←hwq];exact below_drewN (below_drewN HB5.out _) _)
      have hqi:Below wi.heap.size wi wq:=by rw[←hwq];exact below_drewN (below_drewN (Below.refl _ _) _) _
      have HMa:Hid (SlF 3 (wq.alloc (.cells #[] 93)) (some ⟨b',of',none⟩) k5 vc (flat Rg.enc S')):=Lib.hid ((HVS.out.below hqi).alloc _)
      have HMq:Hid (SlF 3 wq (some ⟨b',of',none⟩) k5 vc (flat Rg.enc S')):=Lib.hid (HVS.out.below hqi)
      have HOa:Hid (OwnF Rg.enc 3 93 (wq.alloc (.cells #[] 93)) wq.heap.size (.slice (some ⟨wq.heap.size,0,none⟩) 0 0) []):=Lib.hid (OwnF.made0 wq)
      have e0:=cell_below hqi _ _ d0
      have e1:=cell_below hqi _ _ d1
      have e2:=cell_below hqi _ _ d2
      rw[hwq]
      clear hwq hqi d0 d1 d2
      go_wp2_with (first
       | (refine wpList_flat_high (enc:=Rg.enc) rfl _ _ _ rfl i0 Tryz.underlying27 hi Rg.enc_len rfl HMa.out rfl (k:=q) rfl (by omega) ?_;intro hs1)
       | (at_builtin;go_loud (refine wpList_flat_app rfl _ _ 27 rfl i0 z0 24 Tryz.underlying27 hi hz0 hz1 hz2 hz3 Rg.enc_len (by omega) Rg.enc_one rfl HOa.out rfl hs1 (by unfold maxLen;simp only[List.length_nil];omega) (by simp only[List.length_nil];omega) (by simp) ?_)))
      intro v1 wb ho1 hg1' hb1
      have hb1':=(below_alloc wq (.cells #[] 93)).trans hb1
      have HB1':=Lib.hid hb1'
      have f0:=cell_below hb1' _ _ e0
      have f1:=cell_below hb1' _ _ e1
      have f2:=cell_below hb1' _ _ e2
      have HOb:Hid (OwnF Rg.enc 3 93 (wb.alloc (.cells #[.int .i64 lo, .int .i64 hi', .int .i64 cl] 93)) wq.heap.size v1 (S'.take q)):=Lib.hid (ho1.alloc _)
      have HSb:Hid (SlF 3 (wb.alloc (.cells #[.int .i64 lo, .int .i64 hi', .int .i64 cl] 93)) (some ⟨wb.heap.size,0,none⟩) 1 1 (flat Rg.enc [⟨lo,hi',cl⟩])):=Lib.hid (SlF.one Rg.enc_len wb ⟨lo,hi',cl⟩ 93 (cs:=#[.int .i64 lo, .int .i64 hi', .int .i64 cl]) rfl)
      have HSZ':Hid (wq.heap.size≤wb.heap.size):=Lib.hid hb1'.size
      clear ho1 hg1' hb1 hb1' e0 e1 e2
      go_wp2_with (at_builtin;go_loud (refine wpList_flat_app rfl _ _ 27 rfl i0 z0 24 Tryz.underlying27 hi hz0 hz1 hz2 hz3 Rg.enc_len (by omega) Rg.enc_one rfl HOb.out rfl HSb.out (by have:=HLTk.out;unfold maxLen;omega) (by have:=HLTk.out;omega) (by have:=HSZ'.out;simp;omega) ?_))
      intro v2 wc ho2 hg2 hb2
      have hb2':=(HB1'.out.alloc HB1'.out.size _).trans hb2
      have HB2':=Lib.hid hb2'
      have HMc:Hid (SlF 3 wc (some ⟨b',of',none⟩) k5 vc (flat Rg.enc S')):=Lib.hid (HMq.out.below hb2')
      have HOc:=Lib.hid ho2
      have HSZ2:Hid (wq.heap.size≤wc.heap.size):=Lib.hid hb2'.size
      clear ho2 hg2 hb2 hb2' f0 f1 f2
      go_wp2_with (first
       | (refine wpList_flat_low (enc:=Rg.enc) rfl _ _ _ rfl i0 Tryz.underlying27 hi hz1 Rg.enc_len rfl HMc.out rfl (k:=q) rfl (by omega) ?_;intro ao' hs3 hao3)
       | (at_builtin;go_loud (refine wpList_flat_app rfl _ _ 27 rfl i0 z0 24 Tryz.underlying27 hi hz0 hz1 hz2 hz3 Rg.enc_len (by omega) Rg.enc_one rfl HOc.out rfl hs3 (by have:=HLTk.out;unfold maxLen;rw[List.length_append];simp only[List.length_singleton];omega) (by have:=HLTk.out;rw[List.length_append];simp only[List.length_singleton];omega) HSZ2.out ?_)))
      intro v3 wd ho3 hg3 hb3
      have HO9:=Lib.hid (ho3.mono (Nat.le_trans HB0.out.size HBQ.out.size))
      rw[HINS.out]at HO9
      have HB9:=Lib.hid (HBQ.out.trans ((HB2'.out.trans hb3).mono HBQ.out.size))
      clear ho3 hg3 hb3
      go_wp2_with (fail)
      go_roundw
      case rel=>exact⟨k5+1,by omega,by go_num,HO9.out,HB9.out⟩
      case measure=>simp[intOf];omega
    ·obtain rfl:q=k5:=by omega
     have HST:Hid (q=S'.length∨¬(rg S' q).lo<lo):=Lib.hid (.inl HSL'.out.symm)
     have gq:decide ((q:Int)<(q:Int))=false:=by simp
     have gq2:decide (q<q)=false:=by simp
     go_wp2_with (fail)
     go_quiet (fail)
     clear gq gq2
     obtain⟨wq,hwq⟩:∃wq,(wi.drewN nn).drewN nq=wq:=⟨_,rfl⟩
     have HINS:Hid (S'.take q++⟨lo,hi',cl⟩::S'.drop q=insTo usU (q+1)):=Lib.hid (by
      rw[insTo_succ (by rw[hlenU];omega),HSK.out,HS'.out]
      exact(insRg_at (by rw[←HS'.out,HSL'.out];omega) (fun j hj=>by rw[←HS'.out];exact HQ.out j hj) (by rw[←HS'.out];exact HST.out.imp_right (fun h=>by simp only[]at h ⊢;omega))).symm)
     have HLTk:Hid ((S'.take q).length=q):=Lib.hid (by rw[List.length_take,HSL'.out];omega)
     have HBQ:Hid (Below w0.heap.size w0 wq):=Lib.hid (by rw[←hwq];exact below_drewN (below_drewN HB5.out _) _)
     have hqi:Below wi.heap.size wi wq:=by rw[←hwq];exact below_drewN (below_drewN (Below.refl _ _) _) _
     have HMa:Hid (SlF 3 (wq.alloc (.cells #[] 93)) vo q vc (flat Rg.enc S')):=Lib.hid ((HVS.out.below hqi).alloc _)
     have HMq:Hid (SlF 3 wq vo q vc (flat Rg.enc S')):=Lib.hid (HVS.out.below hqi)
     have HOa:Hid (OwnF Rg.enc 3 93 (wq.alloc (.cells #[] 93)) wq.heap.size (.slice (some ⟨wq.heap.size,0,none⟩) 0 0) []):=Lib.hid (OwnF.made0 wq)
     have e0:=cell_below hqi _ _ d0
     have e1:=cell_below hqi _ _ d1
     have e2:=cell_below hqi _ _ d2
     rw[hwq]
     clear hwq hqi d0 d1 d2
     go_wp2_with (first
      | (refine wpList_flat_high (enc:=Rg.enc) rfl _ _ _ rfl i0 Tryz.underlying27 hi Rg.enc_len rfl HMa.out rfl (k:=q) rfl (by omega) ?_;intro hs1)
      | (at_builtin;go_loud (refine wpList_flat_app rfl _ _ 27 rfl i0 z0 24 Tryz.underlying27 hi hz0 hz1 hz2 hz3 Rg.enc_len (by omega) Rg.enc_one rfl HOa.out rfl hs1 (by unfold maxLen;simp only[List.length_nil];omega) (by simp only[List.length_nil];omega) (by simp) ?_)))
     intro v1 wb ho1 hg1' hb1
     have hb1':=(below_alloc wq (.cells #[] 93)).trans hb1
     have HB1':=Lib.hid hb1'
     have f0:=cell_below hb1' _ _ e0
     have f1:=cell_below hb1' _ _ e1
     have f2:=cell_below hb1' _ _ e2
     have HOb:Hid (OwnF Rg.enc 3 93 (wb.alloc (.cells #[.int .i64 lo, .int .i64 hi', .int .i64 cl] 93)) wq.heap.size v1 (S'.take q)):=Lib.hid (ho1.alloc _)
     have HSb:Hid (SlF 3 (wb.alloc (.cells #[.int .i64 lo, .int .i64 hi', .int .i64 cl] 93)) (some ⟨wb.heap.size,0,none⟩) 1 1 (flat Rg.enc [⟨lo,hi',cl⟩])):=Lib.hid (SlF.one Rg.enc_len wb ⟨lo,hi',cl⟩ 93 (cs:=#[.int .i64 lo, .int .i64 hi', .int .i64 cl]) rfl)
     have HSZ':Hid (wq.heap.size≤wb.heap.size):=Lib.hid hb1'.size
     clear ho1 hg1' hb1 hb1' e0 e1 e2
     go_wp2_with (at_builtin;go_loud (refine wpList_flat_app rfl _ _ 27 rfl i0 z0 24 Tryz.underlying27 hi hz0 hz1 hz2 hz3 Rg.enc_len (by omega) Rg.enc_one rfl HOb.out rfl HSb.out (by have:=HLTk.out;unfold maxLen;omega) (by have:=HLTk.out;omega) (by have:=HSZ'.out;simp;omega) ?_))
     intro v2 wc ho2 hg2 hb2
     have hb2':=(HB1'.out.alloc HB1'.out.size _).trans hb2
     have HB2':=Lib.hid hb2'
     have HMc:Hid (SlF 3 wc vo q vc (flat Rg.enc S')):=Lib.hid (HMq.out.below hb2')
     have HOc:=Lib.hid ho2
     have HSZ2:Hid (wq.heap.size≤wc.heap.size):=Lib.hid hb2'.size
     clear ho2 hg2 hb2 hb2' f0 f1 f2
     go_wp2_with (first
      | (refine wpList_flat_low (enc:=Rg.enc) rfl _ _ _ rfl i0 Tryz.underlying27 hi hz1 Rg.enc_len rfl HMc.out rfl (k:=q) rfl (by omega) ?_;intro ao' hs3 hao3)
      | (at_builtin;go_loud (refine wpList_flat_app rfl _ _ 27 rfl i0 z0 24 Tryz.underlying27 hi hz0 hz1 hz2 hz3 Rg.enc_len (by omega) Rg.enc_one rfl HOc.out rfl hs3 (by have:=HLTk.out;unfold maxLen;rw[List.length_append];simp only[List.length_singleton];omega) (by have:=HLTk.out;rw[List.length_append];simp only[List.length_singleton];omega) HSZ2.out ?_)))
     intro v3 wd ho3 hg3 hb3
     have HO9:=Lib.hid (ho3.mono (Nat.le_trans HB0.out.size HBQ.out.size))
     rw[HINS.out]at HO9
     have HB9:=Lib.hid (HBQ.out.trans ((HB2'.out.trans hb3).mono HBQ.out.size))
     clear ho3 hg3 hb3
     go_wp2_with (fail)
     go_roundw
     case rel=>exact⟨q+1,by omega,by go_num,HO9.out,HB9.out⟩
     case measure=>simp[intOf];omega
  ·obtain rfl:k5=51:=by omega
   have HO9:Hid (OwnF Rg.enc 3 93 wr w.heap.size (.slice vo 51 vc) usR):=Lib.hid (by
    have h:=HO5.out
    rw[HS'.out,insTo_all]at h
    exact h)
   go_wp2_with (fail)
   go_ret
   exact⟨_,rfl,HO9.out,HB0.out.trans (HB5.out.mono HB0.out.size)⟩
end Go.Proofs.YtimkkkdabmhedaaGreatDoor
