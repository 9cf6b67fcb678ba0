/- Walk: pair.New: a vocabulary's table of pairs. -/
import Derived.Test.YtimkkkdabmhedaaGreatDoorD15
import Derived.Test.YtimkkkdabmhedaaGreatDoorD11
import Derived.Test.YtimkkkdabmhedaaGreatDoorD9
set_option linter.unusedVariables false
set_option maxHeartbeats 2000000
set_option maxRecDepth 100000
namespace Go.Proofs.YtimkkkdabmhedaaGreatDoor
open Go.RowKit
abbrev MapP (w:World) (mb sz:Nat) (f:Int×Int→Option Int):Prop:=MapK twoViewP 3 w mb sz f
theorem KeepG.grownMap {g:Nat} {w w' w'':World} (h:KeepG g w w') (hg:w'.drew.grownBy w'' (some g)):KeepG g w w'':=
 ⟨Nat.le_trans h.size hg.size,fun q h1 h2=>(hg.block q (Nat.lt_of_lt_of_le h1 h.size) (by simp;omega)).trans (h.block q h1 h2)⟩
def atM (M:List Mg):Nat→Int×Int→Option Int
 | 0=>fun _=>none
 | k+1=>fun s=>if s=((mg M k).left,(mg M k).right)then some (k:Int)else atM M k s
theorem atM_succ (M:List Mg) (k:Nat):atM M (k+1)=fun s=>if s=((mg M k).left,(mg M k).right)then some (k:Int)else atM M k s:=rfl
theorem atM_some {M:List Mg}:∀{k:Nat} {s:Int×Int} {i:Int},atM M k s=some i→∃j,j<k∧i=(j:Int)∧s=((mg M j).left,(mg M j).right)
 | 0,_,_,h=>by cases h
 | k+1,s,i,h=>by
  rw[atM_succ]at h
  simp only at h
  split at h
  ·next e=>exact⟨k,by omega,by simpa using h.symm,e⟩
  ·obtain⟨j,h1,h2,h3⟩:=atM_some h
   exact⟨j,by omega,h2,h3⟩
theorem atM_none {M:List Mg}:∀{k:Nat} {s:Int×Int},atM M k s=none→∀j,j<k→s≠((mg M j).left,(mg M j).right)
 | 0,_,_=>fun j hj=>by omega
 | k+1,s,h=>fun j hj e=>by
  rw[atM_succ]at h
  simp only at h
  split at h
  ·cases h
  ·next e2=>
   by_cases e3:j=k
   ·exact e2 (e3▸e)
   ·exact atM_none h j (by omega) e
theorem atM_len {w:World} {mb sz k:Nat} {M:List Mg} (h:MapP w mb sz (atM M k)) (e:M.length=k):MapP w mb sz (atM M M.length):=by rw[e];exact h
structure PTab (w:World) (base g:Nat) (M:List Mg):Prop where
 lo:base≤g
 tab:∃mo mc mb sz,w.heap[g]?=some (.cells #[.slice mo M.length mc, .map (some mb)] 169)∧OwnF Mg.enc 4 165 w base (.slice mo M.length mc) M∧MapP w mb sz (atM M M.length)∧base≤mb∧mb<w.heap.size
def PairPost (V:Vc) (w:World) (e:Ending) (w':World):Prop:=
 ((¬May V∧e= .returned (.tuple #[.pointer none, .int .i64 2]))∨(May V∧∃g,e= .returned (.tuple #[.pointer (some ⟨g,0,none⟩), .int .i64 0])∧PTab w' w.heap.size g V.merges))∧Below w.heap.size w w'
theorem pairNew_calls {V : Vc} {dd : Vd} (w : World) (hV : VocR w dd V) (hok : VOk V) :
    Calls Tryz.prog 77 #[dd.val] w (PairPost V w) := by
  obtain ⟨ta, tn, tc, ma, mn, mc, sa, sn, sc⟩ := dd
  obtain ⟨w0, hw0⟩ : ∃ w0, w.alloc (.cells #[.slice ta tn tc, .slice ma mn mc, .slice sa sn sc] 26) = w0 := ⟨_, rfl⟩
  have hb0 : Below w.heap.size w w0 := hw0 ▸ below_alloc w _
  have hx0 : w0.heap[w.heap.size]? = some (.cells #[.slice ta tn tc, .slice ma mn mc, .slice sa sn sc] 26) := by rw [← hw0]; exact heap_alloc_new w _
  have hs0 : w.heap.size < w0.heap.size := by rw [← hw0]; simp
  obtain ⟨c0, c1, c2⟩ := box3v hx0
  have HV := Lib.hid (hV.below hb0)
  have HB0 := Lib.hid hb0
  have HX0 := Lib.hid hx0
  have HW0 := Lib.hid hw0
  have hm := Nat.le_trans hV.mrg.le hV.mrg.max
  simp only at hm
  unfold maxLen at hm
  have HLM := Lib.hid (hV.mrg.count Mg.enc_len (by omega))
  have hmay := may_calls (dd := ⟨ta, tn, tc, ma, mn, mc, sa, sn, sc⟩) w0 HV.out hok
  clear hV hb0 hx0 hw0
  go_enter Tryz.func77, Tryz.ntmps77
  go_wp2_with (fail)
  rw [HW0.out]
  refine hmay.mono ?_
  rintro e w1 ⟨⟨b, rfl, hi⟩, hb1⟩
  have HB1 := Lib.hid hb1
  have HI := Lib.hid hi
  clear c0 c1 c2
  obtain ⟨c0, c1, c2⟩ := box3v ((HB1.out.block w.heap.size hs0).trans HX0.out)
  clear hb1 hi hmay
  cases b with
  | false =>
    have HF := Lib.hid (no_of HI.out rfl)
    go_wp2_with (fail)
    refine bodyPost_ret (v := .tuple #[.pointer none, .int .i64 2]) ?_ rfl ⟨.inl ⟨HF.out, rfl⟩, HB0.out.trans (HB1.out.mono HB0.out.size)⟩
    simp [results, Tryz.results77, go_sem]
  | true =>
    have HM := Lib.hid (HI.out.1 rfl)
    have hmn : mn ≤ 16384 := by have h1 := HM.out.2.1.1; have := HLM.out; omega
    have hcl := cloneMg_calls w1 ((HV.out.below HB1.out).mrg) (by show mn ≤ 1048576; omega)
    go_wp2_with (fail)
    refine hcl.mono ?_
    rintro e w2 ⟨v2, rfl, ho2, hb2⟩
    obtain ⟨mo, mcc, rfl, _⟩ := ho2.sl
    have hml : V.merges.length = mn := HLM.out
    have HO2 := Lib.hid ho2
    rw [hml]
    have HML := Lib.hid hml
    have HB2 := Lib.hid (HB1.out.trans (hb2.mono HB1.out.size))
    clear c0 c1 c2
    obtain ⟨c0, c1, c2⟩ := box3v ((HB2.out.block w.heap.size hs0).trans HX0.out)
    obtain ⟨w3, hw3⟩ : ∃ w3, w2.alloc (.map #[] 0) = w3 := ⟨_, rfl⟩
    obtain ⟨w4, hw4⟩ : ∃ w4, w3.alloc (.cells #[.slice mo mn mcc, .map (some w2.heap.size)] 169) = w4 := ⟨_, rfl⟩
    have hb3 : Below w2.heap.size w2 w3 := hw3 ▸ below_alloc w2 _
    have hb4 : Below w3.heap.size w3 w4 := hw4 ▸ below_alloc w3 _
    have hs3 : w3.heap.size = w2.heap.size + 1 := by rw [← hw3]; simp
    have hx4 : w4.heap[w3.heap.size]? = some (.cells #[.slice mo mn mcc, .map (some w2.heap.size)] 169) := by rw [← hw4]; exact heap_alloc_new w3 _
    have hs4 : w3.heap.size < w4.heap.size := by rw [← hw4]; simp
    have HM0 : Hid (MapP w4 w2.heap.size 0 (fun _ => none)) := Lib.hid (MapK.below (by rw [← hw3]; exact MapK.new twoViewP 3 w2) hb4)
    have HB4 : Hid (Below w2.heap.size w2 w4) := Lib.hid (hb3.trans (hb4.mono (by omega)))
    have HX4 := Lib.hid hx4
    have HW3 := Lib.hid hw3
    have HW4 := Lib.hid hw4
    have HS3 := Lib.hid hs3
    have hmk := @run_makeMap Tryz.prog
    have hc1 := cell_below HB4.out _ _ c1
    rw [← hw4, ← hw3] at hc1
    have hgg : w2.heap.size + 1 = w3.heap.size := hs3.symm
    have HGG := Lib.hid hgg
    clear ho2 hml hb2 hb3 hb4 hx4 hw3 hw4 hcl hs3 hgg
    go_wp2_with (fail)
    rw [HW3.out, HW4.out, HGG.out]
    clear hc1 c0 c1 c2
    go_loopw [19] (fun i wr => ∃ (k sz : Nat), k ≤ mn ∧ i = .int .i64 k ∧ sz ≤ k ∧ MapP wr w2.heap.size sz (atM V.merges k) ∧ KeepG w2.heap.size w4 wr ∧ Below w2.heap.size w2 wr) (fun i _ => mn - (intOf i).toNat)
    case atStart => exact ⟨0, 0, Nat.zero_le _, rfl, Nat.le_refl _, HM0.out, KeepG.refl _ _, HB4.out⟩
    case round =>
      obtain ⟨k, sz, hk, rfl, hsz, hmp, hkp, hb⟩ := hrel
      have HMp := Lib.hid hmp
      have HKP := Lib.hid hkp
      have HB := Lib.hid hb
      have hxg := (hkp.block w3.heap.size hs4 (by have := HS3.out; omega)).trans HX4.out
      have hsg := Nat.lt_of_lt_of_le hs4 hkp.size
      have HXG := Lib.hid hxg
      clear hmp hkp hb
      by_cases hlt : k < mn
      · have hkM : k < V.merges.length := by have := HML.out; omega
        have HB02 : Hid (Below w0.heap.size w0 wr) := Lib.hid (HB2.out.trans (HB.out.mono HB2.out.size))
        obtain ⟨b, of, hao, hce⟩ := (HV.out.below HB02.out).mrg.elem Mg.enc_len (by omega) (mg_eq hkM)
        have hok1 := HM.out.2.1.2.1 _ (List.mem_of_getElem? (mg_eq hkM))
        obtain ⟨⟨l, r, o, d⟩, hseq⟩ : ∃ m, mg V.merges k = m := ⟨_, rfl⟩
        have HSEQ := Lib.hid hseq
        rw [hseq] at hce hok1
        obtain ⟨hl, hr, _⟩ := hok1
        have ⟨l0, l1, _⟩ := isTk_iff.1 hl
        have ⟨r0, r1, _⟩ := isTk_iff.1 hr
        have ht4 := HM.out.1.1
        simp only at hao l0 l1 r0 r1
        subst hao
        have hwl : (Lit.int .i64 l).wf = true := by rw [i64_wf]; omega
        have hwr : (Lit.int .i64 r).wf = true := by rw [i64_wf]; omega
        have hwk : (Lit.int .i64 (k : Int)).wf = true := by rw [i64_wf]; omega
        have d0 := hce 0 _ rfl
        have d1 := hce 1 _ rfl
        have d2 := hce 2 _ rfl
        have d3 := hce 3 _ rfl
        rw [Nat.add_zero] at d0
        simp only at d0 d1 d2 d3
        obtain ⟨wx, hwx⟩ : ∃ wx, wr.alloc (.cells #[.int .i64 l, .int .i64 r, .int .i64 o, .int .i64 d] 165) = wx := ⟨_, rfl⟩
        have hbx : Below wr.heap.size wr wx := hwx ▸ below_alloc wr _
        have hxx : wx.heap[wr.heap.size]? = some (.cells #[.int .i64 l, .int .i64 r, .int .i64 o, .int .i64 d] 165) := by rw [← hwx]; exact heap_alloc_new wr _
        obtain ⟨x0, x1, x2, x3⟩ := box4 hxx
        have hxg2 := (hbx.block w3.heap.size hsg).trans hxg
        obtain ⟨y0, y1⟩ : wx.cell? ⟨w3.heap.size, 0, none⟩ = some (.slice mo mn mcc) ∧ wx.cell? ⟨w3.heap.size, 1, none⟩ = some (.map (some w2.heap.size)) := by simp [World.cell?, hxg2]
        obtain ⟨w5, hup, hm5, hg5⟩ := MapK.update (V := twoViewP) (s := (l, r)) (c := (k : Int)) (P := Tryz.prog) (t := 167) (w := wx.drew) Tryz.underlying167 Tryz.underlying3 (MapK.below HMp.out (hbx.drew)) ⟨hwl, hwr⟩ hwk (by unfold maxLen; omega)
        have HWX := Lib.hid hwx
        have HBX : Hid (Below w2.heap.size w2 wx) := Lib.hid (HB.out.trans (hbx.mono HB.out.size))
        have HKX := Lib.hid (HKP.out.below hbx)
        clear hce hseq hwx hxx hxg hxg2 hbx hl hr l0 l1 r0 r1
        have hup2 : (Instr.mapUpdate 167 (.map (some w2.heap.size)) (.agg #[.int .i64 l, .int .i64 r]) (.int .i64 (k : Int))).run Tryz.prog wx.drew = .ok () w5 := hup
        have hm5b : MapP w5 w2.heap.size (if (atM V.merges k (l, r)).isSome then sz else sz + 1) (atM V.merges (k + 1)) := by rw [atM_succ, HSEQ.out]; exact hm5
        have HM5 := Lib.hid hm5b
        have HG5 := Lib.hid hg5
        clear hup hm5 hm5b hg5
        go_wp2_with (fail)
        rw [HWX.out]
        go_region
        all_goals (go_wp2_with (fail)
                   go_roundw
                   case rel => exact ⟨k + 1, _, by omega, by go_num, by split <;> omega, HM5.out, HKX.out.grownMap HG5.out, (HBX.out.drew).grown HG5.out HBX.out.size (fun q hq => by simp at hq; omega)⟩
                   case measure => simp [intOf]; omega)
      · go_wp2_with (fail)
        refine bodyPost_ret (v := .tuple #[.pointer (some ⟨w3.heap.size, 0, none⟩), .int .i64 0]) ?_ rfl ⟨.inr ⟨HM.out, w3.heap.size, rfl, ?_, ?_⟩, ?_⟩
        · simp [results, Tryz.results77, go_sem]
        · have := HB2.out.size; have := HB0.out.size; have := HS3.out; omega
        · refine ⟨mo, mcc, w2.heap.size, sz, by rw [HML.out]; exact hxg, OwnF.mono (OwnF.keepG (HO2.out.below HB4.out) HKP.out fun q hq => by have := (World.ownsRow.lt HO2.out q hq).2; omega) (by have := HB1.out.size; have := HB0.out.size; omega), atM_len HMp.out (by have := HML.out; omega), by have := HB2.out.size; have := HB0.out.size; omega, by have := HB.out.size; have := HS3.out; omega⟩
        · exact HB0.out.trans ((HB2.out.trans (HB.out.mono HB2.out.size)).mono HB0.out.size)
def ECs (T:List ByteArray) (tv:Value) (pg k:Nat) (cs:Array Value):Prop:=
 cs.size=258∧cs[0]?=some tv∧cs[1]?=some (.pointer (some ⟨pg,0,none⟩))∧∀i,i<k→cs[2+i]?=some (.int .i64 (ofT T (one i)))
theorem ECs.next {T:List ByteArray} {tv:Value} {pg k:Nat} {cs:Array Value} (h:Hid (ECs T tv pg k cs)) (hk:k<256):Hid (ECs T tv pg (k+1) (cs.setIfInBounds (2+k) (.int .i64 (ofT T (one k))))):=by
 obtain⟨h1,h2,h3,h4⟩:=h.out
 refine Lib.hid ⟨by simpa using h1,?_,?_,fun i hi=> ?_⟩
 ·rw[Array.getElem?_setIfInBounds_ne (by omega)];exact h2
 ·rw[Array.getElem?_setIfInBounds_ne (by omega)];exact h3
 ·by_cases e:i=k
  ·subst e
   rw[Array.getElem?_setIfInBounds_self_of_lt (by omega)]
  ·rw[Array.getElem?_setIfInBounds_ne (by omega)];exact h4 i (by omega)
theorem set_cellN {w:World} {g i:Nat} {cs:Array Value} {v:Value} {t:TypeId} (h:w.heap[g]?=some (.cells cs t)):(w.setCell ⟨g,i,none⟩ v).heap[g]?=some (.cells (cs.setIfInBounds i v) t):=by
 simp[World.setCell,Array.getElem?_modify,h]
theorem PTab.keep {w w':World} {base g:Nat} {M:List Mg} (h:PTab w base g M) (hk:∀q,base≤q→q<w.heap.size→w'.heap[q]?=w.heap[q]?) (hs:w.heap.size≤w'.heap.size):PTab w' base g M:=by
 obtain⟨lo,mo,mc,mb,sz,h1,h2,h3,h4,h5⟩:=h
 have hg:g<w.heap.size:=(Array.getElem?_eq_some_iff.1 h1).1
 exact⟨lo,mo,mc,mb,sz,(hk g lo hg).trans h1,own_stay h2 (fun q hq=>hk q (World.ownsRow.lt h2 q hq).1 (World.ownsRow.lt h2 q hq).2),MapK.stay h3 (hk mb h4 h5),h4,by omega⟩
theorem PTab.mono {w:World} {base base' g:Nat} {M:List Mg} (h:PTab w base g M) (hb:base'≤base):PTab w base' g M:=by
 obtain⟨lo,mo,mc,mb,sz,h1,h2,h3,h4,h5⟩:=h
 exact⟨by omega,mo,mc,mb,sz,h1,OwnF.mono h2 hb,h3,by omega,h5⟩
structure ECod (w:World) (base g:Nat) (V:Vc):Prop where
 lo:base≤g
 tab:∃cs to_ tcc pg,w.heap[g]?=some (.cells cs 130)∧ECs V.tokens (.slice to_ V.tokens.length tcc) pg 256 cs∧OwnF encS 1 9 w base (.slice to_ V.tokens.length tcc) V.tokens∧PTab w base pg V.merges
def EncPost (V:Vc) (w:World) (e:Ending) (w':World):Prop:=
 ((¬May V∧e= .returned (.tuple #[.pointer none, .int .i64 2]))∨(May V∧∃g,e= .returned (.tuple #[.pointer (some ⟨g,0,none⟩), .int .i64 0])∧ECod w' w.heap.size g V))∧Below w.heap.size w w'
theorem encNew_calls {V : Vc} {dd : Vd} (w : World) (hV : VocR w dd V) (hok : VOk V) :
    Calls Tryz.prog 46 #[dd.val] w (EncPost V w) := by
  obtain ⟨ta, tn, tc, ma, mn, mc, sa, sn, sc⟩ := dd
  obtain ⟨w0, hw0⟩ : ∃ w0, w.alloc (.cells #[.slice ta tn tc, .slice ma mn mc, .slice sa sn sc] 26) = w0 := ⟨_, rfl⟩
  have hb0 : Below w.heap.size w w0 := hw0 ▸ below_alloc w _
  have hx0 : w0.heap[w.heap.size]? = some (.cells #[.slice ta tn tc, .slice ma mn mc, .slice sa sn sc] 26) := by rw [← hw0]; exact heap_alloc_new w _
  have hs0 : w.heap.size < w0.heap.size := by rw [← hw0]; simp
  obtain ⟨c0, c1, c2⟩ := box3v hx0
  have HV := Lib.hid (hV.below hb0)
  have HB0 := Lib.hid hb0
  have HX0 := Lib.hid hx0
  have HW0 := Lib.hid hw0
  have HLT := Lib.hid hV.tok.count
  have hpn := pairNew_calls (dd := ⟨ta, tn, tc, ma, mn, mc, sa, sn, sc⟩) w0 HV.out hok
  clear hV hb0 hx0 hw0
  go_enter Tryz.func46, Tryz.ntmps46
  go_wp2_with (fail)
  rw [HW0.out]
  refine hpn.mono ?_
  rintro e w1 ⟨⟨hno, rfl⟩ | ⟨hmay, pg, rfl, hpt⟩, hb1⟩
  · have HF := Lib.hid hno
    have HB1 := Lib.hid hb1
    clear hb1 hno hpn
    go_wp2_with (fail)
    refine bodyPost_ret (v := .tuple #[.pointer none, .int .i64 2]) ?_ rfl ⟨.inl ⟨HF.out, rfl⟩, HB0.out.trans (HB1.out.mono HB0.out.size)⟩
    simp [results, Tryz.results46, go_sem]
  · have HM := Lib.hid hmay
    have HB1 := Lib.hid hb1
    clear c0 c1 c2
    obtain ⟨c0, c1, c2⟩ := box3v ((HB1.out.block w.heap.size hs0).trans HX0.out)
    have htn : tn ≤ 4096 := by have h1 := HM.out.1.1; have := HLT.out; omega
    have hcl := cloneStr_calls w1 ((HV.out.below HB1.out).tok.flat) (by show tn ≤ 1048576; omega)
    clear hb1 hmay hpn
    go_wp2_with (fail)
    refine hcl.mono ?_
    rintro e w2 ⟨v2, rfl, ho2, hb2⟩
    obtain ⟨to_, tcc, rfl, _⟩ := ho2.sl
    have hml : V.tokens.length = tn := HLT.out
    rw [hml] at ho2
    have HO2 := Lib.hid ho2
    have HPT := Lib.hid hpt
    rw [hml]
    have HML := Lib.hid hml
    have HB2 := Lib.hid (HB1.out.trans (hb2.mono HB1.out.size))
    have HB12 := Lib.hid hb2
    obtain ⟨cs0, hcs0⟩ : ∃ cs0, (Tryz.zeroCells130.setIfInBounds 0 (Value.slice to_ tn tcc)).setIfInBounds 1 (Value.pointer (some ⟨pg, 0, none⟩)) = cs0 := ⟨_, rfl⟩
    have hz0 : Tryz.zeroCells130.size = 258 := by kernel_rfl
    have hz1 : cs0.size = 258 := by rw [← hcs0]; simp [hz0]
    have hz2 : cs0[0]? = some (Value.slice to_ tn tcc) := by rw [← hcs0]; simp [hz0]
    have hz3 : cs0[1]? = some (Value.pointer (some ⟨pg, 0, none⟩)) := by rw [← hcs0]; simp [hz0]
    obtain ⟨w3, hw3⟩ : ∃ w3, w2.alloc (.cells cs0 130) = w3 := ⟨_, rfl⟩
    have hb3 : Below w2.heap.size w2 w3 := hw3 ▸ below_alloc w2 _
    have hx3 : w3.heap[w2.heap.size]? = some (.cells cs0 130) := by rw [← hw3]; exact heap_alloc_new w2 _
    have hs3 : w2.heap.size < w3.heap.size := by rw [← hw3]; simp
    have HX3 := Lib.hid hx3
    have HB3 := Lib.hid hb3
    have HW3 := Lib.hid hw3
    have HCS := Lib.hid hcs0
    have HZ := Lib.hid (And.intro hz1 (And.intro hz2 hz3))
    clear hcl ho2 hpt hml hb2 hb3 hx3 hw3 hcs0 hz0 hz1 hz2 hz3
    go_wp2_with (fail)
    rw [HCS.out, HW3.out]
    clear c0 c1 c2
    go_loopw [22] (fun i wr => ∃ (k : Nat) (cs : Array Value), k ≤ 256 ∧ i = .int .i64 k ∧ wr.heap[w2.heap.size]? = some (.cells cs 130) ∧ Hid (ECs V.tokens (.slice to_ tn tcc) pg k cs) ∧ KeepG w2.heap.size w3 wr ∧ Below w2.heap.size w2 wr) (fun i _ => 256 - (intOf i).toNat)
    case atStart => exact ⟨0, cs0, by omega, rfl, HX3.out, Lib.hid ⟨HZ.out.1, HZ.out.2.1, HZ.out.2.2, fun i h => by omega⟩, KeepG.refl _ _, HB3.out⟩
    case round =>
      obtain ⟨k, cs, hk, rfl, hxg, HC, hkp, hb⟩ := hrel
      have HXG := Lib.hid hxg
      have HKP := Lib.hid hkp
      have HB := Lib.hid hb
      have hsg := Nat.lt_of_lt_of_le hs3 hkp.size
      have HBW : Hid (Below w0.heap.size w0 wr) := Lib.hid (HB2.out.trans (hb.mono HB2.out.size))
      obtain ⟨c0, c1, c2⟩ := box3v ((HBW.out.block w.heap.size hs0).trans HX0.out)
      clear hxg hkp hb
      by_cases hlt : k < 256
      · have hw8 : IntKind.u8.wrap (k : Int) = (k : Int) := by rw [IntKind.wrap_u8]; omega
        have hcv : (convert 121 9 (.slice (some ⟨wr.heap.size, 0, none⟩) 1 1)).run Tryz.prog (wr.alloc (.cells #[.int .u8 (k : Int)] 5)).drew = .ok (.string (one k)) (wr.alloc (.cells #[.int .u8 (k : Int)] 5)).drew := conv_one wr.drew k
        obtain ⟨old, hold⟩ : ∃ old, cs[2 + k]? = some old := ⟨_, Array.getElem?_eq_getElem (by have := HC.out.1; omega)⟩
        have hof : ∀ w', Below wr.heap.size wr w' → Calls Tryz.prog 78 #[.agg #[.slice ta tn tc, .slice ma mn mc, .slice sa sn sc], .string (one k)] w' fun e w9 => e = .returned (.int .i64 (ofT V.tokens (one k))) ∧ Below wr.heap.size wr w9 ∧ w9.cell? ⟨w2.heap.size, 2 + k, none⟩ = some old ∧ w9.frozen? ⟨w2.heap.size, 2 + k, none⟩ = false := fun w' hb' =>
          (of_calls (d := ⟨ta, tn, tc, ma, mn, mc, sa, sn, sc⟩) (one k) w' ((HV.out.below HBW.out).below hb')).mono fun e w9 ⟨h1, h2⟩ => by
            have h3 := hb'.trans (h2.mono hb'.size)
            have h4 := (h3.block w2.heap.size hsg).trans HXG.out
            exact ⟨h1, h3, by simp [World.cell?, h4, hold], by simp [World.frozen?, h4]⟩
        have hkb : (k : Int) < 256 := by omega
        have hwlt : w.heap.size < wr.heap.size := Nat.lt_of_lt_of_le hs0 HBW.out.size
        obtain ⟨e0, e1, e2⟩ : _ ∧ _ ∧ _ := ⟨cell_below (below_alloc wr (.cells #[.int .u8 (k : Int)] 5)) _ _ c0, cell_below (below_alloc wr (.cells #[.int .u8 (k : Int)] 5)) _ _ c1, cell_below (below_alloc wr (.cells #[.int .u8 (k : Int)] 5)) _ _ c2⟩
        have hkc : (2 : Nat) + k * 1 = 2 + k := by omega
        clear hold
        go_wp2_with (fail)
        go_region_with (first
          | (go_at_call 78; refine (hof _ (by exact ((Below.refl _ _).alloc (Nat.le_refl _) _).drew)).mono ?_; rintro e w9 ⟨rfl, hb9, hc9, hf9⟩))
        all_goals (have hst := set_cellN (i := 2 + k) (v := .int .i64 (ofT V.tokens (one k))) ((hb9.block w2.heap.size hsg).trans HXG.out)
                   have HST := Lib.hid hst
                   have HB9 := Lib.hid hb9
                   clear hst hb9
                   go_wp2_with (fail)
                   go_roundw
                   case rel => exact ⟨k + 1, _, by omega, by go_num, HST.out, ECs.next HC hlt, (HKP.out.below HB9.out).set _ _, (HB.out.trans (HB9.out.mono HB.out.size)).setCell (Nat.le_refl _) _⟩
                   case measure => simp [intOf]; omega)
      · obtain rfl : k = 256 := by omega
        go_wp2_with (fail)
        refine bodyPost_ret (v := .tuple #[.pointer (some ⟨w2.heap.size, 0, none⟩), .int .i64 0]) ?_ rfl ⟨.inr ⟨HM.out, w2.heap.size, rfl, ?_⟩, ?_⟩
        · simp [results, Tryz.results46, go_sem]
        · have g1 := HB1.out.size
          have g2 := HB0.out.size
          have g3 := HB2.out.size
          refine ⟨by omega, cs, to_, tcc, pg, HXG.out, by rw [HML.out]; exact HC.out, ?_, ?_⟩
          · rw [HML.out]
            exact OwnF.mono (base := w1.heap.size) (OwnF.keepG (HO2.out.below HB3.out) HKP.out fun q hq => by have := (World.ownsRow.lt HO2.out q hq).2; omega) (by omega)
          · have s1 := HB12.out.size
            have s2 := HB3.out.size
            have s3 := HKP.out.size
            exact PTab.mono (HPT.out.keep (fun q h1 h2 => (HKP.out.block q (by omega) (by omega)).trans ((HB3.out.block q (by omega)).trans (HB12.out.block q h2))) (by omega)) g2
        · exact HB0.out.trans ((HB2.out.trans (HB.out.mono HB2.out.size)).mono HB0.out.size)
def ixOf:Option Nat→Int
 | some i=>i
 | none=> -1
theorem ix_hit {S:List Sp} {p:Sp→Bool} {k:Nat} (hk:k<S.length) (hp:p (sp S k)=true) (hno:∀j,j<k→p (sp S j)=false):S.findIdx? p=some k:=by
 rw[List.findIdx?_eq_some_iff_getElem]
 exact⟨hk,by rw[sp_get hk];exact hp,fun j hj=>by rw[sp_get (by omega),hno j hj];simp⟩
theorem ix_miss {S:List Sp} {p:Sp→Bool} (hno:∀j,j<S.length→p (sp S j)=false):S.findIdx? p=none:=by
 rw[List.findIdx?_eq_none_iff]
 intro x hx
 obtain⟨j,hj,rfl⟩:=List.getElem_of_mem hx
 rw[sp_get hj];exact hno j hj
theorem find_cases (S:List Sp) (p:Sp→Bool):(S.findIdx? p=none∧S.find? p=none)∨∃i,i<S.length∧S.findIdx? p=some i∧S.find? p=some (sp S i):=by
 cases h:S.findIdx? p with
 | none=>
  left
  rw[List.findIdx?_eq_none_iff]at h
  exact⟨rfl,by rw[List.find?_eq_none];intro x hx;rw[h x hx];simp⟩
 | some i=>
  right
  obtain⟨h1,h2,h3⟩:=List.findIdx?_eq_some_iff_getElem.1 h
  refine⟨i,h1,rfl,?_⟩
  rw[List.find?_eq_some_iff_getElem]
  exact⟨by rw[sp_get h1]at h2;exact h2,i,h1,sp_get h1,fun j hj=>by simpa using h3 j hj⟩
theorem nameF_calls (x:Sp) {g:Nat} {id:Int} (w:World) (hg:w.cell? ⟨g,0,none⟩=some (.int .i64 id)):
  Calls Tryz.prog 95 #[.agg #[.string x.name, .int .i64 x.id], .pointer (some ⟨g,0,none⟩)] w fun e w'=>e= .returned (.bool (decide (x.id=id)))∧Below w.heap.size w w':=by
 have hc:=cell_below (below_alloc w (.cells #[.string x.name, .int .i64 x.id] 58)) _ _ hg
 by_cases h:x.id=id
 ·have HF:Hid (decide (x.id=id)=true):=Lib.hid (by simp[h])
  have he:(x.id==id)=true:=by simpa using h
  clear h
  go_enter Tryz.func95,Tryz.ntmps95
  go_wp2
  go_ret
  exact⟨by rw[HF.out];rfl,below_alloc w _⟩
 ·have HF:Hid (decide (x.id=id)=false):=Lib.hid (by simp[h])
  have he:(x.id==id)=false:=by simpa using h
  clear h
  go_enter Tryz.func95,Tryz.ntmps95
  go_wp2
  go_ret
  exact⟨by rw[HF.out];rfl,below_alloc w _⟩
theorem idF_calls (x:Sp) {g:Nat} {nm:ByteArray} (w:World) (hg:w.cell? ⟨g,0,none⟩=some (.string nm)):
  Calls Tryz.prog 81 #[.agg #[.string x.name, .int .i64 x.id], .pointer (some ⟨g,0,none⟩)] w fun e w'=>e= .returned (.bool (decide (x.name=nm)))∧Below w.heap.size w w':=by
 have hc:=cell_below (below_alloc w (.cells #[.string x.name, .int .i64 x.id] 58)) _ _ hg
 by_cases h:x.name=nm
 ·have HF:Hid (decide (x.name=nm)=true):=Lib.hid (by simp[h])
  have he:=beqS_yes h
  clear h
  go_enter Tryz.func81,Tryz.ntmps81
  go_wp2
  go_ret
  exact⟨by rw[HF.out];rfl,below_alloc w _⟩
 ·have HF:Hid (decide (x.name=nm)=false):=Lib.hid (by simp[h])
  have he:=beqS_no h
  clear h
  go_enter Tryz.func81,Tryz.ntmps81
  go_wp2
  go_ret
  exact⟨by rw[HF.out];rfl,below_alloc w _⟩
theorem nameI_calls {S:List Sp} {so:Option Addr} {sn sc g:Nat} {id:Int} (w:World) (hS:SlF 2 w so sn sc (flat Sp.enc S)) (hg:w.cell? ⟨g,0,none⟩=some (.int .i64 id)):
  Calls Tryz.prog 80 #[.slice so sn sc, .func (.func 95) #[] #[.pointer (some ⟨g,0,none⟩)]] w fun e w'=>e= .returned (.int .i64 (ixOf (S.findIdx? (fun x=>decide (x.id=id)))))∧Below w.heap.size w w':=by
 have hm:=Nat.le_trans hS.le hS.max
 unfold maxLen at hm
 have HLS:=Lib.hid (hS.count Sp.enc_len (by omega))
 have HS:=Lib.hid hS
 have HG:=Lib.hid hg
 clear hS hg
 go_enter Tryz.func80,Tryz.ntmps80
 go_wp2_with (fail)
 go_loopw [5,8] (fun _ i wr=>∃k:Nat,k≤sn∧i= .int .i64 k∧Hid (∀j,j<k→(fun x:Sp=>decide (x.id=id)) (sp S j)=false)∧Below w.heap.size w wr) (fun _ i _=>sn-(intOf i).toNat)
 case atStart=>exact⟨0,Nat.zero_le _,rfl,Lib.hid (fun j h=>by omega),Below.refl _ _⟩
 case round=>
  obtain⟨k,hk,rfl,HK,hb⟩:=hrel
  have HB:=Lib.hid hb
  clear hb
  by_cases hlt:k<sn
  ·have hkS:k<S.length:=by have:=HLS.out;omega
   obtain⟨b,of,rfl,hce⟩:=(HS.out.below HB.out).elem Sp.enc_len (by omega) (sp_eq hkS)
   have d0:=hce 0 _ rfl
   have d1:=hce 1 _ rfl
   rw[Nat.add_zero]at d0
   clear hce
   have hcl:=nameF_calls (sp S k) (id:=id) wr (cell_below HB.out _ _ HG.out)
   obtain⟨bv,hbv⟩:∃bv,(fun x:Sp=>decide (x.id=id)) (sp S k)=bv:=⟨_,rfl⟩
   have hbv':=hbv
   simp only at hbv'
   rw[hbv']at hcl
   clear hbv'
   go_wp2_with (fail)
   refine hcl.mono ?_
   rintro e w2 ⟨rfl,hb2⟩
   have HB2:=Lib.hid (HB.out.trans (hb2.mono HB.out.size))
   cases bv with
   | true=>
    have HF:=Lib.hid (ix_hit (p:=fun x=>decide (x.id=id)) hkS hbv HK.out)
    clear hbv
    go_wp2_with (fail)
    go_ret
    exact⟨by rw[HF.out];rfl,HB2.out⟩
   | false=>
    have HK2:Hid (∀j,j<k+1→(fun x:Sp=>decide (x.id=id)) (sp S j)=false):=Lib.hid (fun j hj=>by
     by_cases e:j=k
     ·subst e;exact hbv
     ·exact HK.out j (by omega))
    clear hbv
    go_wp2_with (fail)
    go_roundw
    case rel=>exact⟨k+1,by omega,by go_num,HK2,HB2.out⟩
    case measure=>simp[intOf];omega
  ·have HF:=Lib.hid (ix_miss (p:=fun x=>decide (x.id=id)) (S:=S) (fun j hj=>HK.out j (by have:=HLS.out;omega)))
   go_wp2_with (fail)
   go_ret
   exact⟨by rw[HF.out];rfl,HB.out⟩
theorem idI_calls {S:List Sp} {so:Option Addr} {sn sc g:Nat} {nm:ByteArray} (w:World) (hS:SlF 2 w so sn sc (flat Sp.enc S)) (hg:w.cell? ⟨g,0,none⟩=some (.string nm)):
  Calls Tryz.prog 80 #[.slice so sn sc, .func (.func 81) #[] #[.pointer (some ⟨g,0,none⟩)]] w fun e w'=>e= .returned (.int .i64 (ixOf (S.findIdx? (fun x=>decide (x.name=nm)))))∧Below w.heap.size w w':=by
 have hm:=Nat.le_trans hS.le hS.max
 unfold maxLen at hm
 have HLS:=Lib.hid (hS.count Sp.enc_len (by omega))
 have HS:=Lib.hid hS
 have HG:=Lib.hid hg
 clear hS hg
 go_enter Tryz.func80,Tryz.ntmps80
 go_wp2_with (fail)
 go_loopw [5,8] (fun _ i wr=>∃k:Nat,k≤sn∧i= .int .i64 k∧Hid (∀j,j<k→(fun x:Sp=>decide (x.name=nm)) (sp S j)=false)∧Below w.heap.size w wr) (fun _ i _=>sn-(intOf i).toNat)
 case atStart=>exact⟨0,Nat.zero_le _,rfl,Lib.hid (fun j h=>by omega),Below.refl _ _⟩
 case round=>
  obtain⟨k,hk,rfl,HK,hb⟩:=hrel
  have HB:=Lib.hid hb
  clear hb
  by_cases hlt:k<sn
  ·have hkS:k<S.length:=by have:=HLS.out;omega
   obtain⟨b,of,rfl,hce⟩:=(HS.out.below HB.out).elem Sp.enc_len (by omega) (sp_eq hkS)
   have d0:=hce 0 _ rfl
   have d1:=hce 1 _ rfl
   rw[Nat.add_zero]at d0
   clear hce
   have hcl:=idF_calls (sp S k) (nm:=nm) wr (cell_below HB.out _ _ HG.out)
   obtain⟨bv,hbv⟩:∃bv,(fun x:Sp=>decide (x.name=nm)) (sp S k)=bv:=⟨_,rfl⟩
   have hbv':=hbv
   simp only at hbv'
   rw[hbv']at hcl
   clear hbv'
   go_wp2_with (fail)
   refine hcl.mono ?_
   rintro e w2 ⟨rfl,hb2⟩
   have HB2:=Lib.hid (HB.out.trans (hb2.mono HB.out.size))
   cases bv with
   | true=>
    have HF:=Lib.hid (ix_hit (p:=fun x=>decide (x.name=nm)) hkS hbv HK.out)
    clear hbv
    go_wp2_with (fail)
    go_ret
    exact⟨by rw[HF.out];rfl,HB2.out⟩
   | false=>
    have HK2:Hid (∀j,j<k+1→(fun x:Sp=>decide (x.name=nm)) (sp S j)=false):=Lib.hid (fun j hj=>by
     by_cases e:j=k
     ·subst e;exact hbv
     ·exact HK.out j (by omega))
    clear hbv
    go_wp2_with (fail)
    go_roundw
    case rel=>exact⟨k+1,by omega,by go_num,HK2,HB2.out⟩
    case measure=>simp[intOf];omega
  ·have HF:=Lib.hid (ix_miss (p:=fun x=>decide (x.name=nm)) (S:=S) (fun j hj=>HK.out j (by have:=HLS.out;omega)))
   go_wp2_with (fail)
   go_ret
   exact⟨by rw[HF.out];rfl,HB.out⟩
theorem name_calls {V:Vc} {dd:Vd} (id:Int) (w:World) (hV:VocR w dd V):
  Calls Tryz.prog 64 #[dd.val, .int .i64 id] w fun e w'=>e= .returned (.tuple #[.string (nmOf (spBy V.specials id)), .bool (spBy V.specials id).isSome])∧Below w.heap.size w w':=by
 obtain⟨ta,tn,tc,ma,mn,mc,sa,sn,sc⟩:=dd
 obtain⟨w0,hw0⟩:∃w0,(w.alloc (.cells #[.slice ta tn tc, .slice ma mn mc, .slice sa sn sc] 26)).alloc (.cells #[.int .i64 id] 3)=w0:=⟨_,rfl⟩
 have hb0:Below w.heap.size w w0:=hw0▸(below_alloc w _).alloc (by simp) _
 have hs0:w0.heap.size=w.heap.size+2:=by rw[←hw0];simp
 have hx0:w0.heap[w.heap.size]?=some (.cells #[.slice ta tn tc, .slice ma mn mc, .slice sa sn sc] 26):=by rw[←hw0,(below_alloc _ _).block _ (by simp)];exact heap_alloc_new w _
 have hx1:w0.heap[w.heap.size+1]?=some (.cells #[.int .i64 id] 3):=by
  rw[←hw0]
  have:=heap_alloc_new (w.alloc (.cells #[.slice ta tn tc, .slice ma mn mc, .slice sa sn sc] 26)) (.cells #[.int .i64 id] 3)
  simpa using this
 obtain⟨c0,c1,c2⟩:=box3v hx0
 have HV:=Lib.hid (hV.below hb0)
 have HB0:=Lib.hid hb0
 have HW0:=Lib.hid hw0
 have HX0:=Lib.hid hx0
 have hnl:=hV.spc.count Sp.enc_len (by omega)
 simp only at hnl
 have HNL:=Lib.hid hnl
 have hm:=Nat.le_trans hV.spc.le hV.spc.max
 simp only at hm
 unfold maxLen at hm
 have hI:=nameI_calls (id:=id) (g:=w.heap.size+1) w0 HV.out.spc (by simp[World.cell?,hx1])
 clear hV hb0 hx0 hx1 hw0 hnl
 go_enter Tryz.func64,Tryz.ntmps64
 go_wp2_with (fail)
 rw[HW0.out]
 refine hI.mono ?_
 rintro e w1 ⟨rfl,hb1⟩
 have HB1:=Lib.hid (HB0.out.trans (hb1.mono HB0.out.size))
 have HV1:=Lib.hid (HV.out.below hb1)
 clear c0 c1 c2
 obtain⟨c0,c1,c2⟩:=box3v ((hb1.block w.heap.size (by omega)).trans HX0.out)
 clear hb1 hI
 rcases find_cases V.specials (fun x=>decide (x.id=id))with⟨e1,e2⟩ | ⟨i,hi,e1,e2⟩
 ·rw[e1]
  simp only[ixOf]
  have HE:Hid (spBy V.specials id=none):=Lib.hid e2
  clear e1 e2
  go_wp2
  refine bodyPost_ret (v:= .tuple #[.string ByteArray.empty, .bool false]) ?_ rfl ⟨by rw[HE.out];rfl,HB1.out⟩
  simp[results,Tryz.results64,go_sem];try rfl
 ·rw[e1]
  simp only[ixOf]
  have HE:Hid (spBy V.specials id=some (sp V.specials i)):=Lib.hid e2
  have hin:i<sn:=by have:=HNL.out;omega
  obtain⟨b,of,hao,hce⟩:=HV1.out.spc.elem Sp.enc_len (by omega) (sp_eq hi)
  simp only at hao
  subst hao
  have d0:=hce 0 _ rfl
  have d1:=hce 1 _ rfl
  rw[Nat.add_zero]at d0
  have hng:¬(i:Int)<0:=by omega
  clear e1 e2 hce hi
  go_wp2
  refine bodyPost_ret (v:= .tuple #[.string (sp V.specials i).name, .bool true]) ?_ rfl ⟨by rw[HE.out];rfl,HB1.out⟩
  simp[results,Tryz.results64,go_sem]
theorem id_calls {V:Vc} {dd:Vd} (nm:ByteArray) (w:World) (hV:VocR w dd V):
  Calls Tryz.prog 54 #[dd.val, .string nm] w fun e w'=>e= .returned (.int .i64 (idOf (spNamed V.specials nm)))∧Below w.heap.size w w':=by
 obtain⟨ta,tn,tc,ma,mn,mc,sa,sn,sc⟩:=dd
 obtain⟨w0,hw0⟩:∃w0,(w.alloc (.cells #[.slice ta tn tc, .slice ma mn mc, .slice sa sn sc] 26)).alloc (.cells #[.string nm] 9)=w0:=⟨_,rfl⟩
 have hb0:Below w.heap.size w w0:=hw0▸(below_alloc w _).alloc (by simp) _
 have hs0:w0.heap.size=w.heap.size+2:=by rw[←hw0];simp
 have hx0:w0.heap[w.heap.size]?=some (.cells #[.slice ta tn tc, .slice ma mn mc, .slice sa sn sc] 26):=by rw[←hw0,(below_alloc _ _).block _ (by simp)];exact heap_alloc_new w _
 have hx1:w0.heap[w.heap.size+1]?=some (.cells #[.string nm] 9):=by
  rw[←hw0]
  have:=heap_alloc_new (w.alloc (.cells #[.slice ta tn tc, .slice ma mn mc, .slice sa sn sc] 26)) (.cells #[.string nm] 9)
  simpa using this
 obtain⟨c0,c1,c2⟩:=box3v hx0
 have HV:=Lib.hid (hV.below hb0)
 have HB0:=Lib.hid hb0
 have HW0:=Lib.hid hw0
 have HX0:=Lib.hid hx0
 have hnl:=hV.spc.count Sp.enc_len (by omega)
 simp only at hnl
 have HNL:=Lib.hid hnl
 have hm:=Nat.le_trans hV.spc.le hV.spc.max
 simp only at hm
 unfold maxLen at hm
 have hI:=idI_calls (nm:=nm) (g:=w.heap.size+1) w0 HV.out.spc (by simp[World.cell?,hx1])
 clear hV hb0 hx0 hx1 hw0 hnl
 go_enter Tryz.func54,Tryz.ntmps54
 go_wp2_with (fail)
 rw[HW0.out]
 refine hI.mono ?_
 rintro e w1 ⟨rfl,hb1⟩
 have HB1:=Lib.hid (HB0.out.trans (hb1.mono HB0.out.size))
 have HV1:=Lib.hid (HV.out.below hb1)
 clear c0 c1 c2
 obtain⟨c0,c1,c2⟩:=box3v ((hb1.block w.heap.size (by omega)).trans HX0.out)
 clear hb1 hI
 rcases find_cases V.specials (fun x=>decide (x.name=nm))with⟨e1,e2⟩ | ⟨i,hi,e1,e2⟩
 ·rw[e1]
  simp only[ixOf]
  have HE:Hid (spNamed V.specials nm=none):=Lib.hid e2
  clear e1 e2
  go_wp2
  (go_ret;exact⟨by rw[HE.out];rfl,HB1.out⟩)
 ·rw[e1]
  simp only[ixOf]
  have HE:Hid (spNamed V.specials nm=some (sp V.specials i)):=Lib.hid e2
  have hin:i<sn:=by have:=HNL.out;omega
  obtain⟨b,of,hao,hce⟩:=HV1.out.spc.elem Sp.enc_len (by omega) (sp_eq hi)
  simp only at hao
  subst hao
  have d0:=hce 0 _ rfl
  have d1:=hce 1 _ rfl
  rw[Nat.add_zero]at d0
  have hng:¬(i:Int)<0:=by omega
  clear e1 e2 hce hi
  go_wp2
  (go_ret;exact⟨by rw[HE.out];rfl,HB1.out⟩)
def bytesOf (T:List ByteArray) (i:Int):ByteArray:=if isTk T i=true then tk T i.toNat else ByteArray.empty
theorem vbytes_calls {V:Vc} {dd:Vd} (id:Int) (w:World) (hV:VocR w dd V):
  Calls Tryz.prog 63 #[dd.val, .int .i64 id] w fun e w'=>e= .returned (.tuple #[.string (bytesOf V.tokens id), .bool (isTk V.tokens id)])∧Below w.heap.size w w':=by
 obtain⟨ta,tn,tc,ma,mn,mc,sa,sn,sc⟩:=dd
 obtain⟨w0,hw0⟩:∃w0,w.alloc (.cells #[.slice ta tn tc, .slice ma mn mc, .slice sa sn sc] 26)=w0:=⟨_,rfl⟩
 have hb0:Below w.heap.size w w0:=hw0▸below_alloc w _
 have hx0:w0.heap[w.heap.size]?=some (.cells #[.slice ta tn tc, .slice ma mn mc, .slice sa sn sc] 26):=by rw[←hw0];exact heap_alloc_new w _
 obtain⟨c0,c1,c2⟩:=box3v hx0
 have HV:=Lib.hid (hV.below hb0)
 have HB0:=Lib.hid hb0
 have HW0:=Lib.hid hw0
 have HL:=Lib.hid HV.out.tok.count
 clear hV hb0 hx0 hw0
 have hI:=is_calls (T:=V.tokens) id w0 HV.out.tok
 go_enter Tryz.func63,Tryz.ntmps63
 go_wp2_with (fail)
 rw[HW0.out]
 refine hI.mono ?_
 rintro e w1 ⟨rfl,rfl⟩
 cases hi:isTk V.tokens id with
 | false=>
  have HF:Hid (bytesOf V.tokens id=ByteArray.empty∧isTk V.tokens id=false):=Lib.hid ⟨by unfold bytesOf;rw[hi];rfl,hi⟩
  clear hi hI
  go_wp2
  refine bodyPost_ret (v:= .tuple #[.string ByteArray.empty, .bool false]) ?_ rfl ⟨by rw[HF.out.1,HF.out.2],HB0.out⟩
  simp[results,Tryz.results63,go_sem];try rfl
 | true=>
  have HF:Hid (bytesOf V.tokens id=tk V.tokens id.toNat∧isTk V.tokens id=true):=Lib.hid ⟨by unfold bytesOf;rw[if_pos hi],hi⟩
  obtain⟨h1,h2,_⟩:=isTk_iff.1 hi
  clear hi hI
  obtain⟨k,rfl⟩:=Int.eq_ofNat_of_zero_le h1
  have hk:k<V.tokens.length:=by omega
  have hkn:k<tn:=by have:=HL.out;omega
  obtain⟨b,o,hao,hc⟩:=HV.out.tok.cell (tk_eq hk)
  simp only at hao
  subst hao
  clear h2 hk
  go_wp2
  refine bodyPost_ret (v:= .tuple #[.string (tk V.tokens k), .bool true]) ?_ rfl ⟨by rw[HF.out.1,HF.out.2];rfl,HB0.out⟩
  simp[results,Tryz.results63,go_sem]
end Go.Proofs.YtimkkkdabmhedaaGreatDoor
