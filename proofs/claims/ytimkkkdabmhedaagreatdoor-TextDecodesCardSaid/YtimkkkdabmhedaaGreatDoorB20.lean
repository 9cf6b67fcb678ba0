/- Walk: pair.New: a vocabulary's table of pairs. -/
import Derived.Test.YtimkkkdabmhedaaGreatDoorB19
import Derived.Test.YtimkkkdabmhedaaGreatDoorB11
namespace Go.Proofs.YtimkkkdabmhedaaGreatDoor
open Go.RowKit
set_option linter.unusedVariables false

abbrev MapP (w : World) (mb sz : Nat) (f : Int × Int → Option Int) : Prop := MapK twoViewP 3 w mb sz f
theorem KeepG.grownMap {g : Nat} {w w' w'' : World} (h : KeepG g w w') (hg : w'.drew.grownBy w'' (some g)) : KeepG g w w'' :=
  ⟨Nat.le_trans h.size hg.size, fun q h1 h2 => (hg.block q (Nat.lt_of_lt_of_le h1 h.size) (by simp; omega)).trans (h.block q h1 h2)⟩
/-- The place of a pair among the first k merges: the last one. -/
def atM (M : List Mg) : Nat → Int × Int → Option Int
  | 0 => fun _ => none
  | k + 1 => fun s => if s = ((mg M k).left, (mg M k).right) then some (k : Int) else atM M k s
theorem atM_succ (M : List Mg) (k : Nat) : atM M (k + 1) = fun s => if s = ((mg M k).left, (mg M k).right) then some (k : Int) else atM M k s := rfl
theorem atM_some {M : List Mg} : ∀ {k : Nat} {s : Int × Int} {i : Int}, atM M k s = some i → ∃ j, j < k ∧ i = (j : Int) ∧ s = ((mg M j).left, (mg M j).right)
  | 0, _, _, h => by cases h
  | k + 1, s, i, h => by
    rw [atM_succ] at h
    simp only at h
    split at h
    · next e => exact ⟨k, by omega, by simpa using h.symm, e⟩
    · obtain ⟨j, h1, h2, h3⟩ := atM_some h
      exact ⟨j, by omega, h2, h3⟩
theorem atM_none {M : List Mg} : ∀ {k : Nat} {s : Int × Int}, atM M k s = none → ∀ j, j < k → s ≠ ((mg M j).left, (mg M j).right)
  | 0, _, _ => fun j hj => by omega
  | k + 1, s, h => fun j hj e => by
    rw [atM_succ] at h
    simp only at h
    split at h
    · cases h
    · next e2 =>
      by_cases e3 : j = k
      · exact e2 (e3 ▸ e)
      · exact atM_none h j (by omega) e
theorem atM_len {w : World} {mb sz k : Nat} {M : List Mg} (h : MapP w mb sz (atM M k)) (e : M.length = k) : MapP w mb sz (atM M M.length) := by rw [e]; exact h
/-- The table's box: the merges, a row of the call's own; the map of their places. -/
structure PTab (w : World) (base g : Nat) (M : List Mg) : Prop where
  lo : base ≤ g
  tab : ∃ mo mc mb sz, w.heap[g]? = some (.cells #[.slice mo M.length mc, .map (some mb)] 169) ∧ OwnF Mg.enc 4 165 w base (.slice mo M.length mc) M ∧ MapP w mb sz (atM M M.length) ∧ base ≤ mb ∧ mb < w.heap.size
def PairPost (V : Vc) (w : World) (e : Ending) (w' : World) : Prop :=
  ((¬ May V ∧ e = .returned (.tuple #[.pointer none, .int .i64 2])) ∨ (May V ∧ ∃ g, e = .returned (.tuple #[.pointer (some ⟨g, 0, none⟩), .int .i64 0]) ∧ PTab w' w.heap.size g V.merges)) ∧ Below w.heap.size w w'

set_option maxHeartbeats 2000000 in
set_option maxRecDepth 100000 in
theorem pairNew_calls {V : Vc} {dd : Vd} (w : World) (hV : VocR w dd V) (hok : VOk V) :
    Calls Tryz.prog 77 #[dd.val] w (PairPost V w) := by
  obtain ⟨ta, tn, tc, ma, mn, mc, sa, sn, sc⟩ := dd
  obtain ⟨w0, hw0⟩ : ∃ w0, w.alloc (.cells #[.slice ta tn tc, .slice ma mn mc, .slice sa sn sc] 26) = w0 := ⟨_, rfl⟩
  have hb0 : Below w.heap.size w w0 := hw0 ▸ below_alloc w _
  have hx0 : w0.heap[w.heap.size]? = some (.cells #[.slice ta tn tc, .slice ma mn mc, .slice sa sn sc] 26) := by rw [← hw0]; exact heap_alloc_new w _
  have hs0 : w.heap.size < w0.heap.size := by rw [← hw0]; simp
  obtain ⟨c0, c1, c2⟩ := box3v hx0
  have HV := Lib.hid (hV.below hb0)
  have HB0 := Lib.hid hb0
  have HX0 := Lib.hid hx0
  have HW0 := Lib.hid hw0
  have hm := Nat.le_trans hV.mrg.le hV.mrg.max
  simp only at hm
  unfold maxLen at hm
  have HLM := Lib.hid (hV.mrg.count Mg.enc_len (by omega))
  have hmay := may_calls (dd := ⟨ta, tn, tc, ma, mn, mc, sa, sn, sc⟩) w0 HV.out hok
  clear hV hb0 hx0 hw0
  go_enter Tryz.func77, Tryz.ntmps77
  go_wp2_with (fail)
  rw [HW0.out]
  refine hmay.mono ?_
  rintro e w1 ⟨⟨b, rfl, hi⟩, hb1⟩
  have HB1 := Lib.hid hb1
  have HI := Lib.hid hi
  clear c0 c1 c2
  obtain ⟨c0, c1, c2⟩ := box3v ((HB1.out.block w.heap.size hs0).trans HX0.out)
  clear hb1 hi hmay
  cases b with
  | false =>
    have HF := Lib.hid (no_of HI.out rfl)
    go_wp2_with (fail)
    refine bodyPost_ret (v := .tuple #[.pointer none, .int .i64 2]) ?_ rfl ⟨.inl ⟨HF.out, rfl⟩, HB0.out.trans (HB1.out.mono HB0.out.size)⟩
    simp [results, Tryz.results77, go_sem]
  | true =>
    have HM := Lib.hid (HI.out.1 rfl)
    have hmn : mn ≤ 16384 := by have h1 := HM.out.2.1.1; have := HLM.out; omega
    have hcl := cloneMg_calls w1 ((HV.out.below HB1.out).mrg) (by show mn ≤ 1048576; omega)
    go_wp2_with (fail)
    refine hcl.mono ?_
    rintro e w2 ⟨v2, rfl, ho2, hb2⟩
    obtain ⟨mo, mcc, rfl, _⟩ := ho2.sl
    have hml : V.merges.length = mn := HLM.out
    have HO2 := Lib.hid ho2
    rw [hml]
    have HML := Lib.hid hml
    have HB2 := Lib.hid (HB1.out.trans (hb2.mono HB1.out.size))
    clear c0 c1 c2
    obtain ⟨c0, c1, c2⟩ := box3v ((HB2.out.block w.heap.size hs0).trans HX0.out)
    obtain ⟨w3, hw3⟩ : ∃ w3, w2.alloc (.map #[] 0) = w3 := ⟨_, rfl⟩
    obtain ⟨w4, hw4⟩ : ∃ w4, w3.alloc (.cells #[.slice mo mn mcc, .map (some w2.heap.size)] 169) = w4 := ⟨_, rfl⟩
    have hb3 : Below w2.heap.size w2 w3 := hw3 ▸ below_alloc w2 _
    have hb4 : Below w3.heap.size w3 w4 := hw4 ▸ below_alloc w3 _
    have hs3 : w3.heap.size = w2.heap.size + 1 := by rw [← hw3]; simp
    have hx4 : w4.heap[w3.heap.size]? = some (.cells #[.slice mo mn mcc, .map (some w2.heap.size)] 169) := by rw [← hw4]; exact heap_alloc_new w3 _
    have hs4 : w3.heap.size < w4.heap.size := by rw [← hw4]; simp
    have HM0 : Hid (MapP w4 w2.heap.size 0 (fun _ => none)) := Lib.hid (MapK.below (by rw [← hw3]; exact MapK.new twoViewP 3 w2) hb4)
    have HB4 : Hid (Below w2.heap.size w2 w4) := Lib.hid (hb3.trans (hb4.mono (by omega)))
    have HX4 := Lib.hid hx4
    have HW3 := Lib.hid hw3
    have HW4 := Lib.hid hw4
    have HS3 := Lib.hid hs3
    have hmk := @run_makeMap Tryz.prog
    have hc1 := cell_below HB4.out _ _ c1
    rw [← hw4, ← hw3] at hc1
    have hgg : w2.heap.size + 1 = w3.heap.size := hs3.symm
    have HGG := Lib.hid hgg
    clear ho2 hml hb2 hb3 hb4 hx4 hw3 hw4 hcl hs3 hgg
    go_wp2_with (fail)
    rw [HW3.out, HW4.out, HGG.out]
    clear hc1 c0 c1 c2
    go_loopw [19] (fun i wr => ∃ (k sz : Nat), k ≤ mn ∧ i = .int .i64 k ∧ sz ≤ k ∧ MapP wr w2.heap.size sz (atM V.merges k) ∧ KeepG w2.heap.size w4 wr ∧ Below w2.heap.size w2 wr) (fun i _ => mn - (intOf i).toNat)
    case atStart => exact ⟨0, 0, Nat.zero_le _, rfl, Nat.le_refl _, HM0.out, KeepG.refl _ _, HB4.out⟩
    case round =>
      obtain ⟨k, sz, hk, rfl, hsz, hmp, hkp, hb⟩ := hrel
      have HMp := Lib.hid hmp
      have HKP := Lib.hid hkp
      have HB := Lib.hid hb
      have hxg := (hkp.block w3.heap.size hs4 (by have := HS3.out; omega)).trans HX4.out
      have hsg := Nat.lt_of_lt_of_le hs4 hkp.size
      have HXG := Lib.hid hxg
      clear hmp hkp hb
      by_cases hlt : k < mn
      · have hkM : k < V.merges.length := by have := HML.out; omega
        have HB02 : Hid (Below w0.heap.size w0 wr) := Lib.hid (HB2.out.trans (HB.out.mono HB2.out.size))
        obtain ⟨b, of, hao, hce⟩ := (HV.out.below HB02.out).mrg.elem Mg.enc_len (by omega) (mg_eq hkM)
        have hok1 := HM.out.2.1.2.1 _ (List.mem_of_getElem? (mg_eq hkM))
        obtain ⟨⟨l, r, o, d⟩, hseq⟩ : ∃ m, mg V.merges k = m := ⟨_, rfl⟩
        have HSEQ := Lib.hid hseq
        rw [hseq] at hce hok1
        obtain ⟨hl, hr, _⟩ := hok1
        have ⟨l0, l1, _⟩ := isTk_iff.1 hl
        have ⟨r0, r1, _⟩ := isTk_iff.1 hr
        have ht4 := HM.out.1.1
        simp only at hao l0 l1 r0 r1
        subst hao
        have hwl : (Lit.int .i64 l).wf = true := by rw [i64_wf]; omega
        have hwr : (Lit.int .i64 r).wf = true := by rw [i64_wf]; omega
        have hwk : (Lit.int .i64 (k : Int)).wf = true := by rw [i64_wf]; omega
        have d0 := hce 0 _ rfl
        have d1 := hce 1 _ rfl
        have d2 := hce 2 _ rfl
        have d3 := hce 3 _ rfl
        rw [Nat.add_zero] at d0
        simp only at d0 d1 d2 d3
        obtain ⟨wx, hwx⟩ : ∃ wx, wr.alloc (.cells #[.int .i64 l, .int .i64 r, .int .i64 o, .int .i64 d] 165) = wx := ⟨_, rfl⟩
        have hbx : Below wr.heap.size wr wx := hwx ▸ below_alloc wr _
        have hxx : wx.heap[wr.heap.size]? = some (.cells #[.int .i64 l, .int .i64 r, .int .i64 o, .int .i64 d] 165) := by rw [← hwx]; exact heap_alloc_new wr _
        obtain ⟨x0, x1, x2, x3⟩ := box4 hxx
        have hxg2 := (hbx.block w3.heap.size hsg).trans hxg
        obtain ⟨y0, y1⟩ : wx.cell? ⟨w3.heap.size, 0, none⟩ = some (.slice mo mn mcc) ∧ wx.cell? ⟨w3.heap.size, 1, none⟩ = some (.map (some w2.heap.size)) := by simp [World.cell?, hxg2]
        obtain ⟨w5, hup, hm5, hg5⟩ := MapK.update (V := twoViewP) (s := (l, r)) (c := (k : Int)) (P := Tryz.prog) (t := 167) (w := wx.drew) Tryz.underlying167 Tryz.underlying3 (MapK.below HMp.out (hbx.drew)) ⟨hwl, hwr⟩ hwk (by unfold maxLen; omega)
        have HWX := Lib.hid hwx
        have HBX : Hid (Below w2.heap.size w2 wx) := Lib.hid (HB.out.trans (hbx.mono HB.out.size))
        have HKX := Lib.hid (HKP.out.below hbx)
        clear hce hseq hwx hxx hxg hxg2 hbx hl hr l0 l1 r0 r1
        have hup2 : (Instr.mapUpdate 167 (.map (some w2.heap.size)) (.agg #[.int .i64 l, .int .i64 r]) (.int .i64 (k : Int))).run Tryz.prog wx.drew = .ok () w5 := hup
        have hm5b : MapP w5 w2.heap.size (if (atM V.merges k (l, r)).isSome then sz else sz + 1) (atM V.merges (k + 1)) := by rw [atM_succ, HSEQ.out]; exact hm5
        have HM5 := Lib.hid hm5b
        have HG5 := Lib.hid hg5
        clear hup hm5 hm5b hg5
        go_wp2_with (fail)
        rw [HWX.out]
        go_region
        all_goals (go_wp2_with (fail)
                   go_roundw
                   case rel => exact ⟨k + 1, _, by omega, by go_num, by split <;> omega, HM5.out, HKX.out.grownMap HG5.out, (HBX.out.drew).grown HG5.out HBX.out.size (fun q hq => by simp at hq; omega)⟩
                   case measure => simp [intOf]; omega)
      · go_wp2_with (fail)
        refine bodyPost_ret (v := .tuple #[.pointer (some ⟨w3.heap.size, 0, none⟩), .int .i64 0]) ?_ rfl ⟨.inr ⟨HM.out, w3.heap.size, rfl, ?_, ?_⟩, ?_⟩
        · simp [results, Tryz.results77, go_sem]
        · have := HB2.out.size; have := HB0.out.size; have := HS3.out; omega
        · refine ⟨mo, mcc, w2.heap.size, sz, by rw [HML.out]; exact hxg, OwnF.mono (OwnF.keepG (HO2.out.below HB4.out) HKP.out fun q hq => by have := (World.ownsRow.lt HO2.out q hq).2; omega) (by have := HB1.out.size; have := HB0.out.size; omega), atM_len HMp.out (by have := HML.out; omega), by have := HB2.out.size; have := HB0.out.size; omega, by have := HB.out.size; have := HS3.out; omega⟩
        · exact HB0.out.trans ((HB2.out.trans (HB.out.mono HB2.out.size)).mono HB0.out.size)

end Go.Proofs.YtimkkkdabmhedaaGreatDoor
