/- VocabRows: the vocabulary of any rows and specials, that merges by rank, is the document's, or there is none. (Printed by gRows.py.) -/
import Derived.Test.YteoncpkfinheoaaGreatR
import Derived.Test.YteoncpkfinheoaaRFrom
import Derived.Test.YteoncpkfinheoaaLawV
import Derived.Test.YteoncpkfinheoaaRows
namespace Go.Proofs.Yteoncpkfinheoaa
open Go.RowKit
set_option linter.unusedVariables false

theorem notGreatR {R : List Rw} {S : List Sp} (h : ¬ GreatR R [] S) : R.length ≤ 400 ∧ S.length ≤ 20 := by
  refine ⟨?_, ?_⟩
  · exact Nat.le_of_not_lt fun g => h (.inl g)
  · exact Nat.le_of_not_lt fun g => h (.inr (.inr (.inl g)))
theorem notGreatR2 {R : List Rw} {S : List Sp} (h : ¬ GreatR R [] S) : ∀ r ∈ R, r.token.size ≤ 80 := fun r hr =>
  Nat.le_of_not_lt fun g => h (.inr (.inr (.inr (.inl ⟨r, hr, g⟩))))

set_option maxHeartbeats 2000000 in
set_option maxRecDepth 100000 in
theorem vocabRows_walk {R : List Rw} {S : List Sp} {ro so : Option Addr} {rn rc sn sc : Nat} (w : World) (hR : SlF 2 w ro rn rc (flat Rw.enc R)) (hS : SlF 2 w so sn sc (flat Sp.enc S))
    (hrs : ∀ r ∈ R, r.token.size ≤ maxLen) (hss : ∀ s ∈ S, s.name.size ≤ maxLen) :
    Frame.Law Try.prog 3 #[.slice ro rn rc, .slice so sn sc] w := by
  unfold Frame.Law
  have HLR := Lib.hid (hR.count Rw.enc_len (by omega))
  have HLS := Lib.hid (hS.count Sp.enc_len (by omega))
  have HR := Lib.hid hR
  have HS := Lib.hid hS
  have HRS := Lib.hid hrs
  have HSS := Lib.hid hss
  have hgr := lgreat_calls (P := []) (po := none) (pn := 0) (pc := 0) w hR (SlF.nothing w) hS hrs (fun p hp => by simp at hp) hss
  have hm1 := Nat.le_trans hR.le hR.max
  have hm3 := Nat.le_trans hS.le hS.max
  unfold maxLen at hm1 hm3
  clear hR hS hrs hss
  go_enter Try.func3, Try.ntmps3
  go_wp2_with (fail)
  refine hgr.mono ?_
  rintro e w1 ⟨⟨b, rfl, hb⟩, hb1⟩
  have HB1 := Lib.hid hb1
  have HGB := Lib.hid hb
  clear hb1 hb hgr
  cases b with
  | true =>
    go_wp2_with (fail)
    refine (fixed_calls w1).mono ?_
    rintro e w2 ⟨rfl, hb2⟩
    go_wp2_with (fail)
    go_ret
    exact ⟨rfl, HB1.out.trans (hb2.mono HB1.out.size)⟩
  | false =>
    have hng := notGreatR (no_of HGB.out rfl)
    have hng3 := Lib.hid (notGreatR2 (no_of HGB.out rfl))
    rw [HLR.out, HLS.out] at hng
    obtain ⟨hng1, hng2⟩ := hng
    go_wp2_with (fail)
    go_loopw [5, 18] (fun v i wr => ∃ k t : Nat, k ≤ rn ∧ i = .int .i64 k ∧ v = .int .i64 t ∧ t ≤ k * 80 ∧ Below w1.heap.size w1 wr) (fun _ i _ => rn - (intOf i).toNat)
    case atStart => exact ⟨0, 0, Nat.zero_le _, rfl, rfl, by omega, Below.refl _ _⟩
    case round =>
      obtain ⟨k, t, hk, rfl, rfl, ht, hb⟩ := hrel
      have HB := Lib.hid hb
      clear hb
      by_cases hlt : k < rn
      · have hkR : k < R.length := by have := HLR.out; omega
        obtain ⟨b, of, rfl, hce⟩ := ((HR.out.below HB1.out).below HB.out).elem Rw.enc_len (by omega) (rw_eq hkR)
        have hsz := hng3.out _ (List.mem_of_getElem? (rw_eq hkR))
        obtain ⟨⟨tt, id⟩, hseq⟩ : ∃ m, rw' R k = m := ⟨_, rfl⟩
        rw [hseq] at hce hsz
        have d0 := hce 0 _ rfl
        have d1 := hce 1 _ rfl
        rw [Nat.add_zero] at d0
        simp only at d0 d1 hsz
        clear hce hseq
        have HBX := Lib.hid (HB.out.alloc HB.out.size (.cells #[.string tt, .int .i64 id] 27))
        by_cases h1 : (1 : Int) < tt.size
        · have hw1 : IntKind.i64.wrap ((t : Int) + (tt.size : Int)) = ((t + tt.size : Nat) : Int) := by rw [IntKind.wrap_i64]; omega
          go_wp2_with (fail)
          go_roundw
          case rel => exact ⟨k + 1, t + tt.size, by omega, by go_num, by first | rfl | (congr 1; omega), by omega, HBX.out⟩
          case measure => simp [intOf]; omega
        · go_wp2_with (fail)
          go_roundw
          case rel => exact ⟨k + 1, t, by omega, by go_num, rfl, by omega, HBX.out⟩
          case measure => simp [intOf]; omega
      · obtain ⟨wo, rfl⟩ : ∃ wo : World, wo = wr := ⟨_, rfl⟩
        have HBW : Hid (Below w.heap.size w wo) := Lib.hid (HB1.out.trans (HB.out.mono HB1.out.size))
        by_cases h6 : (600 : Int) < t
        · go_wp2_with (fail)
          refine (fixed_calls wo).mono ?_
          rintro e w2 ⟨rfl, hb2⟩
          go_wp2_with (fail)
          go_ret
          exact ⟨rfl, HBW.out.trans (hb2.mono HBW.out.size)⟩
        have hfr := fromRows_val (R := R) (S := S) wo (HR.out.below HBW.out) (HS.out.below HBW.out) HRS.out HSS.out hng2
        go_wp2_with (fail)
        refine hfr.mono ?_
        rintro e w3 ⟨⟨⟨ta, tn, tc, ma, mn, mc, sa, sn1, sc1⟩, rfl, hv⟩, hb3⟩
        obtain ⟨w4, hw4⟩ : ∃ w4, w3.alloc (.cells #[.slice ta tn tc, .slice ma mn mc, .slice sa sn1 sc1] 31) = w4 := ⟨_, rfl⟩
        have hb4 : Below w3.heap.size w3 w4 := hw4 ▸ below_alloc w3 _
        have hx4 : w4.heap[w3.heap.size]? = some (.cells #[.slice ta tn tc, .slice ma mn mc, .slice sa sn1 sc1] 31) := by rw [← hw4]; exact heap_alloc_new w3 _
        have hs4 : w3.heap.size < w4.heap.size := by rw [← hw4]; simp
        have HB4 : Hid (Below w.heap.size w w4) := Lib.hid (HBW.out.trans ((hb3.trans (hb4.mono hb3.size)).mono HBW.out.size))
        have HV4 := Lib.hid (hv.below hb4)
        have HX4 := Lib.hid hx4
        have HW4 := Lib.hid hw4
        have hfr2 := rfromRows_val (R := R) (S := S) w4 (HR.out.below HB4.out) (HS.out.below HB4.out) HRS.out HSS.out hng2
        clear hfr hb3 hb4 hx4 hw4 hv
        go_wp2_with (fail)
        rw [HW4.out]
        refine hfr2.mono ?_
        rintro e w5 ⟨⟨⟨ta2, tn2, tc2, ma2, mn2, mc2, sa2, sn2, sc2⟩, rfl, hv⟩, hb5⟩
        obtain ⟨w6, hw6⟩ : ∃ w6, w5.alloc (.cells #[.slice ta2 tn2 tc2, .slice ma2 mn2 mc2, .slice sa2 sn2 sc2] 31) = w6 := ⟨_, rfl⟩
        have hb6 : Below w5.heap.size w5 w6 := hw6 ▸ below_alloc w5 _
        have hx6 : w6.heap[w5.heap.size]? = some (.cells #[.slice ta2 tn2 tc2, .slice ma2 mn2 mc2, .slice sa2 sn2 sc2] 31) := by rw [← hw6]; exact heap_alloc_new w5 _
        have hbb : Below w4.heap.size w4 w6 := hb5.trans (hb6.mono hb5.size)
        have HV1 := Lib.hid (HV4.out.below hbb)
        have HV2 := Lib.hid (hv.below hb6)
        obtain ⟨c0, c1, c2⟩ := box3v ((hbb.block w3.heap.size hs4).trans HX4.out)
        obtain ⟨e0, e1, e2⟩ := box3v hx6
        have HB6 : Hid (Below w.heap.size w w6) := Lib.hid (HB4.out.trans (hbb.mono HB4.out.size))
        have HW6 := Lib.hid hw6
        have hsame := fun w' (hb : Below w6.heap.size w6 w') => sameV_true w' (HV1.out.below hb) (HV2.out.below hb)
        clear hfr2 hb5 hb6 hx6 hbb hv hw6
        by_cases hgood : GoodVoc R S
        · rw [fC_yes hgood, fB_yes hgood]
          go_wp2_with (fail)
          rw [HW6.out]
          refine (fixed_calls w6).mono ?_
          rintro e w7 ⟨rfl, hb7⟩
          obtain ⟨c0, c1, c2⟩ : _ ∧ _ ∧ _ := ⟨cell_below hb7 _ _ c0, cell_below hb7 _ _ c1, cell_below hb7 _ _ c2⟩
          obtain ⟨e0, e1, e2⟩ : _ ∧ _ ∧ _ := ⟨cell_below hb7 _ _ e0, cell_below hb7 _ _ e1, cell_below hb7 _ _ e2⟩
          have HB7 := Lib.hid hb7
          clear hb7
          go_wp2_with (fail)
          refine (hsame w7 HB7.out).mono ?_
          rintro e w8 ⟨rfl, hb8⟩
          go_wp2_with (fail)
          go_ret
          exact ⟨rfl, HB6.out.trans ((HB7.out.trans (hb8.mono HB7.out.size)).mono HB6.out.size)⟩
        · rw [fC_no hgood, fB_no hgood]
          go_wp2_with (fail)
          rw [HW6.out]
          refine (fixed_calls w6).mono ?_
          rintro e w7 ⟨rfl, hb7⟩
          obtain ⟨c0, c1, c2⟩ : _ ∧ _ ∧ _ := ⟨cell_below hb7 _ _ c0, cell_below hb7 _ _ c1, cell_below hb7 _ _ c2⟩
          obtain ⟨e0, e1, e2⟩ : _ ∧ _ ∧ _ := ⟨cell_below hb7 _ _ e0, cell_below hb7 _ _ e1, cell_below hb7 _ _ e2⟩
          have HB7 := Lib.hid hb7
          clear hb7
          go_wp2_with (fail)
          refine (hsame w7 HB7.out).mono ?_
          rintro e w8 ⟨rfl, hb8⟩
          go_wp2_with (fail)
          go_ret
          exact ⟨rfl, HB6.out.trans ((HB7.out.trans (hb8.mono HB7.out.size)).mono HB6.out.size)⟩

set_option maxRecDepth 100000 in
theorem vocabRows_law (W : World) (base : Nat) {H : Type} {enc : TypeId × Value → H} (args : Array Value) (ds : List (DataW H)) (p : List MemPlace)
    (hval : ∀ (j : Nat) t v, Try.f3.params[j]? = some t → args[j]? = some v → Value.okWide Try.prog W .any base t v)
    (hA : DataW.TrodAll enc Try.prog W 0 (fun _ => true) true Try.f3.params.toList args.toList ds p) :
    Frame.Law Try.prog 3 args W := by
  rw [Try.params3] at hA hval
  obtain ⟨v0, v1, d0, d1, p0, p1, rfl, rfl, rfl, h0, h1⟩ := Go.ChangeShapes.trodAll_two hA
  obtain ⟨ro, rn, rc, R, rfl, hR, hrs⟩ := rws_open (hval 0 22 v0 rfl rfl) h0
  obtain ⟨so, sn, sc, S, rfl, hS, hss⟩ := sps_open (hval 1 23 v1 rfl rfl) h1
  exact vocabRows_walk W hR hS hrs hss

set_option maxRecDepth 100000 in
theorem vocabRows_lifted (os : Os) (started : os.Started) (H : Type) (enc : TypeId × Value → H) :
    ReturnsInHanded {} Try.checked os 3 .any (Rows.vocabRowsSpec.pre6 enc Try.prog Try.f3 Rows.vocabRowsRow.domain false) (Rows.vocabRowsSpec.post enc Try.prog Try.f3 false true false false) :=
  Frame.law_lift (C := Try.checked) (fn := Try.f3) own started (by kernel_rfl) Try.func3 laidOut (by decide +kernel) rfl Try.underlying4 rfl
    (fun ds h => by match ds, h with | [d1, d2], _ => rfl)
    (ChangeSpec.witness6 (enc := enc) (C := Try.checked) false ⟨#[], #[.slice none 0 0, .slice none 0 0], []⟩ 8 (by kernel_rfl) (by kernel_rfl) (by kernel_rfl) (by kernel_rfl))
    (fun W base args ds p hval hA => vocabRows_law W base args ds p hval hA)

theorem vocabRows_holds : Rows.VocabRowsSaid :=
  OpenClaim.holds_of_wide 3 Try.f3 rfl rfl rfl rfl rfl rfl rfl ⟨rfl, rfl, rfl, rfl, rfl⟩ rfl rfl rfl rfl rfl (by kernel_rfl) Try.func3 (by kernel_rfl)
    (of_decide_eq_true (by kernel_rfl)) (by unfold Func.isWrapper; rw [if_neg (of_decide_eq_false (by kernel_rfl))]; exact ⟨rfl, rfl⟩)
    (fun os started H enc _ => vocabRows_lifted os started H enc)

#print axioms vocabRows_holds
end Go.Proofs.Yteoncpkfinheoaa
