/- Walks: may a vocabulary be? (Printed by gMay.py.) -/
import Derived.Test.YteoncpkfinheoaaMaySpR
namespace Go.Proofs.Yteoncpkfinheoaa
open Go.RowKit
set_option linter.unusedVariables false

def VOk (V : Vc) : Prop := (∀ s ∈ V.tokens, s.size ≤ maxLen) ∧ Sized V.specials ∧ V.specials.length ≤ 1048576
def MayPost (V : Vc) (w : World) (e : Ending) (w' : World) : Prop := (∃ b, e = .returned (.bool b) ∧ (b = true ↔ May V)) ∧ Below w.heap.size w w'
theorem notMay1 {V : Vc} (h : ¬ MayTok V.tokens) : (false = true ↔ May V) := ⟨(fun h => by cases h), fun h2 => absurd h2.1 h⟩
theorem notMay2 {V : Vc} (h : ¬ MayMg V.tokens V.merges) : (false = true ↔ May V) := ⟨(fun h => by cases h), fun h2 => absurd h2.2.1 h⟩
theorem notMay3 {V : Vc} (h : ¬ MayMade V.tokens V.merges) : (false = true ↔ May V) := ⟨(fun h => by cases h), fun h2 => absurd h2.2.2.1 h⟩
theorem may4 {V : Vc} {b : Bool} (h1 : MayTok V.tokens) (h2 : MayMg V.tokens V.merges) (h3 : MayMade V.tokens V.merges) (h : b = true ↔ MaySp V.tokens V.specials) : (b = true ↔ May V) := by
  rw [h]; exact ⟨fun h4 => ⟨h1, h2, h3, h4⟩, fun h4 => h4.2.2.2⟩
theorem no_of {b : Bool} {P : Prop} (h : b = true ↔ P) (hb : b = false) : ¬ P := fun hp => by rw [h.2 hp] at hb; cases hb

set_option maxHeartbeats 2000000 in
theorem may_calls {V : Vc} {dd : Vd} (w : World) (hV : VocR w dd V) (hok : VOk V) :
    Calls Try.prog 31 #[dd.val] w (MayPost V w) := by
  have hspn := hV.spc.count Sp.enc_len (by omega)
  obtain ⟨ta, tn, tc, ma, mn, mc, sa, sn, sc⟩ := dd
  simp only at hspn ⊢
  obtain ⟨w0, hw0⟩ : ∃ w0, w.alloc (.cells #[.slice ta tn tc, .slice ma mn mc, .slice sa sn sc] 31) = w0 := ⟨_, rfl⟩
  have hb0 : Below w.heap.size w w0 := hw0 ▸ below_alloc w _
  have hx0 : w0.heap[w.heap.size]? = some (.cells #[.slice ta tn tc, .slice ma mn mc, .slice sa sn sc] 31) := by rw [← hw0]; exact heap_alloc_new w _
  have hs0 : w.heap.size < w0.heap.size := by rw [← hw0]; simp
  obtain ⟨c0, c1, c2⟩ := box3v hx0
  have HV := Lib.hid (hV.below hb0)
  have HX0 := Lib.hid hx0
  have HB0 := Lib.hid hb0
  have HOK := Lib.hid hok
  have HW0 := Lib.hid hw0
  have HSN := Lib.hid hspn
  clear hV hok hb0 hx0 hw0 hspn
  go_enter Try.func31, Try.ntmps31
  go_wp2_with (fail)
  rw [HW0.out]
  refine (mayTokens_calls w0 HV.out.tok HOK.out.1).mono ?_
  rintro e w1 ⟨⟨b1, rfl, hi1⟩, hb1⟩
  have HB1 := Lib.hid hb1
  have HI1 := Lib.hid hi1
  clear c0 c1 c2
  obtain ⟨c0, c1, c2⟩ := box3v ((hb1.block w.heap.size hs0).trans HX0.out)
  clear hb1 hi1
  cases b1 with
  | false =>
    have HF := Lib.hid (notMay1 (no_of HI1.out rfl))
    go_wp2_with (fail)
    go_ret
    exact ⟨⟨_, rfl, HF.out⟩, HB0.out.trans (HB1.out.mono HB0.out.size)⟩
  | true =>
    have HT := Lib.hid (HI1.out.1 rfl)
    go_wp2_with (fail)
    refine (mayMerges_calls w1 (HV.out.below HB1.out).tok (HV.out.below HB1.out).mrg HT.out).mono ?_
    rintro e w2 ⟨⟨b2, rfl, hi2⟩, hb2⟩
    have HB2 := Lib.hid (HB1.out.trans (hb2.mono HB1.out.size))
    have HI2 := Lib.hid hi2
    clear c0 c1 c2
    obtain ⟨c0, c1, c2⟩ := box3v ((HB2.out.block w.heap.size hs0).trans HX0.out)
    clear hb2 hi2
    cases b2 with
    | false =>
      have HF := Lib.hid (notMay2 (no_of HI2.out rfl))
      go_wp2_with (fail)
      go_ret
      exact ⟨⟨_, rfl, HF.out⟩, HB0.out.trans (HB2.out.mono HB0.out.size)⟩
    | true =>
      have HM := Lib.hid (HI2.out.1 rfl)
      go_wp2_with (fail)
      refine (mayMade_calls (V := V) (dd := ⟨ta, tn, tc, ma, mn, mc, sa, sn, sc⟩) w2 (HV.out.below HB2.out) HT.out HM.out).mono ?_
      rintro e w3 ⟨⟨b3, rfl, hi3⟩, hb3⟩
      have HB3 := Lib.hid (HB2.out.trans (hb3.mono HB2.out.size))
      have HI3 := Lib.hid hi3
      clear c0 c1 c2
      obtain ⟨c0, c1, c2⟩ := box3v ((HB3.out.block w.heap.size hs0).trans HX0.out)
      clear hb3 hi3
      cases b3 with
      | false =>
        have HF := Lib.hid (notMay3 (no_of HI3.out rfl))
        go_wp2_with (fail)
        go_ret
        exact ⟨⟨_, rfl, HF.out⟩, HB0.out.trans (HB3.out.mono HB0.out.size)⟩
      | true =>
        have HD := Lib.hid (HI3.out.1 rfl)
        go_wp2_with (fail)
        refine (maySpecials_calls w3 (HV.out.below HB3.out).tok (HV.out.below HB3.out).spc HOK.out.2.1 (by have h1 := HOK.out.2.2; have h2 : V.specials.length = sn := HSN.out; show sn ≤ 1048576; omega)).mono ?_
        rintro e w4 ⟨⟨b4, rfl, hi4⟩, hb4⟩
        have HB4 := Lib.hid (HB3.out.trans (hb4.mono HB3.out.size))
        have HF := Lib.hid (may4 HT.out HM.out HD.out hi4)
        clear hb4 hi4
        go_wp2_with (fail)
        go_ret
        exact ⟨⟨_, rfl, HF.out⟩, HB0.out.trans (HB4.out.mono HB0.out.size)⟩

set_option maxHeartbeats 2000000 in
theorem rmay_calls {V : Vc} {dd : Vd} (w : World) (hV : VocR w dd V) (hok : VOk V) :
    Calls Try.prog 21 #[dd.val] w (MayPost V w) := by
  have hspn := hV.spc.count Sp.enc_len (by omega)
  obtain ⟨ta, tn, tc, ma, mn, mc, sa, sn, sc⟩ := dd
  simp only at hspn ⊢
  obtain ⟨w0, hw0⟩ : ∃ w0, w.alloc (.cells #[.slice ta tn tc, .slice ma mn mc, .slice sa sn sc] 31) = w0 := ⟨_, rfl⟩
  have hb0 : Below w.heap.size w w0 := hw0 ▸ below_alloc w _
  have hx0 : w0.heap[w.heap.size]? = some (.cells #[.slice ta tn tc, .slice ma mn mc, .slice sa sn sc] 31) := by rw [← hw0]; exact heap_alloc_new w _
  have hs0 : w.heap.size < w0.heap.size := by rw [← hw0]; simp
  obtain ⟨c0, c1, c2⟩ := box3v hx0
  have HV := Lib.hid (hV.below hb0)
  have HX0 := Lib.hid hx0
  have HB0 := Lib.hid hb0
  have HOK := Lib.hid hok
  have HW0 := Lib.hid hw0
  have HSN := Lib.hid hspn
  clear hV hok hb0 hx0 hw0 hspn
  go_enter Try.func21, Try.ntmps21
  go_wp2_with (fail)
  rw [HW0.out]
  refine (rmayTokens_calls w0 HV.out.tok HOK.out.1).mono ?_
  rintro e w1 ⟨⟨b1, rfl, hi1⟩, hb1⟩
  have HB1 := Lib.hid hb1
  have HI1 := Lib.hid hi1
  clear c0 c1 c2
  obtain ⟨c0, c1, c2⟩ := box3v ((hb1.block w.heap.size hs0).trans HX0.out)
  clear hb1 hi1
  cases b1 with
  | false =>
    have HF := Lib.hid (notMay1 (no_of HI1.out rfl))
    go_wp2_with (fail)
    go_ret
    exact ⟨⟨_, rfl, HF.out⟩, HB0.out.trans (HB1.out.mono HB0.out.size)⟩
  | true =>
    have HT := Lib.hid (HI1.out.1 rfl)
    go_wp2_with (fail)
    refine (rmayMerges_calls (V := V) (dd := ⟨ta, tn, tc, ma, mn, mc, sa, sn, sc⟩) w1 (HV.out.below HB1.out) HT.out).mono ?_
    rintro e w2 ⟨⟨b2, rfl, hi2⟩, hb2⟩
    have HB2 := Lib.hid (HB1.out.trans (hb2.mono HB1.out.size))
    have HI2 := Lib.hid hi2
    clear c0 c1 c2
    obtain ⟨c0, c1, c2⟩ := box3v ((HB2.out.block w.heap.size hs0).trans HX0.out)
    clear hb2 hi2
    cases b2 with
    | false =>
      have HF := Lib.hid (notMay2 (no_of HI2.out rfl))
      go_wp2_with (fail)
      go_ret
      exact ⟨⟨_, rfl, HF.out⟩, HB0.out.trans (HB2.out.mono HB0.out.size)⟩
    | true =>
      have HM := Lib.hid (HI2.out.1 rfl)
      go_wp2_with (fail)
      refine (rmayMade_calls (V := V) (dd := ⟨ta, tn, tc, ma, mn, mc, sa, sn, sc⟩) w2 (HV.out.below HB2.out) HT.out).mono ?_
      rintro e w3 ⟨⟨b3, rfl, hi3⟩, hb3⟩
      have HB3 := Lib.hid (HB2.out.trans (hb3.mono HB2.out.size))
      have HI3 := Lib.hid hi3
      clear c0 c1 c2
      obtain ⟨c0, c1, c2⟩ := box3v ((HB3.out.block w.heap.size hs0).trans HX0.out)
      clear hb3 hi3
      cases b3 with
      | false =>
        have HF := Lib.hid (notMay3 (no_of HI3.out rfl))
        go_wp2_with (fail)
        go_ret
        exact ⟨⟨_, rfl, HF.out⟩, HB0.out.trans (HB3.out.mono HB0.out.size)⟩
      | true =>
        have HD := Lib.hid (HI3.out.1 rfl)
        go_wp2_with (fail)
        refine (rmaySpecials_calls (V := V) (dd := ⟨ta, tn, tc, ma, mn, mc, sa, sn, sc⟩) w3 (HV.out.below HB3.out) HOK.out.2.1).mono ?_
        rintro e w4 ⟨⟨b4, rfl, hi4⟩, hb4⟩
        have HB4 := Lib.hid (HB3.out.trans (hb4.mono HB3.out.size))
        have HF := Lib.hid (may4 HT.out HM.out HD.out hi4)
        clear hb4 hi4
        go_wp2_with (fail)
        go_ret
        exact ⟨⟨_, rfl, HF.out⟩, HB0.out.trans (HB4.out.mono HB0.out.size)⟩

end Go.Proofs.Yteoncpkfinheoaa
