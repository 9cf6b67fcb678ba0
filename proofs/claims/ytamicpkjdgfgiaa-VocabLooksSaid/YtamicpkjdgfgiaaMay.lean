/- Walks: may a vocabulary be? (Printed by gMay.py.) -/
import Derived.Test.YtamicpkjdgfgiaaMaySpR
namespace Go.Proofs.Ytamicpkjdgfgiaa
open Go.RowKit
set_option linter.unusedVariables false

def VOk (V : Vc) : Prop := (∀ s ∈ V.tokens, s.size ≤ maxLen) ∧ Sized V.specials ∧ V.specials.length ≤ 1048576
def MayPost (V : Vc) (w : World) (e : Ending) (w' : World) : Prop := (∃ b, e = .returned (.bool b) ∧ (b = true ↔ May V)) ∧ Below w.heap.size w w'
theorem notMay1 {V : Vc} (h : ¬ MayTok V.tokens) : (false = true ↔ May V) := ⟨(fun h => by cases h), fun h2 => absurd h2.1 h⟩
theorem notMay2 {V : Vc} (h : ¬ MayMg V.tokens V.merges) : (false = true ↔ May V) := ⟨(fun h => by cases h), fun h2 => absurd h2.2.1 h⟩
theorem notMay3 {V : Vc} (h : ¬ MayMade V.tokens V.merges) : (false = true ↔ May V) := ⟨(fun h => by cases h), fun h2 => absurd h2.2.2.1 h⟩
theorem may4 {V : Vc} {b : Bool} (h1 : MayTok V.tokens) (h2 : MayMg V.tokens V.merges) (h3 : MayMade V.tokens V.merges) (h : b = true ↔ MaySp V.tokens V.specials) : (b = true ↔ May V) := by
  rw [h]; exact ⟨fun h4 => ⟨h1, h2, h3, h4⟩, fun h4 => h4.2.2.2⟩
theorem no_of {b : Bool} {P : Prop} (h : b = true ↔ P) (hb : b = false) : ¬ P := fun hp => by rw [h.2 hp] at hb; cases hb

set_option maxHeartbeats 2000000 in
theorem may_calls {V : Vc} {dd : Vd} (w : World) (hV : VocR w dd V) (hok : VOk V) :
    Calls Try.prog 11 #[dd.val] w (MayPost V w) := by
  have hspn := hV.spc.count Sp.enc_len (by omega)
  obtain ⟨ta, tn, tc, ma, mn, mc, sa, sn, sc⟩ := dd
  simp only at hspn ⊢
  obtain ⟨w0, hw0⟩ : ∃ w0, w.alloc (.cells #[.slice ta tn tc, .slice ma mn mc, .slice sa sn sc] 26) = w0 := ⟨_, rfl⟩
  have hb0 : Below w.heap.size w w0 := hw0 ▸ below_alloc w _
  have hx0 : w0.heap[w.heap.size]? = some (.cells #[.slice ta tn tc, .slice ma mn mc, .slice sa sn sc] 26) := by rw [← hw0]; exact heap_alloc_new w _
  have hs0 : w.heap.size < w0.heap.size := by rw [← hw0]; simp
  obtain ⟨c0, c1, c2⟩ := box3v hx0
  have HV := Lib.hid (hV.below hb0)
  have HX0 := Lib.hid hx0
  have HB0 := Lib.hid hb0
  have HOK := Lib.hid hok
  have HW0 := Lib.hid hw0
  have HSN := Lib.hid hspn
  clear hV hok hb0 hx0 hw0 hspn
  go_enter Try.func11, Try.ntmps11
  go_wp2_with (fail)
  rw [HW0.out]
  refine (mayTokens_calls w0 HV.out.tok HOK.out.1).mono ?_
  rintro e w1 ⟨⟨b1, rfl, hi1⟩, hb1⟩
  have HB1 := Lib.hid hb1
  have HI1 := Lib.hid hi1
  clear c0 c1 c2
  obtain ⟨c0, c1, c2⟩ := box3v ((hb1.block w.heap.size hs0).trans HX0.out)
  clear hb1 hi1
  cases b1 with
  | false =>
    have HF := Lib.hid (notMay1 (no_of HI1.out rfl))
    go_wp2_with (fail)
    go_ret
    exact ⟨⟨_, rfl, HF.out⟩, HB0.out.trans (HB1.out.mono HB0.out.size)⟩
  | true =>
    have HT := Lib.hid (HI1.out.1 rfl)
    go_wp2_with (fail)
    refine (mayMerges_calls w1 (HV.out.below HB1.out).tok (HV.out.below HB1.out).mrg HT.out).mono ?_
    rintro e w2 ⟨⟨b2, rfl, hi2⟩, hb2⟩
    have HB2 := Lib.hid (HB1.out.trans (hb2.mono HB1.out.size))
    have HI2 := Lib.hid hi2
    clear c0 c1 c2
    obtain ⟨c0, c1, c2⟩ := box3v ((HB2.out.block w.heap.size hs0).trans HX0.out)
    clear hb2 hi2
    cases b2 with
    | false =>
      have HF := Lib.hid (notMay2 (no_of HI2.out rfl))
      go_wp2_with (fail)
      go_ret
      exact ⟨⟨_, rfl, HF.out⟩, HB0.out.trans (HB2.out.mono HB0.out.size)⟩
    | true =>
      have HM := Lib.hid (HI2.out.1 rfl)
      go_wp2_with (fail)
      refine (mayMade_calls (V := V) (dd := ⟨ta, tn, tc, ma, mn, mc, sa, sn, sc⟩) w2 (HV.out.below HB2.out) HT.out HM.out).mono ?_
      rintro e w3 ⟨⟨b3, rfl, hi3⟩, hb3⟩
      have HB3 := Lib.hid (HB2.out.trans (hb3.mono HB2.out.size))
      have HI3 := Lib.hid hi3
      clear c0 c1 c2
      obtain ⟨c0, c1, c2⟩ := box3v ((HB3.out.block w.heap.size hs0).trans HX0.out)
      clear hb3 hi3
      cases b3 with
      | false =>
        have HF := Lib.hid (notMay3 (no_of HI3.out rfl))
        go_wp2_with (fail)
        go_ret
        exact ⟨⟨_, rfl, HF.out⟩, HB0.out.trans (HB3.out.mono HB0.out.size)⟩
      | true =>
        have HD := Lib.hid (HI3.out.1 rfl)
        go_wp2_with (fail)
        refine (maySpecials_calls w3 (HV.out.below HB3.out).tok (HV.out.below HB3.out).spc HOK.out.2.1 (by have h1 := HOK.out.2.2; have h2 : V.specials.length = sn := HSN.out; show sn ≤ 1048576; omega)).mono ?_
        rintro e w4 ⟨⟨b4, rfl, hi4⟩, hb4⟩
        have HB4 := Lib.hid (HB3.out.trans (hb4.mono HB3.out.size))
        have HF := Lib.hid (may4 HT.out HM.out HD.out hi4)
        clear hb4 hi4
        go_wp2_with (fail)
        go_ret
        exact ⟨⟨_, rfl, HF.out⟩, HB0.out.trans (HB4.out.mono HB0.out.size)⟩

set_option maxHeartbeats 2000000 in
theorem rmay_calls {V : Vc} {dd : Vd} (w : World) (hV : VocR w dd V) (hok : VOk V) :
    Calls Try.prog 12 #[dd.val] w (MayPost V w) := by
  have hspn := hV.spc.count Sp.enc_len (by omega)
  obtain ⟨ta, tn, tc, ma, mn, mc, sa, sn, sc⟩ := dd
  simp only at hspn ⊢
  obtain ⟨w0, hw0⟩ : ∃ w0, w.alloc (.cells #[.slice ta tn tc, .slice ma mn mc, .slice sa sn sc] 26) = w0 := ⟨_, rfl⟩
  have hb0 : Below w.heap.size w w0 := hw0 ▸ below_alloc w _
  have hx0 : w0.heap[w.heap.size]? = some (.cells #[.slice ta tn tc, .slice ma mn mc, .slice sa sn sc] 26) := by rw [← hw0]; exact heap_alloc_new w _
  have hs0 : w.heap.size < w0.heap.size := by rw [← hw0]; simp
  obtain ⟨c0, c1, c2⟩ := box3v hx0
  have HV := Lib.hid (hV.below hb0)
  have HX0 := Lib.hid hx0
  have HB0 := Lib.hid hb0
  have HOK := Lib.hid hok
  have HW0 := Lib.hid hw0
  have HSN := Lib.hid hspn
  clear hV hok hb0 hx0 hw0 hspn
  go_enter Try.func12, Try.ntmps12
  go_wp2_with (fail)
  rw [HW0.out]
  refine (rmayTokens_calls w0 HV.out.tok HOK.out.1).mono ?_
  rintro e w1 ⟨⟨b1, rfl, hi1⟩, hb1⟩
  have HB1 := Lib.hid hb1
  have HI1 := Lib.hid hi1
  clear c0 c1 c2
  obtain ⟨c0, c1, c2⟩ := box3v ((hb1.block w.heap.size hs0).trans HX0.out)
  clear hb1 hi1
  cases b1 with
  | false =>
    have HF := Lib.hid (notMay1 (no_of HI1.out rfl))
    go_wp2_with (fail)
    go_ret
    exact ⟨⟨_, rfl, HF.out⟩, HB0.out.trans (HB1.out.mono HB0.out.size)⟩
  | true =>
    have HT := Lib.hid (HI1.out.1 rfl)
    go_wp2_with (fail)
    refine (rmayMerges_calls (V := V) (dd := ⟨ta, tn, tc, ma, mn, mc, sa, sn, sc⟩) w1 (HV.out.below HB1.out) HT.out).mono ?_
    rintro e w2 ⟨⟨b2, rfl, hi2⟩, hb2⟩
    have HB2 := Lib.hid (HB1.out.trans (hb2.mono HB1.out.size))
    have HI2 := Lib.hid hi2
    clear c0 c1 c2
    obtain ⟨c0, c1, c2⟩ := box3v ((HB2.out.block w.heap.size hs0).trans HX0.out)
    clear hb2 hi2
    cases b2 with
    | false =>
      have HF := Lib.hid (notMay2 (no_of HI2.out rfl))
      go_wp2_with (fail)
      go_ret
      exact ⟨⟨_, rfl, HF.out⟩, HB0.out.trans (HB2.out.mono HB0.out.size)⟩
    | true =>
      have HM := Lib.hid (HI2.out.1 rfl)
      go_wp2_with (fail)
      refine (rmayMade_calls (V := V) (dd := ⟨ta, tn, tc, ma, mn, mc, sa, sn, sc⟩) w2 (HV.out.below HB2.out) HT.out).mono ?_
      rintro e w3 ⟨⟨b3, rfl, hi3⟩, hb3⟩
      have HB3 := Lib.hid (HB2.out.trans (hb3.mono HB2.out.size))
      have HI3 := Lib.hid hi3
      clear c0 c1 c2
      obtain ⟨c0, c1, c2⟩ := box3v ((HB3.out.block w.heap.size hs0).trans HX0.out)
      clear hb3 hi3
      cases b3 with
      | false =>
        have HF := Lib.hid (notMay3 (no_of HI3.out rfl))
        go_wp2_with (fail)
        go_ret
        exact ⟨⟨_, rfl, HF.out⟩, HB0.out.trans (HB3.out.mono HB0.out.size)⟩
      | true =>
        have HD := Lib.hid (HI3.out.1 rfl)
        go_wp2_with (fail)
        refine (rmaySpecials_calls (V := V) (dd := ⟨ta, tn, tc, ma, mn, mc, sa, sn, sc⟩) w3 (HV.out.below HB3.out) HOK.out.2.1).mono ?_
        rintro e w4 ⟨⟨b4, rfl, hi4⟩, hb4⟩
        have HB4 := Lib.hid (HB3.out.trans (hb4.mono HB3.out.size))
        have HF := Lib.hid (may4 HT.out HM.out HD.out hi4)
        clear hb4 hi4
        go_wp2_with (fail)
        go_ret
        exact ⟨⟨_, rfl, HF.out⟩, HB0.out.trans (HB4.out.mono HB0.out.size)⟩

/-- Has a vocabulary more than is gone through? -/
def GreatV (V : Vc) : Prop := 400 < V.tokens.length ∨ 300 < V.merges.length ∨ 20 < V.specials.length ∨ (∃ s ∈ V.tokens, 80 < s.size) ∨ ∃ s ∈ V.specials, 40 < s.name.size
def GreatPost (V : Vc) (w : World) (e : Ending) (w' : World) : Prop := (∃ b, e = .returned (.bool b) ∧ (b = true ↔ GreatV V)) ∧ Below w.heap.size w w'

set_option maxHeartbeats 2000000 in
theorem greatV_calls {V : Vc} {dd : Vd} (w : World) (hV : VocR w dd V) (hok : (∀ s ∈ V.tokens, s.size ≤ maxLen) ∧ Sized V.specials) :
    Calls Try.prog 9 #[dd.val] w (GreatPost V w) := by
  have hcs := hV.spc.count Sp.enc_len (by omega)
  have hcm := hV.mrg.count Mg.enc_len (by omega)
  have hct := hV.tok.count
  have hm1 := Nat.le_trans (Sl.le hV.tok) (Sl.max hV.tok)
  have hm2 := Nat.le_trans hV.mrg.le hV.mrg.max
  have hm3 := Nat.le_trans hV.spc.le hV.spc.max
  obtain ⟨ta, tn, tc, ma, mn, mc, sa, sn, sc⟩ := dd
  simp only at hcs hcm hct hm1 hm2 hm3 ⊢
  unfold maxLen at hm1 hm2 hm3
  obtain ⟨w0, hw0⟩ : ∃ w0, w.alloc (.cells #[.slice ta tn tc, .slice ma mn mc, .slice sa sn sc] 26) = w0 := ⟨_, rfl⟩
  have hb0 : Below w.heap.size w w0 := hw0 ▸ below_alloc w _
  have hx0 : w0.heap[w.heap.size]? = some (.cells #[.slice ta tn tc, .slice ma mn mc, .slice sa sn sc] 26) := by rw [← hw0]; exact heap_alloc_new w _
  obtain ⟨c0, c1, c2⟩ := box3v hx0
  have HV := Lib.hid (hV.below hb0)
  have HB0 := Lib.hid hb0
  have HOK := Lib.hid hok
  have HW0 := Lib.hid hw0
  have HCS := Lib.hid hcs
  have HCM := Lib.hid hcm
  have HCT := Lib.hid hct
  clear hV hok hb0 hx0 hw0 hcs hcm hct
  by_cases h1 : (400 : Int) < tn
  · have HF : Hid (true = true ↔ GreatV V) := Lib.hid ⟨fun _ => .inl (by rw [HCT.out]; omega), fun _ => rfl⟩
    go_enter Try.func9, Try.ntmps9
    go_wp2_with (fail)
    go_ret
    exact ⟨⟨_, rfl, by simpa using HF.out⟩, by rw [HW0.out]; exact HB0.out⟩
  by_cases h2 : (300 : Int) < mn
  · have HF : Hid (true = true ↔ GreatV V) := Lib.hid ⟨fun _ => .inr (.inl (by rw [HCM.out]; omega)), fun _ => rfl⟩
    go_enter Try.func9, Try.ntmps9
    go_wp2_with (fail)
    go_ret
    exact ⟨⟨_, rfl, by simpa using HF.out⟩, by rw [HW0.out]; exact HB0.out⟩
  by_cases h3 : (20 : Int) < sn
  · have HF : Hid (true = true ↔ GreatV V) := Lib.hid ⟨fun _ => .inr (.inr (.inl (by rw [HCS.out]; omega))), fun _ => rfl⟩
    go_enter Try.func9, Try.ntmps9
    go_wp2_with (fail)
    go_ret
    exact ⟨⟨_, rfl, by simpa using HF.out⟩, by rw [HW0.out]; exact HB0.out⟩
  go_enter Try.func9, Try.ntmps9
  go_wp2_with (fail)
  rw [HW0.out]
  go_loop [3, 24] (fun _ i => ∃ k : Nat, k ≤ tn ∧ i = .int .i64 k ∧ Hid (∀ j, j < k → ¬ 80 < (tk V.tokens j).size)) (fun _ i => tn - (intOf i).toNat)
  case atStart => exact ⟨0, Nat.zero_le _, rfl, Lib.hid (fun j h => by omega)⟩
  case round =>
    obtain ⟨k, hk, rfl, HK⟩ := hrel
    by_cases hlt : k < tn
    · have hkT : k < V.tokens.length := by have := HCT.out; omega
      obtain ⟨b, o, hao, hc⟩ := SlS.cell HV.out.tok (tk_eq hkT)
      simp only at hao
      subst hao
      have hks := HOK.out.1 _ (tk_mem hkT)
      unfold maxLen at hks
      by_cases h80 : (80 : Int) < (tk V.tokens k).size
      · have HF : Hid (GreatV V) := Lib.hid (.inr (.inr (.inr (.inl ⟨_, tk_mem hkT, by omega⟩))))
        go_wp2_with (fail)
        go_ret
        exact ⟨⟨_, rfl, (fun _ => HF.out), (fun _ => rfl)⟩, HB0.out⟩
      · have HK2 : Hid (∀ j, j < k + 1 → ¬ 80 < (tk V.tokens j).size) := Lib.hid (fun j hj => by
          by_cases e : j = k
          · subst e; omega
          · exact HK.out j (by omega))
        go_wp2_with (fail)
        go_round
        case rel => exact ⟨k + 1, by omega, by go_num, HK2⟩
        case measure => simp [intOf]; omega
    · have HKA : Hid (∀ s ∈ V.tokens, ¬ 80 < s.size) := Lib.hid (fun s hs => by
        obtain ⟨j, hj, rfl⟩ := mem_tk hs
        exact HK.out j (by have := HCT.out; omega))
      go_wp2_with (fail)
      go_loop [4, 38] (fun _ i => ∃ q : Nat, q ≤ sn ∧ i = .int .i64 q ∧ Hid (∀ j, j < q → ¬ 40 < (sp V.specials j).name.size)) (fun _ i => sn - (intOf i).toNat)
      case atStart => exact ⟨0, Nat.zero_le _, rfl, Lib.hid (fun j h => by omega)⟩
      case round =>
        obtain ⟨q, hq, rfl, HQ⟩ := hrel
        by_cases hltq : q < sn
        · have hqS : q < V.specials.length := by have := HCS.out; omega
          obtain ⟨b, o, hao, hce⟩ := HV.out.spc.elem Sp.enc_len (by omega) (sp_eq hqS)
          simp only at hao
          subst hao
          have d0 := hce 0 _ rfl
          rw [Nat.add_zero] at d0
          have hks := HOK.out.2 _ (List.mem_of_getElem? (sp_eq hqS))
          unfold maxLen at hks
          clear hce
          by_cases h40 : (40 : Int) < (sp V.specials q).name.size
          · have HF : Hid (GreatV V) := Lib.hid (.inr (.inr (.inr (.inr ⟨_, List.mem_of_getElem? (sp_eq hqS), by omega⟩))))
            go_wp2_with (fail)
            go_ret
            exact ⟨⟨_, rfl, (fun _ => HF.out), (fun _ => rfl)⟩, HB0.out⟩
          · have HQ2 : Hid (∀ j, j < q + 1 → ¬ 40 < (sp V.specials j).name.size) := Lib.hid (fun j hj => by
              by_cases e : j = q
              · subst e; omega
              · exact HQ.out j (by omega))
            go_wp2_with (fail)
            go_round
            case rel => exact ⟨q + 1, by omega, by go_num, HQ2⟩
            case measure => simp [intOf]; omega
        · have HF : Hid (¬ GreatV V) := Lib.hid (by
            rintro (h | h | h | ⟨s, hs, h⟩ | ⟨s, hs, h⟩)
            · have := HCT.out; omega
            · have := HCM.out; omega
            · have := HCS.out; omega
            · exact HKA.out s hs h
            · obtain ⟨j, hj, rfl⟩ := List.getElem_of_mem hs
              rw [sp_get hj] at h
              exact HQ.out j (by have := HCS.out; omega) h)
          go_wp2_with (fail)
          go_ret
          exact ⟨⟨_, rfl, (fun h => by cases h), (fun h => absurd h HF.out)⟩, HB0.out⟩

end Go.Proofs.Ytamicpkjdgfgiaa
