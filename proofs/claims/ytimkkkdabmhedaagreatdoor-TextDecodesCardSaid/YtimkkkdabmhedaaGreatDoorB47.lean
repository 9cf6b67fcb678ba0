/- Walk: may names be, by the document? (Printed by gNamesR.py.) -/
import Derived.Test.YtimkkkdabmhedaaGreatDoorB28
import Derived.Test.YtimkkkdabmhedaaGreatDoorB8
import Derived.Test.YtimkkkdabmhedaaGreatDoorB46
import Derived.Test.YtimkkkdabmhedaaGreatDoorB9
import Derived.Test.YtimkkkdabmhedaaGreatDoorB29
namespace Go.Proofs.YtimkkkdabmhedaaGreatDoor
open Go.RowKit
set_option linter.unusedVariables false

theorem rname_q (s : ByteArray) (hs : s.size ≤ maxLen) (b : Bool) (hb : b = true ↔ MayName s) {w : World} (m : Nat) :
    Calls Tryz.prog 86 #[.string s] (w.drewN m) fun e w' => e = .returned (.bool b) ∧ w' = w.drewN m :=
  (rmayName_calls s hs (w.drewN m)).mono fun e w' ⟨⟨b', he, hb'⟩, hw⟩ => ⟨by rw [he, bool_eq hb' hb], hw.symm⟩

set_option maxHeartbeats 2000000 in
theorem rmayNames_calls {N : List ByteArray} {no : Option Addr} {nn nc : Nat} (w : World) (hN : SlS w no nn nc N) (hsz : ∀ s ∈ N, s.size ≤ maxLen) :
    Calls Tryz.prog 56 #[.slice no nn nc] w (NamesPost N w) := by
  have hm := Nat.le_trans (Sl.le hN) (Sl.max hN)
  unfold maxLen at hm
  have HL := Lib.hid hN.count
  have HN := Lib.hid hN
  have HSZ := Lib.hid hsz
  clear hN hsz
  go_enter Tryz.func56, Tryz.ntmps56
  go_wp2_with (fail)
  go_loopw [6] (fun i wr => ∃ k : Nat, k ≤ nn ∧ i = .int .i64 k ∧ Hid (NamesTo N k) ∧ Below w.heap.size w wr) (fun i _ => nn - (intOf i).toNat)
  case atStart => exact ⟨0, Nat.zero_le _, rfl, Lib.hid (NamesTo.zero N), Below.refl _ _⟩
  case round =>
    obtain ⟨k, hk, rfl, HT, hb⟩ := hrel
    have HB := Lib.hid hb
    clear hb
    by_cases hlt : k < nn
    · have hkN : k < N.length := by have := HL.out; omega
      obtain ⟨b, o, rfl, hc⟩ := SlS.cell (Sl.below HN.out HB.out) (tk_eq hkN)
      have HS1 := Lib.hid (HSZ.out _ (tk_mem hkN))
      obtain ⟨s, hs⟩ : ∃ s, tk N k = s := ⟨_, rfl⟩
      rw [hs] at hc HS1
      have HSE := Lib.hid hs
      have gk : (k : Int) < (nn : Int) := by omega
      clear hs
      by_cases hnm : MayName s
      · have HM := Lib.hid hnm
        have HQ := Lib.hid (fun (w : World) (m : Nat) => rname_q s HS1.out true ⟨fun _ => HM.out, fun _ => rfl⟩ (w := w) m)
        clear hnm
        by_cases hk0 : k = 0
        · have HT2 := Lib.hid (HT.out.next (by rw [HSE.out]; exact HM.out) (fun h => by omega))
          have q0 : decide ((0 : Int) < (k : Int)) = false := by simp; omega
          have q1 : decide (0 < k) = false := by simp; omega
          clear hk0
          go_wp2_with (fail)
          go_quiet ((go_at_call 86; exact Calls.quiet_of_same (HQ.out _ _)))
          go_wp2_with (fail)
          go_roundw
          case rel => exact ⟨k + 1, by omega, by go_num, HT2, below_drewN HB.out _⟩
          case measure => simp [intOf]; omega
        obtain ⟨q, rfl⟩ : ∃ q, k = q + 1 := ⟨k - 1, by omega⟩
        obtain ⟨b', o', hao, hp⟩ := SlS.cell (Sl.below HN.out HB.out) (tk_eq (T := N) (i := q) (by omega))
        simp only [Option.some.injEq, Addr.mk.injEq, and_true] at hao
        obtain ⟨rfl, rfl⟩ := hao
        obtain ⟨p, hpq⟩ : ∃ p, tk N q = p := ⟨_, rfl⟩
        rw [hpq] at hp
        have HPE := Lib.hid hpq
        have q0 : decide ((0 : Int) < ((q + 1 : Nat) : Int)) = true := by simp
        have q1 : decide (0 < q + 1) = true := by simp
        have q2 : IntKind.i64.wrap (((q + 1 : Nat) : Int) - 1) = (q : Int) := by rw [IntKind.wrap_i64]; omega
        have q3 : ((q + 1 : Nat) : Int) - 1 = (q : Int) := by omega
        have q4 : (q : Int) < (nn : Int) := by omega
        have q5 : ((q : Int) + 1 - 1).toNat = q := by omega
        have q6 : (q : Int) + 1 - 1 = (q : Int) := by omega
        clear hpq hk0
        cases hbl : Op.bytesLess p.toList s.toList with
        | false =>
          have HF := Lib.hid (notNames_rise (N := N) (k := q + 1) (by omega) hkN (by rw [HSE.out, show q + 1 - 1 = q by omega, HPE.out]; exact hbl))
          go_wp2_with (fail)
          go_quiet ((go_at_call 86; exact Calls.quiet_of_same (HQ.out _ _)))
          go_wp2_with (fail)
          go_ret
          exact ⟨⟨_, rfl, HF.out⟩, below_drewN HB.out _⟩
        | true =>
          have HT2 := Lib.hid (HT.out.next (by rw [HSE.out]; exact HM.out) (fun _ => by rw [HSE.out, show q + 1 - 1 = q by omega, HPE.out]; exact hbl))
          go_wp2_with (fail)
          go_quiet ((go_at_call 86; exact Calls.quiet_of_same (HQ.out _ _)))
          go_wp2_with (fail)
          go_roundw
          case rel => exact ⟨q + 1 + 1, by omega, by go_num, HT2, below_drewN HB.out _⟩
          case measure => simp [intOf]; omega
      · have HF := Lib.hid (notNames_name hkN (by rw [HSE.out]; exact hnm))
        have HQ := Lib.hid (fun (w : World) (m : Nat) => rname_q s HS1.out false ⟨(fun h => by cases h), (fun h => absurd h hnm)⟩ (w := w) m)
        clear hnm
        go_wp2_with (fail)
        go_quiet ((go_at_call 86; exact Calls.quiet_of_same (HQ.out _ _)))
        go_wp2_with (fail)
        go_ret
        exact ⟨⟨_, rfl, HF.out⟩, below_drewN HB.out _⟩
    · by_cases h2 : (nn : Int) ≤ 16
      · have HF : Hid (MayNames N) := Lib.hid (HT.out.all (by have := HL.out; omega) (by have := HL.out; omega))
        have h2' : nn ≤ 16 := by omega
        go_wp2_with (fail)
        go_ret
        exact ⟨⟨_, rfl, (fun _ => HF.out), (fun _ => by simp <;> omega)⟩, HB.out⟩
      · have HF : Hid (¬ MayNames N) := Lib.hid (fun h => by have := h.1; have := HL.out; omega)
        have h2' : ¬ nn ≤ 16 := by omega
        go_wp2_with (fail)
        go_ret
        exact ⟨⟨false, by simp <;> omega, (fun h => by cases h), (fun h => absurd h HF.out)⟩, HB.out⟩

end Go.Proofs.YtimkkkdabmhedaaGreatDoor

/- Walk: has a vocabulary more than is gone through? (The second half of what gMay.py prints.) -/
namespace Go.Proofs.YtimkkkdabmhedaaGreatDoor
open Go.RowKit
set_option linter.unusedVariables false

/-- Has a vocabulary more than is gone through? -/
def GreatV (V : Vc) : Prop := 400 < V.tokens.length ∨ 300 < V.merges.length ∨ 20 < V.specials.length ∨ (∃ s ∈ V.tokens, 80 < s.size) ∨ ∃ s ∈ V.specials, 40 < s.name.size
def GreatPost (V : Vc) (w : World) (e : Ending) (w' : World) : Prop := (∃ b, e = .returned (.bool b) ∧ (b = true ↔ GreatV V)) ∧ Below w.heap.size w w'

set_option maxHeartbeats 2000000 in
theorem greatV_calls {V : Vc} {dd : Vd} (w : World) (hV : VocR w dd V) (hok : (∀ s ∈ V.tokens, s.size ≤ maxLen) ∧ Sized V.specials) :
    Calls Tryz.prog 44 #[dd.val] w (GreatPost V w) := by
  have hcs := hV.spc.count Sp.enc_len (by omega)
  have hcm := hV.mrg.count Mg.enc_len (by omega)
  have hct := hV.tok.count
  have hm1 := Nat.le_trans (Sl.le hV.tok) (Sl.max hV.tok)
  have hm2 := Nat.le_trans hV.mrg.le hV.mrg.max
  have hm3 := Nat.le_trans hV.spc.le hV.spc.max
  obtain ⟨ta, tn, tc, ma, mn, mc, sa, sn, sc⟩ := dd
  simp only at hcs hcm hct hm1 hm2 hm3 ⊢
  unfold maxLen at hm1 hm2 hm3
  obtain ⟨w0, hw0⟩ : ∃ w0, w.alloc (.cells #[.slice ta tn tc, .slice ma mn mc, .slice sa sn sc] 26) = w0 := ⟨_, rfl⟩
  have hb0 : Below w.heap.size w w0 := hw0 ▸ below_alloc w _
  have hx0 : w0.heap[w.heap.size]? = some (.cells #[.slice ta tn tc, .slice ma mn mc, .slice sa sn sc] 26) := by rw [← hw0]; exact heap_alloc_new w _
  obtain ⟨c0, c1, c2⟩ := box3v hx0
  have HV := Lib.hid (hV.below hb0)
  have HB0 := Lib.hid hb0
  have HOK := Lib.hid hok
  have HW0 := Lib.hid hw0
  have HCS := Lib.hid hcs
  have HCM := Lib.hid hcm
  have HCT := Lib.hid hct
  clear hV hok hb0 hx0 hw0 hcs hcm hct
  by_cases h1 : (400 : Int) < tn
  · have HF : Hid (true = true ↔ GreatV V) := Lib.hid ⟨fun _ => .inl (by rw [HCT.out]; omega), fun _ => rfl⟩
    go_enter Tryz.func44, Tryz.ntmps44
    go_wp2_with (fail)
    go_ret
    exact ⟨⟨_, rfl, by simpa using HF.out⟩, by rw [HW0.out]; exact HB0.out⟩
  by_cases h2 : (300 : Int) < mn
  · have HF : Hid (true = true ↔ GreatV V) := Lib.hid ⟨fun _ => .inr (.inl (by rw [HCM.out]; omega)), fun _ => rfl⟩
    go_enter Tryz.func44, Tryz.ntmps44
    go_wp2_with (fail)
    go_ret
    exact ⟨⟨_, rfl, by simpa using HF.out⟩, by rw [HW0.out]; exact HB0.out⟩
  by_cases h3 : (20 : Int) < sn
  · have HF : Hid (true = true ↔ GreatV V) := Lib.hid ⟨fun _ => .inr (.inr (.inl (by rw [HCS.out]; omega))), fun _ => rfl⟩
    go_enter Tryz.func44, Tryz.ntmps44
    go_wp2_with (fail)
    go_ret
    exact ⟨⟨_, rfl, by simpa using HF.out⟩, by rw [HW0.out]; exact HB0.out⟩
  go_enter Tryz.func44, Tryz.ntmps44
  go_wp2_with (fail)
  rw [HW0.out]
  go_loop [3, 24] (fun _ i => ∃ k : Nat, k ≤ tn ∧ i = .int .i64 k ∧ Hid (∀ j, j < k → ¬ 80 < (tk V.tokens j).size)) (fun _ i => tn - (intOf i).toNat)
  case atStart => exact ⟨0, Nat.zero_le _, rfl, Lib.hid (fun j h => by omega)⟩
  case round =>
    obtain ⟨k, hk, rfl, HK⟩ := hrel
    by_cases hlt : k < tn
    · have hkT : k < V.tokens.length := by have := HCT.out; omega
      obtain ⟨b, o, hao, hc⟩ := SlS.cell HV.out.tok (tk_eq hkT)
      simp only at hao
      subst hao
      have hks := HOK.out.1 _ (tk_mem hkT)
      unfold maxLen at hks
      by_cases h80 : (80 : Int) < (tk V.tokens k).size
      · have HF : Hid (GreatV V) := Lib.hid (.inr (.inr (.inr (.inl ⟨_, tk_mem hkT, by omega⟩))))
        go_wp2_with (fail)
        go_ret
        exact ⟨⟨_, rfl, (fun _ => HF.out), (fun _ => rfl)⟩, HB0.out⟩
      · have HK2 : Hid (∀ j, j < k + 1 → ¬ 80 < (tk V.tokens j).size) := Lib.hid (fun j hj => by
          by_cases e : j = k
          · subst e; omega
          · exact HK.out j (by omega))
        go_wp2_with (fail)
        go_round
        case rel => exact ⟨k + 1, by omega, by go_num, HK2⟩
        case measure => simp [intOf]; omega
    · have HKA : Hid (∀ s ∈ V.tokens, ¬ 80 < s.size) := Lib.hid (fun s hs => by
        obtain ⟨j, hj, rfl⟩ := mem_tk hs
        exact HK.out j (by have := HCT.out; omega))
      go_wp2_with (fail)
      go_loop [4, 38] (fun _ i => ∃ q : Nat, q ≤ sn ∧ i = .int .i64 q ∧ Hid (∀ j, j < q → ¬ 40 < (sp V.specials j).name.size)) (fun _ i => sn - (intOf i).toNat)
      case atStart => exact ⟨0, Nat.zero_le _, rfl, Lib.hid (fun j h => by omega)⟩
      case round =>
        obtain ⟨q, hq, rfl, HQ⟩ := hrel
        by_cases hltq : q < sn
        · have hqS : q < V.specials.length := by have := HCS.out; omega
          obtain ⟨b, o, hao, hce⟩ := HV.out.spc.elem Sp.enc_len (by omega) (sp_eq hqS)
          simp only at hao
          subst hao
          have d0 := hce 0 _ rfl
          rw [Nat.add_zero] at d0
          have hks := HOK.out.2 _ (List.mem_of_getElem? (sp_eq hqS))
          unfold maxLen at hks
          clear hce
          by_cases h40 : (40 : Int) < (sp V.specials q).name.size
          · have HF : Hid (GreatV V) := Lib.hid (.inr (.inr (.inr (.inr ⟨_, List.mem_of_getElem? (sp_eq hqS), by omega⟩))))
            go_wp2_with (fail)
            go_ret
            exact ⟨⟨_, rfl, (fun _ => HF.out), (fun _ => rfl)⟩, HB0.out⟩
          · have HQ2 : Hid (∀ j, j < q + 1 → ¬ 40 < (sp V.specials j).name.size) := Lib.hid (fun j hj => by
              by_cases e : j = q
              · subst e; omega
              · exact HQ.out j (by omega))
            go_wp2_with (fail)
            go_round
            case rel => exact ⟨q + 1, by omega, by go_num, HQ2⟩
            case measure => simp [intOf]; omega
        · have HF : Hid (¬ GreatV V) := Lib.hid (by
            rintro (h | h | h | ⟨s, hs, h⟩ | ⟨s, hs, h⟩)
            · have := HCT.out; omega
            · have := HCM.out; omega
            · have := HCS.out; omega
            · exact HKA.out s hs h
            · obtain ⟨j, hj, rfl⟩ := List.getElem_of_mem hs
              rw [sp_get hj] at h
              exact HQ.out j (by have := HCS.out; omega) h)
          go_wp2_with (fail)
          go_ret
          exact ⟨⟨_, rfl, (fun h => by cases h), (fun h => absurd h HF.out)⟩, HB0.out⟩

end Go.Proofs.YtimkkkdabmhedaaGreatDoor

/- Walks: the document's usual table, rising; what is more than is gone through; the document's coder. (Printed by gTabl.py.) -/
namespace Go.Proofs.YtimkkkdabmhedaaGreatDoor
open Go.RowKit
set_option linter.unusedVariables false

theorem hlenU : usU.length = 51 := by decide
theorem insTo_all : insTo usU 51 = usR := by
  have : (insTo usU 51).map (fun r => (r.lo, r.hi, r.cls)) = usR.map (fun r => (r.lo, r.hi, r.cls)) := by decide +kernel
  exact (List.map_inj_right (f := fun r : Rg => (r.lo, r.hi, r.cls)) (fun a b h => by cases a; cases b; simp only [Prod.mk.injEq] at h; obtain ⟨rfl, rfl, rfl⟩ := h; rfl)).1 this

set_option maxHeartbeats 2000000 in
set_option maxRecDepth 100000 in
theorem table_calls (w : World) :
    Calls Tryz.prog 58 #[] w fun e w' => ∃ v, e = .returned v ∧ OwnF Rg.enc 3 93 w' w.heap.size v usR ∧ Below w.heap.size w w' := by
  obtain ⟨i0, z0, hi, hz0, hz1, hz2, hz3⟩ := info_row infoRg
  have hus := rusual_calls w
  go_enter Tryz.func58, Tryz.ntmps58
  go_wp2_with (fail)
  refine hus.mono ?_
  rintro e w1 ⟨v, rfl, ho, hb⟩
  obtain ⟨uo, uc, rfl, hs⟩ := ho.sl
  rw [hlenU] at hs ⊢
  obtain ⟨w0, hw0⟩ : ∃ w0, w1.alloc (.cells #[] 93) = w0 := ⟨_, rfl⟩
  have HU : Hid (SlF 3 w0 uo 51 uc (flat Rg.enc usU)) := Lib.hid (by rw [← hw0]; exact hs.alloc _)
  have HB0 : Hid (Below w.heap.size w w0) := Lib.hid (by rw [← hw0]; exact hb.alloc hb.size _)
  have HOut : Hid (OwnF Rg.enc 3 93 w0 w.heap.size (.slice (some ⟨w1.heap.size, 0, none⟩) 0 0) []) := Lib.hid (by rw [← hw0]; exact OwnF.mono (OwnF.made0 w1) hb.size)
  have HW0 := Lib.hid hw0
  clear hus ho hb hs hw0
  go_wp2_with (fail)
  rw [HW0.out]
  go_loopw [2, 10] (fun v i wr => ∃ (k : Nat), k ≤ 51 ∧ i = .int .i64 k ∧ OwnF Rg.enc 3 93 wr w.heap.size v (insTo usU k) ∧ Below w0.heap.size w0 wr) (fun _ i _ => 51 - (intOf i).toNat)
  case atStart => exact ⟨0, Nat.zero_le _, rfl, HOut.out, Below.refl _ _⟩
  case round =>
    obtain ⟨k5, hk5, rfl, ho5, hb5⟩ := hrel
    have HB5 := Lib.hid hb5
    obtain ⟨S', hS'⟩ : ∃ S', insTo usU k5 = S' := ⟨_, rfl⟩
    rw [hS'] at ho5
    have HS' := Lib.hid hS'.symm
    have HSL' : Hid (S'.length = k5) := Lib.hid (by rw [← hS']; exact insTo_len _ (by rw [hlenU]; omega))
    obtain ⟨vo, vc, rfl, hvs⟩ := ho5.sl
    rw [HSL'.out] at hvs
    have HVS := Lib.hid hvs
    have HO5 := Lib.hid ho5
    rw [HSL'.out] at HO5 ⊢
    clear hb5 hvs ho5 hS'
    by_cases hlt5 : k5 < 51
    · obtain ⟨b, of, rfl, hce⟩ := (HU.out.below HB5.out).elem Rg.enc_len (by omega) (rg_eq (t := usU) (i := k5) (by rw [hlenU]; exact hlt5))
      obtain ⟨⟨lo, hi', cl⟩, hseq⟩ : ∃ m, rg usU k5 = m := ⟨_, rfl⟩
      rw [hseq] at hce
      have d0 := hce 0 _ rfl
      have d1 := hce 1 _ rfl
      have d2 := hce 2 _ rfl
      rw [Nat.add_zero] at d0
      simp only at d0 d1 d2
      have HSK := Lib.hid hseq
      have gk : (k5 : Int) < 51 := by omega
      clear hce hseq
      obtain ⟨wi, rfl⟩ : ∃ wi : World, wi = wr := ⟨_, rfl⟩
      go_wp2_with (fail)
      go_loopw [4] (fun i wr => ∃ q nn : Nat, q ≤ k5 ∧ i = .int .i64 q ∧ Hid (∀ j, j < q → (rg S' j).lo < lo) ∧ wr = wi.drewN nn) (fun i _ => k5 - (intOf i).toNat)
      case atStart => exact ⟨0, 0, Nat.zero_le _, rfl, Lib.hid (fun j h => by omega), rfl⟩
      case round =>
        obtain ⟨q, nn, hq, rfl, HQ, rfl⟩ := hrel
        by_cases hltq : q < k5
        · obtain ⟨b', of', rfl, hce⟩ := HVS.out.elem Rg.enc_len (by omega) (rg_eq (t := S') (i := q) (by rw [HSL'.out]; exact hltq))
          obtain ⟨⟨plo, phi, pcl⟩, hseq⟩ : ∃ m, rg S' q = m := ⟨_, rfl⟩
          rw [hseq] at hce
          have p0 := hce 0 _ rfl
          rw [Nat.add_zero] at p0
          simp only at p0
          have HSQ := Lib.hid hseq
          have gq : decide ((q : Int) < (k5 : Int)) = true := by simp; omega
          have gq2 : decide (q < k5) = true := by simpa using hltq
          clear hce hseq
          cases hbl : decide (plo < lo) with
          | true =>
            have HQ2 : Hid (∀ j, j < q + 1 → (rg S' j).lo < lo) := Lib.hid (fun j hj => by
              by_cases e : j = q
              · subst e; rw [HSQ.out]; simpa using hbl
              · exact HQ.out j (by omega))
            go_wp2_with (fail)
            go_quiet (fail)
            go_wp2_with (fail)
            go_roundw
            case rel => exact ⟨q + 1, _, by omega, by go_num, HQ2, rfl⟩
            case measure => simp [intOf]; omega
          | false =>
            have HST : Hid (q = S'.length ∨ ¬ (rg S' q).lo < lo) := Lib.hid (.inr (by rw [HSQ.out]; simpa using hbl))
            have hpl : ¬ plo < lo := by simpa using hbl
            have hpl2 : lo ≤ plo := by omega
            go_wp2_with (fail)
            go_quiet (fail)
            clear hbl hpl hpl2 gq gq2 p0
            obtain ⟨wq, hwq⟩ : ∃ wq, (wi.drewN nn).drewN nq = wq := ⟨_, rfl⟩
            have HINS : Hid (S'.take q ++ ⟨lo, hi', cl⟩ :: S'.drop q = insTo usU (k5 + 1)) := Lib.hid (by
              rw [insTo_succ (by rw [hlenU]; omega), HSK.out, HS'.out]
              exact (insRg_at (by rw [← HS'.out, HSL'.out]; omega) (fun j hj => by rw [← HS'.out]; exact HQ.out j hj) (by rw [← HS'.out]; exact HST.out.imp_right (fun h => by simp only [] at h ⊢; omega))).symm)
            have HLTk : Hid ((S'.take q).length = q) := Lib.hid (by rw [List.length_take, HSL'.out]; omega)
            have HBQ : Hid (Below w0.heap.size w0 wq) := Lib.hid (by rw [← hwq]; exact below_drewN (below_drewN HB5.out _) _)
            have hqi : Below wi.heap.size wi wq := by rw [← hwq]; exact below_drewN (below_drewN (Below.refl _ _) _) _
            have HMa : Hid (SlF 3 (wq.alloc (.cells #[] 93)) (some ⟨b', of', none⟩) k5 vc (flat Rg.enc S')) := Lib.hid ((HVS.out.below hqi).alloc _)
            have HMq : Hid (SlF 3 wq (some ⟨b', of', none⟩) k5 vc (flat Rg.enc S')) := Lib.hid (HVS.out.below hqi)
            have HOa : Hid (OwnF Rg.enc 3 93 (wq.alloc (.cells #[] 93)) wq.heap.size (.slice (some ⟨wq.heap.size, 0, none⟩) 0 0) []) := Lib.hid (OwnF.made0 wq)
            have e0 := cell_below hqi _ _ d0
            have e1 := cell_below hqi _ _ d1
            have e2 := cell_below hqi _ _ d2
            rw [hwq]
            clear hwq hqi d0 d1 d2
            go_wp2_with (first
              | (refine wpList_flat_high (enc := Rg.enc) rfl _ _ _ rfl i0 Tryz.underlying27 hi Rg.enc_len rfl HMa.out rfl (k := q) rfl (by omega) ?_; intro hs1)
              | (at_builtin; go_loud (refine wpList_flat_app rfl _ _ 27 rfl i0 z0 24 Tryz.underlying27 hi hz0 hz1 hz2 hz3 Rg.enc_len (by omega) Rg.enc_one rfl HOa.out rfl hs1 (by unfold maxLen; simp only [List.length_nil]; omega) (by simp only [List.length_nil]; omega) (by simp) ?_)))
            intro v1 wb ho1 hg1' hb1
            have hb1' := (below_alloc wq (.cells #[] 93)).trans hb1
            have HB1' := Lib.hid hb1'
            have f0 := cell_below hb1' _ _ e0
            have f1 := cell_below hb1' _ _ e1
            have f2 := cell_below hb1' _ _ e2
            have HOb : Hid (OwnF Rg.enc 3 93 (wb.alloc (.cells #[.int .i64 lo, .int .i64 hi', .int .i64 cl] 93)) wq.heap.size v1 (S'.take q)) := Lib.hid (ho1.alloc _)
            have HSb : Hid (SlF 3 (wb.alloc (.cells #[.int .i64 lo, .int .i64 hi', .int .i64 cl] 93)) (some ⟨wb.heap.size, 0, none⟩) 1 1 (flat Rg.enc [⟨lo, hi', cl⟩])) := Lib.hid (SlF.one Rg.enc_len wb ⟨lo, hi', cl⟩ 93 (cs := #[.int .i64 lo, .int .i64 hi', .int .i64 cl]) rfl)
            have HSZ' : Hid (wq.heap.size ≤ wb.heap.size) := Lib.hid hb1'.size
            clear ho1 hg1' hb1 hb1' e0 e1 e2
            go_wp2_with (at_builtin; go_loud (refine wpList_flat_app rfl _ _ 27 rfl i0 z0 24 Tryz.underlying27 hi hz0 hz1 hz2 hz3 Rg.enc_len (by omega) Rg.enc_one rfl HOb.out rfl HSb.out (by have := HLTk.out; unfold maxLen; omega) (by have := HLTk.out; omega) (by have := HSZ'.out; simp; omega) ?_))
            intro v2 wc ho2 hg2 hb2
            have hb2' := (HB1'.out.alloc HB1'.out.size _).trans hb2
            have HB2' := Lib.hid hb2'
            have HMc : Hid (SlF 3 wc (some ⟨b', of', none⟩) k5 vc (flat Rg.enc S')) := Lib.hid (HMq.out.below hb2')
            have HOc := Lib.hid ho2
            have HSZ2 : Hid (wq.heap.size ≤ wc.heap.size) := Lib.hid hb2'.size
            clear ho2 hg2 hb2 hb2' f0 f1 f2
            go_wp2_with (first
              | (refine wpList_flat_low (enc := Rg.enc) rfl _ _ _ rfl i0 Tryz.underlying27 hi hz1 Rg.enc_len rfl HMc.out rfl (k := q) rfl (by omega) ?_; intro ao' hs3 hao3)
              | (at_builtin; go_loud (refine wpList_flat_app rfl _ _ 27 rfl i0 z0 24 Tryz.underlying27 hi hz0 hz1 hz2 hz3 Rg.enc_len (by omega) Rg.enc_one rfl HOc.out rfl hs3 (by have := HLTk.out; unfold maxLen; rw [List.length_append]; simp only [List.length_singleton]; omega) (by have := HLTk.out; rw [List.length_append]; simp only [List.length_singleton]; omega) HSZ2.out ?_)))
            intro v3 wd ho3 hg3 hb3
            have HO9 := Lib.hid (ho3.mono (Nat.le_trans HB0.out.size HBQ.out.size))
            rw [HINS.out] at HO9
            have HB9 := Lib.hid (HBQ.out.trans ((HB2'.out.trans hb3).mono HBQ.out.size))
            clear ho3 hg3 hb3
            go_wp2_with (fail)
            go_roundw
            case rel => exact ⟨k5 + 1, by omega, by go_num, HO9.out, HB9.out⟩
            case measure => simp [intOf]; omega
        · obtain rfl : q = k5 := by omega
          have HST : Hid (q = S'.length ∨ ¬ (rg S' q).lo < lo) := Lib.hid (.inl HSL'.out.symm)
          have gq : decide ((q : Int) < (q : Int)) = false := by simp
          have gq2 : decide (q < q) = false := by simp
          go_wp2_with (fail)
          go_quiet (fail)
          clear gq gq2
          obtain ⟨wq, hwq⟩ : ∃ wq, (wi.drewN nn).drewN nq = wq := ⟨_, rfl⟩
          have HINS : Hid (S'.take q ++ ⟨lo, hi', cl⟩ :: S'.drop q = insTo usU (q + 1)) := Lib.hid (by
            rw [insTo_succ (by rw [hlenU]; omega), HSK.out, HS'.out]
            exact (insRg_at (by rw [← HS'.out, HSL'.out]; omega) (fun j hj => by rw [← HS'.out]; exact HQ.out j hj) (by rw [← HS'.out]; exact HST.out.imp_right (fun h => by simp only [] at h ⊢; omega))).symm)
          have HLTk : Hid ((S'.take q).length = q) := Lib.hid (by rw [List.length_take, HSL'.out]; omega)
          have HBQ : Hid (Below w0.heap.size w0 wq) := Lib.hid (by rw [← hwq]; exact below_drewN (below_drewN HB5.out _) _)
          have hqi : Below wi.heap.size wi wq := by rw [← hwq]; exact below_drewN (below_drewN (Below.refl _ _) _) _
          have HMa : Hid (SlF 3 (wq.alloc (.cells #[] 93)) vo q vc (flat Rg.enc S')) := Lib.hid ((HVS.out.below hqi).alloc _)
          have HMq : Hid (SlF 3 wq vo q vc (flat Rg.enc S')) := Lib.hid (HVS.out.below hqi)
          have HOa : Hid (OwnF Rg.enc 3 93 (wq.alloc (.cells #[] 93)) wq.heap.size (.slice (some ⟨wq.heap.size, 0, none⟩) 0 0) []) := Lib.hid (OwnF.made0 wq)
          have e0 := cell_below hqi _ _ d0
          have e1 := cell_below hqi _ _ d1
          have e2 := cell_below hqi _ _ d2
          rw [hwq]
          clear hwq hqi d0 d1 d2
          go_wp2_with (first
            | (refine wpList_flat_high (enc := Rg.enc) rfl _ _ _ rfl i0 Tryz.underlying27 hi Rg.enc_len rfl HMa.out rfl (k := q) rfl (by omega) ?_; intro hs1)
            | (at_builtin; go_loud (refine wpList_flat_app rfl _ _ 27 rfl i0 z0 24 Tryz.underlying27 hi hz0 hz1 hz2 hz3 Rg.enc_len (by omega) Rg.enc_one rfl HOa.out rfl hs1 (by unfold maxLen; simp only [List.length_nil]; omega) (by simp only [List.length_nil]; omega) (by simp) ?_)))
          intro v1 wb ho1 hg1' hb1
          have hb1' := (below_alloc wq (.cells #[] 93)).trans hb1
          have HB1' := Lib.hid hb1'
          have f0 := cell_below hb1' _ _ e0
          have f1 := cell_below hb1' _ _ e1
          have f2 := cell_below hb1' _ _ e2
          have HOb : Hid (OwnF Rg.enc 3 93 (wb.alloc (.cells #[.int .i64 lo, .int .i64 hi', .int .i64 cl] 93)) wq.heap.size v1 (S'.take q)) := Lib.hid (ho1.alloc _)
          have HSb : Hid (SlF 3 (wb.alloc (.cells #[.int .i64 lo, .int .i64 hi', .int .i64 cl] 93)) (some ⟨wb.heap.size, 0, none⟩) 1 1 (flat Rg.enc [⟨lo, hi', cl⟩])) := Lib.hid (SlF.one Rg.enc_len wb ⟨lo, hi', cl⟩ 93 (cs := #[.int .i64 lo, .int .i64 hi', .int .i64 cl]) rfl)
          have HSZ' : Hid (wq.heap.size ≤ wb.heap.size) := Lib.hid hb1'.size
          clear ho1 hg1' hb1 hb1' e0 e1 e2
          go_wp2_with (at_builtin; go_loud (refine wpList_flat_app rfl _ _ 27 rfl i0 z0 24 Tryz.underlying27 hi hz0 hz1 hz2 hz3 Rg.enc_len (by omega) Rg.enc_one rfl HOb.out rfl HSb.out (by have := HLTk.out; unfold maxLen; omega) (by have := HLTk.out; omega) (by have := HSZ'.out; simp; omega) ?_))
          intro v2 wc ho2 hg2 hb2
          have hb2' := (HB1'.out.alloc HB1'.out.size _).trans hb2
          have HB2' := Lib.hid hb2'
          have HMc : Hid (SlF 3 wc vo q vc (flat Rg.enc S')) := Lib.hid (HMq.out.below hb2')
          have HOc := Lib.hid ho2
          have HSZ2 : Hid (wq.heap.size ≤ wc.heap.size) := Lib.hid hb2'.size
          clear ho2 hg2 hb2 hb2' f0 f1 f2
          go_wp2_with (first
            | (refine wpList_flat_low (enc := Rg.enc) rfl _ _ _ rfl i0 Tryz.underlying27 hi hz1 Rg.enc_len rfl HMc.out rfl (k := q) rfl (by omega) ?_; intro ao' hs3 hao3)
            | (at_builtin; go_loud (refine wpList_flat_app rfl _ _ 27 rfl i0 z0 24 Tryz.underlying27 hi hz0 hz1 hz2 hz3 Rg.enc_len (by omega) Rg.enc_one rfl HOc.out rfl hs3 (by have := HLTk.out; unfold maxLen; rw [List.length_append]; simp only [List.length_singleton]; omega) (by have := HLTk.out; rw [List.length_append]; simp only [List.length_singleton]; omega) HSZ2.out ?_)))
          intro v3 wd ho3 hg3 hb3
          have HO9 := Lib.hid (ho3.mono (Nat.le_trans HB0.out.size HBQ.out.size))
          rw [HINS.out] at HO9
          have HB9 := Lib.hid (HBQ.out.trans ((HB2'.out.trans hb3).mono HBQ.out.size))
          clear ho3 hg3 hb3
          go_wp2_with (fail)
          go_roundw
          case rel => exact ⟨q + 1, by omega, by go_num, HO9.out, HB9.out⟩
          case measure => simp [intOf]; omega
    · obtain rfl : k5 = 51 := by omega
      have HO9 : Hid (OwnF Rg.enc 3 93 wr w.heap.size (.slice vo 51 vc) usR) := Lib.hid (by
        have h := HO5.out
        rw [HS'.out, insTo_all] at h
        exact h)
      go_wp2_with (fail)
      go_ret
      exact ⟨_, rfl, HO9.out, HB0.out.trans (HB5.out.mono HB0.out.size)⟩

end Go.Proofs.YtimkkkdabmhedaaGreatDoor
