/- Walk: may a table of classes be, by the document? (Printed by gClass3.py.) -/
import Derived.Test.YtimkkkdabmhedaaGreatDoorB28
namespace Go.Proofs.YtimkkkdabmhedaaGreatDoor
open Go.RowKit
set_option linter.unusedVariables false

set_option maxHeartbeats 2000000 in
set_option maxRecDepth 100000 in
theorem rclassMay_calls {t : List Rg} {to_ : Option Addr} {tn tc : Nat} (w : World) (hR : SlF 3 w to_ tn tc (flat Rg.enc t)) :
    Calls Tryz.prog 57 #[.slice to_ tn tc] w (TabPost1 t w) := by
  have hm := Nat.le_trans hR.le hR.max
  unfold maxLen at hm
  have HL := Lib.hid (hR.count Rg.enc_len (by omega))
  have HR := Lib.hid hR
  clear hR
  by_cases h200 : (200 : Int) < tn
  · have HF : Hid (false = true ↔ MayTab t) := Lib.hid (notTab_len (by have := HL.out; omega))
    go_enter Tryz.func57, Tryz.ntmps57
    go_wp2_with (fail)
    go_ret
    exact ⟨⟨_, rfl, HF.out⟩, Below.refl _ _⟩
  go_enter Tryz.func57, Tryz.ntmps57
  go_wp2_with (fail)
  go_loopw [3, 10] (fun v i wr => ∃ (k : Nat) (la : Int), k ≤ tn ∧ i = .int .i64 k ∧ v = .int .i64 la ∧ Hid ((k = 0 ∧ la = -1) ∨ (0 < k ∧ la = (rg t (k - 1)).hi)) ∧ Hid (TabTo t k) ∧ Below w.heap.size w wr) (fun _ i _ => tn - (intOf i).toNat)
  case atStart => exact ⟨0, -1, Nat.zero_le _, rfl, rfl, Lib.hid (.inl ⟨rfl, rfl⟩), Lib.hid (TabTo.zero t), Below.refl _ _⟩
  case round =>
    obtain ⟨k, la, hk, rfl, rfl, HLA, HT, hb⟩ := hrel
    have HB := Lib.hid hb
    clear hb
    by_cases hlt : k < tn
    · have hkT : k < t.length := by have := HL.out; omega
      obtain ⟨b, of, rfl, hce⟩ := (HR.out.below HB.out).elem Rg.enc_len (by omega) (rg_eq hkT)
      obtain ⟨⟨lo, hi, cl⟩, hseq⟩ : ∃ m, rg t k = m := ⟨_, rfl⟩
      rw [hseq] at hce
      have d0 := hce 0 _ rfl
      have d1 := hce 1 _ rfl
      have d2 := hce 2 _ rfl
      rw [Nat.add_zero] at d0
      simp only at d0 d1 d2
      have HRK := Lib.hid hseq
      have gk : (k : Int) < (tn : Int) := by omega
      clear hce hseq
      by_cases r0 : lo ≤ la
      · have g0 : decide (lo ≤ la) = true := by simpa using r0
        have HF : Hid (false = true ↔ MayTab t) := Lib.hid (by
          rcases HLA.out with ⟨e1, e2⟩ | ⟨e1, e2⟩
          · exact notTab_ok hkT (by rw [HRK.out]; unfold OkRg; simp only; omega)
          · exact notTab_rise e1 hkT (by rw [HRK.out]; simp only; omega))
        clear r0
        go_wp2_with (fail)
        go_quiet (fail)
        go_wp2_with (fail)
        go_ret
        exact ⟨⟨_, rfl, HF.out⟩, below_drewN HB.out _⟩
      have g0 : decide (lo ≤ la) = false := by simpa using r0
      by_cases r1 : hi < lo
      · have g1 : decide (hi < lo) = true := by simpa using r1
        have HF := Lib.hid (notTab_ok hkT (by rw [HRK.out]; unfold OkRg; simp only; omega))
        clear r0 r1
        go_wp2_with (fail)
        go_quiet (fail)
        go_wp2_with (fail)
        go_ret
        exact ⟨⟨_, rfl, HF.out⟩, below_drewN HB.out _⟩
      have g1 : decide (hi < lo) = false := by simpa using r1
      by_cases r2 : 1114111 < hi
      · have g2 : decide (1114111 < hi) = true := by simpa using r2
        have HF := Lib.hid (notTab_ok hkT (by rw [HRK.out]; unfold OkRg; simp only; omega))
        clear r0 r1 r2
        go_wp2_with (fail)
        go_quiet (fail)
        go_wp2_with (fail)
        go_ret
        exact ⟨⟨_, rfl, HF.out⟩, below_drewN HB.out _⟩
      have g2 : decide (1114111 < hi) = false := by simpa using r2
      by_cases r3 : cl < 1
      · have g3 : decide (cl < 1) = true := by simpa using r3
        have HF := Lib.hid (notTab_ok hkT (by rw [HRK.out]; unfold OkRg; simp only; omega))
        clear r0 r1 r2 r3
        go_wp2_with (fail)
        go_quiet (fail)
        go_wp2_with (fail)
        go_ret
        exact ⟨⟨_, rfl, HF.out⟩, below_drewN HB.out _⟩
      have g3 : decide (cl < 1) = false := by simpa using r3
      by_cases r4 : 4 < cl
      · have g4 : decide (4 < cl) = true := by simpa using r4
        have HF := Lib.hid (notTab_ok hkT (by rw [HRK.out]; unfold OkRg; simp only; omega))
        clear r0 r1 r2 r3 r4
        go_wp2_with (fail)
        go_quiet (fail)
        go_wp2_with (fail)
        go_ret
        exact ⟨⟨_, rfl, HF.out⟩, below_drewN HB.out _⟩
      have g4 : decide (4 < cl) = false := by simpa using r4
      have HT2 : Hid (TabTo t (k + 1)) := Lib.hid (HT.out.next (by
        rw [HRK.out]; unfold OkRg; simp only
        rcases HLA.out with ⟨e1, e2⟩ | ⟨e1, e2⟩
        · omega
        · have h3 := (HT.out.ok (k - 1) (by omega)).1
          have h4 := (HT.out.ok (k - 1) (by omega)).2.1
          omega) (fun h => by
        rcases HLA.out with ⟨e1, e2⟩ | ⟨e1, e2⟩
        · omega
        · rw [← e2, HRK.out]; simp only; omega))
      have HLA2 : Hid ((k + 1 = 0 ∧ hi = -1) ∨ (0 < k + 1 ∧ hi = (rg t (k + 1 - 1)).hi)) := Lib.hid (.inr ⟨by omega, by rw [show k + 1 - 1 = k by omega, HRK.out]⟩)
      clear r0 r1 r2 r3 r4
      go_wp2_with (fail)
      go_quiet (fail)
      go_wp2_with (fail)
      go_roundw
      case rel => exact ⟨k + 1, hi, by omega, by go_num, rfl, HLA2, HT2, below_drewN HB.out _⟩
      case measure => simp [intOf]; omega
    · have HF : Hid (MayTab t) := Lib.hid (HT.out.all (by have := HL.out; omega) (by have := HL.out; omega))
      go_wp2_with (fail)
      go_ret
      exact ⟨⟨true, rfl, (fun _ => HF.out), (fun _ => rfl)⟩, HB.out⟩

end Go.Proofs.YtimkkkdabmhedaaGreatDoor
