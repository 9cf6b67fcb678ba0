/- Walk: the reference's Of. -/
import Derived.Test.YtkceidcedkknfaaFixed
namespace Go.Proofs.Ytkceidcedkknfaa
open Go.RowKit
set_option linter.unusedVariables false

set_option maxHeartbeats 2000000 in
theorem of17 {A B : List Int} {ao bo : Option Addr} {n m c d k : Nat} (hk : common A B = k) (w : World) (hA : SlI w ao n c A) (hB : SlI w bo m d B) (hreach : m * 8 ≤ 140737488355328) :
    Calls Try.prog 16 #[.slice ao n c, .slice bo m d] w fun e w' => ∃ vo vc, e = .returned (edV (n - k : Nat) (.slice vo (m - k) vc)) ∧ Own w' w.heap.size (.slice vo (m - k) vc) (B.drop k) ∧ Below w.heap.size w w' := by
  have hmA := Nat.le_trans hA.le hA.max
  have hmB := Nat.le_trans hB.le hB.max
  have hmd := hB.max
  have hld := hB.le
  have k1 : k ≤ n := by rw [← hk, ← hA.len]; exact (common_le _ _).1
  have k2 : k ≤ m := by rw [← hk, ← hB.len]; exact (common_le _ _).2
  have hlA := Lib.hid hA.len
  have hlB := Lib.hid hB.len
  have kix : Hid (∀ i, i < k → ix A i = ix B i) := by rw [← hk]; exact common_ix A B
  have kst : Hid (k < n → k < m → ix A k ≠ ix B k) := by
    rw [← hk, ← hA.len, ← hB.len]; exact common_stop A B
  clear hk
  unfold maxLen at hmA hmB hmd
  obtain ⟨i0, hi, hz0, hz1, hz2⟩ := info_parts infoInt
  obtain ⟨W, hW⟩ : ∃ W, W = w.alloc (.cells #[.int .i64 0, .slice none 0 0] 24) := ⟨_, rfl⟩
  have hbW : Below w.heap.size w W := by rw [hW]; exact below_alloc w _
  have hWs : w.heap.size < W.heap.size := by rw [hW]; simp
  have hWs2 : W.heap.size = w.heap.size + 1 := by rw [hW]; simp
  have r0 : W.cell? ⟨w.heap.size, 0, none⟩ = some (.int .i64 0) := by rw [hW]; simp
  have r1 : W.cell? ⟨w.heap.size, 1, none⟩ = some (.slice none 0 0) := by rw [hW]; simp
  have rf : ∀ o, W.frozen? ⟨w.heap.size, o, none⟩ = false := by rw [hW]; intro o; simp
  have HW := Lib.hid hW
  have HWs2 := Lib.hid hWs2
  clear hW hWs2
  have hAW := hA.below hbW
  have hBW := hB.below hbW
  go_enter Try.func16, Try.ntmps16
  go_wp2
  go_loopw [5] (fun s wr => ∃ j q : Nat, j ≤ n - k ∧ s = .int .i64 j ∧ wr = W.drewN q) (fun s _ => n - (intOf s).toNat)
  case atStart => exact ⟨0, 0, Nat.zero_le _, rfl, HW.out.symm⟩
  case round =>
    obtain ⟨j, q, hj, rfl, rfl⟩ := hrel
    have hjn : (j : Int) ≤ (n : Int) := by omega
    obtain ⟨L, hL⟩ : ∃ L : Nat, L = n - j := ⟨_, rfl⟩
    have hL1 : ((n : Int) - (j : Int)) = (L : Int) := by omega
    have hL2 : k ≤ L := by omega
    have hL3 : L ≤ n := by omega
    have HL := Lib.hid hL
    clear hL
    by_cases hLk : L = k
    · subst hLk
      have hlm : (L : Int) ≤ (m : Int) := by omega
      go_wp2
      go_loopw [7, 8] (fun s7 s8 wr => ∃ i q : Nat, i ≤ L ∧ s8 = .int .i64 i ∧ s7 = .bool true ∧ wr = W.drewN q) (fun _ s8 _ => L - (intOf s8).toNat)
      case atStart => exact ⟨0, _, Nat.zero_le _, rfl, rfl, rfl⟩
      case round =>
        obtain ⟨i, q2, hi', rfl, rfl, rfl⟩ := hrel
        by_cases hlt : i < L
        · obtain ⟨b1, o1, rfl, c1⟩ := hAW.at_ (i := i) (by omega)
          obtain ⟨b2, o2, rfl, c2⟩ := hBW.at_ (i := i) (by omega)
          have he : (ix A i == ix B i) = true := by simpa using kix.out i hlt
          have ltn : i < n := by omega
          have ltm : i < m := by omega
          go_wp2
          go_quiet (fail)
          go_wp2
          go_roundw
          case rel => exact ⟨i + 1, _, by omega, by go_num, rfl, rfl⟩
          case measure => simp [intOf]; omega
        · have hown := own_made0 (W.drewN q2)
          have hB3 := (hBW.drewN q2).alloc (.cells #[] 3)
          go_wp2_with (first
            | (with_reducible show wpList _ _ _ (⟨_, .slice _ _ (some _) none none, _, _, _, _⟩ :: _) _ _; refine wpList_int_low rfl 22 (.tmp 45) (.tmp 46) rfl 3 i0 Try.underlying22 hi hz1 rfl hB3 rfl rfl k2 ?_; intro bo' hb')
            | (at_builtin; refine wpList_int_app rfl _ _ 22 rfl i0 Try.underlying22 hi hz0 hz1 hz2 rfl hown rfl hb' (by simp; omega) (by simp) ?_; intro v' w' ho hg hb; obtain ⟨vo, vc, rfl, _⟩ := ho.sl; have b2 : Below W.heap.size W w' := ((below_drewN (Below.refl _ W) q2).alloc (Nat.le_refl _) _).trans hb; have r0' := cell_below b2 _ _ r0; have r1' := cell_below b2 _ _ r1; have rf' : ∀ o, w'.frozen? ⟨w.heap.size, o, none⟩ = false := fun o => (b2.frozen (p := ⟨w.heap.size, o, none⟩) hWs).trans (rf o)))
          have hlen : ([] ++ B.drop L).length = m - L := by simp; rw [hlB.out]
          have hjL : (j : Int) = ((n - L : Nat) : Int) := by have := HL.out; omega
          refine bodyPost_ret (v := edV (n - L : Nat) (.slice vo (m - L) vc)) ?_ rfl ⟨vo, vc, rfl, ?_, ?_⟩
          · rw [← hlen]
            simp [results, Try.results16, go_sem, r0', r1', hjL]
          · have ho' : Own w' W.heap.size (.slice vo (m - L) vc) (B.drop L) := by rw [← hlen]; simpa using ho
            exact Own.mono (ownsRow_setCell_below (ownsRow_setCell_below ho' hWs _) hWs _) (by omega)
          · exact (((hbW.trans (b2.mono (by omega))).setCell (Nat.le_refl _) _).setCell (Nat.le_refl _) _)
    · have hLk' : k < L := by omega
      by_cases hlm : L ≤ m
      · have hlm' : (L : Int) ≤ (m : Int) := by omega
        go_wp2
        go_loopw [7, 8] (fun s7 s8 wr => ∃ i q : Nat, ∃ b : Bool, i ≤ L ∧ (b = true → i ≤ k) ∧ s8 = .int .i64 i ∧ s7 = .bool b ∧ wr = W.drewN q) (fun _ s8 _ => L - (intOf s8).toNat)
        case atStart => exact ⟨0, _, true, Nat.zero_le _, fun _ => Nat.zero_le _, rfl, rfl, rfl⟩
        case round =>
          obtain ⟨i, q2, b, hi', hb', rfl, rfl, rfl⟩ := hrel
          cases b with
          | true =>
            have hik := hb' rfl
            clear hb'
            have hlt : i < L := by omega
            obtain ⟨b1, o1, rfl, c1⟩ := hAW.at_ (i := i) (by omega)
            obtain ⟨b2, o2, rfl, c2⟩ := hBW.at_ (i := i) (by omega)
            have ltn : i < n := by omega
            have ltm : i < m := by omega
            by_cases hke : i = k
            · subst hke
              have he : (ix A i == ix B i) = false := by simpa using kst.out (by omega) (by omega)
              go_wp2
              go_quiet (fail)
              go_wp2
              go_roundw
              case rel => exact ⟨i + 1, _, false, by omega, by simp, by go_num, rfl, rfl⟩
              case measure => simp [intOf]; omega
            · have he : (ix A i == ix B i) = true := by simpa using kix.out i (by omega)
              go_wp2
              go_quiet (fail)
              go_wp2
              go_roundw
              case rel => exact ⟨i + 1, _, true, by omega, fun _ => by omega, by go_num, rfl, rfl⟩
              case measure => simp [intOf]; omega
          | false =>
            clear hb'
            go_wp2
            go_roundw
            case rel => exact ⟨j + 1, _, by omega, by go_num, rfl⟩
            case measure => simp [intOf]; omega
      · have hlm' : ¬ (L : Int) ≤ (m : Int) := by omega
        have hlm2 : decide ((L : Int) ≤ (m : Int)) = false := by simpa using hlm'
        go_wp2
        go_loopw [7, 8] (fun s7 s8 wr => ∃ i : Nat, s8 = .int .i64 i ∧ s7 = .bool false ∧ wr = W.drewN q) (fun _ s8 _ => L - (intOf s8).toNat)
        case atStart => exact ⟨0, rfl, rfl, rfl⟩
        case round =>
          obtain ⟨i, rfl, rfl, rfl⟩ := hrel
          go_wp2
          go_roundw
          case rel => exact ⟨j + 1, _, by omega, by go_num, rfl⟩
          case measure => simp [intOf]; omega

end Go.Proofs.Ytkceidcedkknfaa
