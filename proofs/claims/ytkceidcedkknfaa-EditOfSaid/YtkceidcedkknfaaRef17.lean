/- Walks: the reference's Same and Of; the law's own examples. -/
import Derived.Test.YtkceidcedkknfaaThenb
namespace Go.Proofs.Ytkceidcedkknfaa
open Go.RowKit
set_option linter.unusedVariables false

/-- Are two edits the same? -/
def sameE (r q : Int) (A B : List Int) : Bool := decide (r = q ∧ A = B)

theorem two_boxes (w : World) (r q : Int) (ao bo : Option Addr) (n c m d : Nat) (W : World) (hW : W = (w.alloc (.cells #[.int .i64 r, .slice ao n c] 24)).alloc (.cells #[.int .i64 q, .slice bo m d] 24)) :
    W.cell? ⟨w.heap.size, 0, none⟩ = some (.int .i64 r) ∧ W.cell? ⟨w.heap.size, 1, none⟩ = some (.slice ao n c) ∧ W.cell? ⟨w.heap.size + 1, 0, none⟩ = some (.int .i64 q) ∧ W.cell? ⟨w.heap.size + 1, 1, none⟩ = some (.slice bo m d) ∧ Below w.heap.size w W := by
  subst hW
  refine ⟨by simp [go_sem], by simp [go_sem], by simp [go_sem], by simp [go_sem], (below_alloc w _).alloc (below_alloc w _).size _⟩

set_option maxHeartbeats 1000000 in
theorem same17 {A B : List Int} {ao bo : Option Addr} {n m c d : Nat} (r q : Int) (w : World) (hA : SlI w ao n c A) (hB : SlI w bo m d B) :
    Calls Try.prog 15 #[edV r (.slice ao n c), edV q (.slice bo m d)] w fun e w' => e = .returned (.bool (sameE r q A B)) ∧ Below w.heap.size w w' := by
  have hmA := Nat.le_trans hA.le hA.max
  have hmB := Nat.le_trans hB.le hB.max
  have hlA := Lib.hid hA.len
  have hlB := Lib.hid hB.len
  unfold maxLen at hmA hmB
  obtain ⟨W, hW⟩ : ∃ W, W = (w.alloc (.cells #[.int .i64 r, .slice ao n c] 24)).alloc (.cells #[.int .i64 q, .slice bo m d] 24) := ⟨_, rfl⟩
  obtain ⟨c0, c1, c2, c3, hb⟩ := two_boxes w r q ao bo n c m d W hW
  have HW := Lib.hid hW
  clear hW
  by_cases hr : r = q
  · have hr1 : (r != q) = false := by simpa using hr
    have Hr := Lib.hid hr
    clear hr
    by_cases hl : n = m
    · have ht : (((n : Nat) : Int) != (m : Nat)) = false := by rw [hl]; simp
      have hl2 := Lib.hid hl
      clear hl
      go_enter Try.func15, Try.ntmps15
      go_wp2
      go_loopw [5, 23] (fun _ i wr => ∃ k j : Nat, k ≤ n ∧ i = .int .i64 k ∧ (Hid (∀ i, i < k → ix A i = ix B i)) ∧ wr = W.drewN j) (fun _ i _ => n - (intOf i).toNat)
      case atStart => exact ⟨0, 0, Nat.zero_le _, rfl, (fun i h => by omega), HW.out.symm⟩
      case round =>
        obtain ⟨k, j, hk, rfl, htk, rfl⟩ := hrel
        have hA2 := hA.below hb
        have hB2 := hB.below hb
        by_cases hlt : k < n
        · have hlt2 : k < m := by have := hl2.out; omega
          obtain ⟨b1, o1, rfl, a1⟩ := hA2.at_ hlt
          obtain ⟨b2, o2, rfl, a2⟩ := hB2.at_ hlt2
          by_cases he : ix A k = ix B k
          · have he3 : (ix A k != ix B k) = false := by simpa using he
            have he2 := Lib.hid he
            clear he
            go_wp2
            go_quiet (fail)
            go_wp2
            go_roundw
            case rel => exact ⟨k + 1, _, by omega, by go_num, (fun i h => by by_cases e : i = k; (subst e; exact he2.out); exact htk.out i (by omega)), rfl⟩
            case measure => simp [intOf]; omega
          · have he3 : (ix A k != ix B k) = true := by simpa using he
            have he2 := Lib.hid he
            clear he
            go_wp2
            go_quiet (fail)
            go_wp2
            go_ret
            refine ⟨ret_bool ?_, below_drewN (below_drewN hb _) _⟩
            simp only [sameE, Hr.out, true_and]
            refine (decide_eq_false ?_).symm
            intro h
            exact he2.out (by rw [h])
        · go_wp2
          go_ret
          obtain rfl : k = n := by omega
          refine ⟨ret_bool ?_, below_drewN hb _⟩
          simp only [sameE, Hr.out, true_and]
          exact (decide_eq_true (eq_of_ix (by rw [hlA.out, hlB.out, hl2.out]) (by rw [hlA.out]; exact htk.out))).symm
    · have ht : (((n : Nat) : Int) != (m : Nat)) = true := by simp; omega
      have hl2 := Lib.hid hl
      clear hl
      go_enter Try.func15, Try.ntmps15
      go_wp2
      go_ret
      refine ⟨ret_bool ?_, by rw [← HW.out]; exact hb⟩
      refine (decide_eq_false ?_).symm
      intro h
      have := hlA.out
      have := hlB.out
      have := hl2.out
      have h2 := h.2
      subst h2
      omega
  · have hr1 : (r != q) = true := by simpa using hr
    have Hr := Lib.hid hr
    clear hr
    go_enter Try.func15, Try.ntmps15
    go_wp2
    go_ret
    refine ⟨ret_bool ?_, by rw [← HW.out]; exact hb⟩
    refine (decide_eq_false ?_).symm
    intro h
    exact Hr.out h.1

end Go.Proofs.Ytkceidcedkknfaa
