/- Walks: edit.Then at whatever arguments; the reference's Of and Same; the law's own examples. -/
import Derived.Test.YtkceidcedkknfaaThen
namespace Go.Proofs.Ytkceidcedkknfaa
open Go.RowKit
set_option linter.unusedVariables false

set_option maxHeartbeats 1000000 in
theorem then_noA {ao bo : Option Addr} {n m c d : Nat} (r q : Int) (w : World) (h : ¬ (0 ≤ r ∧ r ≤ 1048576)) :
    Calls Try.prog 11 #[edV r (.slice ao n c), edV q (.slice bo m d)] w fun e w' => e = .returned (.tuple #[edV 0 (.slice none 0 0), .bool false]) ∧ Below w.heap.size w w' := by
  have bx := boxes_made w r q ao bo n c m d
  have bz := ((below_alloc w (.cells #[.int .i64 r, .slice ao n c] 24)).alloc (below_alloc w _).size (.cells #[.int .i64 q, .slice bo m d] 24)).alloc (Nat.le_trans (below_alloc w _).size (below_alloc _ _).size) (.cells #[.int .i64 0, .slice none 0 0] 24)
  go_enter Try.func11, Try.ntmps11
  go_wp2_with fail
  refine (may_any _ _ _ _ _ false (by simp; omega)).mono ?_
  rintro e w1 ⟨rfl, hb1⟩
  have bx1 := bx.below hb1
  have bz1 := bz.trans (hb1.mono bz.size)
  obtain ⟨c0, c1, c2, c3, c4, c5, f4, lt⟩ := id bx1
  clear bx bz hb1
  go_wp2_with fail
  refine bodyPost_ret (v := .tuple #[edV 0 (.slice none 0 0), .bool false]) ?_ rfl ⟨rfl, ?_⟩
  · simp [results, Try.results11, go_sem, c4, c5]
  · exact (bz1.setCell (by simp only []; omega) _).setCell (by simp only []; omega) _

set_option maxHeartbeats 1000000 in
theorem then_noB {ao bo : Option Addr} {n m c d : Nat} (r q : Int) (w : World) (h0 : 0 ≤ r ∧ r ≤ 1048576) (h : ¬ (0 ≤ q ∧ q ≤ 1048576)) :
    Calls Try.prog 11 #[edV r (.slice ao n c), edV q (.slice bo m d)] w fun e w' => e = .returned (.tuple #[edV 0 (.slice none 0 0), .bool false]) ∧ Below w.heap.size w w' := by
  have bx := boxes_made w r q ao bo n c m d
  have bz := ((below_alloc w (.cells #[.int .i64 r, .slice ao n c] 24)).alloc (below_alloc w _).size (.cells #[.int .i64 q, .slice bo m d] 24)).alloc (Nat.le_trans (below_alloc w _).size (below_alloc _ _).size) (.cells #[.int .i64 0, .slice none 0 0] 24)
  go_enter Try.func11, Try.ntmps11
  go_wp2_with fail
  refine (may_any _ _ _ _ _ true (by simp; omega)).mono ?_
  rintro e w1 ⟨rfl, hb1⟩
  have bx1 := bx.below hb1
  have bz1 := bz.trans (hb1.mono bz.size)
  obtain ⟨c0, c1, c2, c3, c4, c5, f4, lt⟩ := id bx1
  clear bx bz hb1 c4 c5 f4
  go_wp2_with fail
  refine (may_any _ _ _ _ _ false (by simp; omega)).mono ?_
  rintro e w2 ⟨rfl, hb2⟩
  have bx2 := bx1.below hb2
  have bz2 := bz1.trans (hb2.mono bz1.size)
  clear c0 c1 c2 c3 lt bx1 hb2 bz1
  obtain ⟨c0, c1, c2, c3, c4, c5, f4, lt⟩ := id bx2
  go_wp2_with fail
  refine bodyPost_ret (v := .tuple #[edV 0 (.slice none 0 0), .bool false]) ?_ rfl ⟨rfl, ?_⟩
  · simp [results, Try.results11, go_sem, c4, c5]
  · exact (bz2.setCell (by simp only []; omega) _).setCell (by simp only []; omega) _

theorem then_calls {A B : List Int} {ao bo : Option Addr} {n m c d : Nat} (r q : Int) (w : World) (hA : SlI w ao n c A) (hB : SlI w bo m d B) (hreach : (n + m) * 8 ≤ 140737488355328) :
    Calls Try.prog 11 #[edV r (.slice ao n c), edV q (.slice bo m d)] w fun e w' =>
      ∃ vo vc, e = .returned (.tuple #[edV (thenL A r q B).1.1 (.slice vo (thenL A r q B).1.2.length vc), .bool (thenL A r q B).2]) ∧ Own w' w.heap.size (.slice vo (thenL A r q B).1.2.length vc) (thenL A r q B).1.2 ∧ Below w.heap.size w w' := by
  have hl := hA.len
  have hlB := hB.len
  have no : ∀ {e : Ending} {w' : World}, (e = .returned (.tuple #[edV 0 (.slice none 0 0), .bool false]) ∧ Below w.heap.size w w') → thenL A r q B = ((0, []), false) →
      ∃ vo vc, e = .returned (.tuple #[edV (thenL A r q B).1.1 (.slice vo (thenL A r q B).1.2.length vc), .bool (thenL A r q B).2]) ∧ Own w' w.heap.size (.slice vo (thenL A r q B).1.2.length vc) (thenL A r q B).1.2 ∧ Below w.heap.size w w' := by
    intro e w' ⟨he, hb⟩ ht
    rw [ht]
    exact ⟨_, _, he, Own.nil _ _, hb⟩
  by_cases ha : 0 ≤ r ∧ r ≤ 1048576
  · by_cases hb : 0 ≤ q ∧ q ≤ 1048576
    · obtain ⟨Z, rfl⟩ := Int.eq_ofNat_of_zero_le hb.1
      by_cases hq : Z < n
      · refine (then_1 r Z w hA hB hreach ha.1 ha.2 (by omega) hq).mono fun e w' ⟨v, vo, vc, he, hv, ho, hbl⟩ => ?_
        have ht : thenL A r Z B = ((r, A.take (n - Z) ++ B), true) := by
          unfold thenL
          rw [hl, if_pos (by simp; omega)]
          simp
          omega
        have hlen : (A.take (n - Z) ++ B).length = n - Z + m := by simp; omega
        subst hv
        rw [ht, show ((r, A.take (n - Z) ++ B), true).1.2.length = n - Z + m from hlen]
        exact ⟨vo, vc, he, ho, hbl⟩
      · by_cases hr : r + Z - n ≤ 1048576
        · refine (then_2 r Z w hA hB hreach ha.1 ha.2 (by omega) hq hr).mono fun e w' ⟨v, vo, vc, he, hv, ho, hbl⟩ => ?_
          have ht : thenL A r Z B = ((r + Z - n, A.take 0 ++ B), true) := by
            unfold thenL
            rw [hl, if_pos (by simp; omega)]
            have : n - Z = 0 := by omega
            simp [this]
          have hlen : (A.take 0 ++ B).length = m := by simp; omega
          subst hv
          rw [ht, show ((r + (Z : Int) - n, A.take 0 ++ B), true).1.2.length = m from hlen]
          exact ⟨vo, vc, he, ho, hbl⟩
        · refine (then_3 r Z w hA hB hreach ha.1 ha.2 (by omega) hq hr).mono fun e w' h => no h ?_
          unfold thenL
          rw [hl, if_neg (by simp; omega)]
    · refine (then_noB r q w ha hb).mono fun e w' h => no h ?_
      unfold thenL
      rw [if_neg (by omega)]
  · refine (then_noA r q w ha).mono fun e w' h => no h ?_
    unfold thenL
    rw [if_neg (by omega)]

end Go.Proofs.Ytkceidcedkknfaa
