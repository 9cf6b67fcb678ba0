/- Walk: are two rows of integers the same? -/
import Derived.Test.YtjfpbhdcbjaahaaLib
namespace Go.Proofs.Ytjfpbhdcbjaahaa
open Go.RowKit
set_option linter.unusedVariables false

theorem eq_of_ix {A B : List Int} (hl : A.length = B.length) (h : ∀ i, i < A.length → ix A i = ix B i) : A = B := by
  apply List.ext_getElem? 
  intro i
  by_cases hi : i < A.length
  · rw [ix_eq hi, ix_eq (by omega), h i hi]
  · rw [List.getElem?_eq_none (by omega), List.getElem?_eq_none (by omega)]

theorem ret_bool {a b : Bool} (h : a = b) : Ending.returned (.bool a) = .returned (.bool b) := by rw [h]
theorem ret_i64 {a b : Int} (h : a = b) : Ending.returned (.int .i64 a) = .returned (.int .i64 b) := by rw [h]

/-- 'A and B are the same', as a Bool of its own. -/
def eqB (A B : List Int) : Bool := A == B
theorem eqB_true {A B : List Int} (h : A = B) : eqB A B = true := by subst h; simp [eqB]
theorem eqB_false {A B : List Int} (h : A ≠ B) : eqB A B = false := by simp [eqB, h]

set_option maxHeartbeats 400000 in
theorem same10 {A B : List Int} {ao bo : Option Addr} {n m c d : Nat} (w : World) (hA : SlI w ao n c A) (hB : SlI w bo m d B) :
    Calls Try.prog 11 #[.slice ao n c, .slice bo m d] w fun e w' => ∃ k, e = .returned (.bool (eqB A B)) ∧ w' = w.drewN k := by
  have hmA := Nat.le_trans hA.le hA.max
  have hmB := Nat.le_trans hB.le hB.max
  have hlA := Lib.hid hA.len
  have hlB := Lib.hid hB.len
  unfold maxLen at hmA hmB
  by_cases hl : n = m
  · have ht : (((n : Nat) : Int) != (m : Nat)) = false := by rw [hl]; simp
    have hl2 := Lib.hid hl
    clear hl
    go_enter Try.func11, Try.ntmps11
    go_wp2
    go_loopw [5, 13] (fun _ i wr => ∃ k j : Nat, k ≤ n ∧ i = .int .i64 k ∧ (Hid (∀ i, i < k → ix A i = ix B i)) ∧ wr = w.drewN j) (fun _ i _ => n - (intOf i).toNat)
    case atStart => exact ⟨0, 0, Nat.zero_le _, rfl, (fun i h => by omega), rfl⟩
    case round =>
      obtain ⟨k, j, hk, rfl, htk, rfl⟩ := hrel
      by_cases hlt : k < n
      · have hlt2 : k < m := by have := hl2.out; omega
        obtain ⟨b1, o1, rfl, c1⟩ := hA.at_ hlt
        obtain ⟨b2, o2, rfl, c2⟩ := hB.at_ hlt2
        by_cases he : ix A k = ix B k
        · have he3 : (ix A k != ix B k) = false := by simpa using he
          have he2 := Lib.hid he
          clear he
          go_wp2
          go_quiet (fail)
          go_wp2
          go_roundw
          case rel => exact ⟨k + 1, _, by omega, by go_num, (fun i h => by by_cases e : i = k; (subst e; exact he2.out); exact htk.out i (by omega)), rfl⟩
          case measure => simp [intOf]; omega
        · have he3 : (ix A k != ix B k) = true := by simpa using he
          have he2 := Lib.hid he
          clear he
          go_wp2
          go_quiet (fail)
          go_wp2
          go_ret
          refine ⟨_, ret_bool (eqB_false ?_).symm, World.drewN_drewN ..⟩
          intro h
          exact he2.out (by rw [h])
      · go_wp2
        go_ret
        obtain rfl : k = n := by omega
        exact ⟨_, ret_bool (eqB_true (eq_of_ix (by rw [hlA.out, hlB.out, hl2.out]) (by rw [hlA.out]; exact htk.out))).symm, rfl⟩
  · have ht : (((n : Nat) : Int) != (m : Nat)) = true := by simp; omega
    have hl2 := Lib.hid hl
    clear hl
    go_enter Try.func11, Try.ntmps11
    go_wp2
    go_ret
    refine ⟨0, ret_bool (eqB_false ?_).symm, rfl⟩
    intro h
    have := hlA.out
    have := hlB.out
    have := hl2.out
    subst h
    omega

end Go.Proofs.Ytjfpbhdcbjaahaa
