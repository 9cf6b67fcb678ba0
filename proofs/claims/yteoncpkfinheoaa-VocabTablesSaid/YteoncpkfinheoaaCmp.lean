/- Walks: cmp.Compare of ints, cmp.Or of three ints. -/
import Derived.Test.YteoncpkfinheoaaStr
import Derived.Test.YteoncpkfinheoaaVocP
import Derived.Test.YteoncpkfinheoaaFlat
namespace Go.Proofs.Yteoncpkfinheoaa
open Go.RowKit
set_option linter.unusedVariables false

def cmpI (a b : Int) : Int := if a < b then -1 else if b < a then 1 else 0
theorem cmpI_lt {a b : Int} (h : a < b) : cmpI a b = -1 := by unfold cmpI; rw [if_pos h]
theorem cmpI_gt {a b : Int} (h : b < a) : cmpI a b = 1 := by unfold cmpI; rw [if_neg (by omega), if_pos h]
theorem cmpI_eq (a : Int) : cmpI a a = 0 := by unfold cmpI; rw [if_neg (by omega), if_neg (by omega)]
def orI (a b c : Int) : Int := if a ≠ 0 then a else if b ≠ 0 then b else c

set_option maxHeartbeats 400000 in
theorem compareI_calls (a b : Int) (w : World) : Calls Try.prog 43 #[.int .i64 a, .int .i64 b] w fun e w' => e = .returned (.int .i64 (cmpI a b)) ∧ w = w' := by
  have ha : (a != a) = false := by simp
  have hb : (b != b) = false := by simp
  rcases Int.lt_trichotomy a b with h | h | h
  · have HF := Lib.hid (cmpI_lt h)
    go_enter Try.func43, Try.ntmps43
    go_wp2
    go_ret
    exact ⟨ret_i64 HF.out.symm, rfl⟩
  · subst h
    have HF := Lib.hid (cmpI_eq a)
    go_enter Try.func43, Try.ntmps43
    go_wp2
    go_ret
    exact ⟨ret_i64 HF.out.symm, rfl⟩
  · have HF := Lib.hid (cmpI_gt h)
    have h2 : ¬ a < b := by omega
    go_enter Try.func43, Try.ntmps43
    go_wp2
    go_ret
    exact ⟨ret_i64 HF.out.symm, rfl⟩

theorem orI_first {a b c : Int} (h : a ≠ 0) : orI a b c = a := by unfold orI; rw [if_pos h]
theorem orI_second {a b c : Int} (h : a = 0) (h2 : b ≠ 0) : orI a b c = b := by unfold orI; rw [if_neg (by omega), if_pos h2]
theorem orI_third {a b c : Int} (h : a = 0) (h2 : b = 0) : orI a b c = c := by unfold orI; rw [if_neg (by omega), if_neg (by omega)]

def nz (A : List Int) : Int := (A.find? (fun x => decide (x ≠ 0))).getD 0
theorem nz_at {A : List Int} {k : Nat} (hk : k < A.length) (h : ∀ j, j < k → ix A j = 0) (h2 : ix A k ≠ 0) : nz A = ix A k := by
  unfold nz
  have : A.find? (fun x => decide (x ≠ 0)) = some (ix A k) := by
    rw [List.find?_eq_some_iff_getElem]
    refine ⟨by simpa using h2, k, hk, ?_, fun j hj => ?_⟩
    · have := ix_eq hk; rw [List.getElem?_eq_getElem hk] at this; exact Option.some.inj this
    · have e : A[j]'(by omega) = ix A j := by have := ix_eq (A := A) (i := j) (by omega); rw [List.getElem?_eq_getElem (by omega)] at this; exact Option.some.inj this
      rw [e, h j hj]; simp
  rw [this]; rfl
theorem nz_none {A : List Int} (h : ∀ j, j < A.length → ix A j = 0) : nz A = 0 := by
  unfold nz
  have : A.find? (fun x => decide (x ≠ 0)) = none := by
    rw [List.find?_eq_none]
    intro x hx
    obtain ⟨j, hj, rfl⟩ := List.getElem_of_mem hx
    have e : A[j] = ix A j := by have := ix_eq hj; rw [List.getElem?_eq_getElem hj] at this; exact Option.some.inj this
    rw [e, h j hj]; simp
  rw [this]; rfl
theorem nz_three (a b c : Int) : nz [a, b, c] = orI a b c := by
  unfold nz orI
  by_cases h1 : a = 0 <;> by_cases h2 : b = 0 <;> by_cases h3 : c = 0 <;> simp [List.find?, h1, h2, h3]

set_option maxHeartbeats 400000 in
theorem or_calls {A : List Int} {ao : Option Addr} {n c : Nat} (w : World) (hA : SlI w ao n c A) : Calls Try.prog 42 #[.slice ao n c] w fun e w' => e = .returned (.int .i64 (nz A)) ∧ w = w' := by
  have hm := Nat.le_trans (Sl.le hA) (Sl.max hA)
  unfold maxLen at hm
  have hlen := Lib.hid hA.len
  go_enter Try.func42, Try.ntmps42
  go_wp2
  go_loop [5, 8] (fun _ i => ∃ k : Nat, k ≤ n ∧ i = .int .i64 k ∧ Hid (∀ j, j < k → ix A j = 0)) (fun _ i => n - (intOf i).toNat)
  case atStart => exact ⟨0, Nat.zero_le _, rfl, Lib.hid (fun j h => by omega)⟩
  case round =>
    obtain ⟨k, hk, rfl, hno⟩ := hrel
    by_cases hlt : k < n
    · obtain ⟨b1, o1, rfl, c1⟩ := hA.at_ hlt
      by_cases hz : ix A k = 0
      · have hb : (ix A k != 0) = false := by simpa using hz
        have hno2 : Hid (∀ j, j < k + 1 → ix A j = 0) := Lib.hid (fun j hj => by
          by_cases e : j = k
          · subst e; exact hz
          · exact hno.out j (by omega))
        clear hz
        go_wp2
        go_round
        case rel => exact ⟨k + 1, by omega, by go_num, hno2⟩
        case measure => simp [intOf]; omega
      · have hb : (ix A k != 0) = true := by simpa using hz
        have HF := Lib.hid (nz_at (by rw [hlen.out]; exact hlt) hno.out hz)
        clear hz
        go_wp2
        go_ret
        exact ⟨ret_i64 HF.out.symm, rfl⟩
    · have HF := Lib.hid (nz_none (A := A) (fun j hj => hno.out j (by rw [hlen.out] at hj; omega)))
      go_wp2
      go_ret
      exact ⟨ret_i64 HF.out.symm, rfl⟩

end Go.Proofs.Yteoncpkfinheoaa
