/- Small words for strings and for what is returned. Plain lemmas. -/
import Derived.Test.YteoncpkfinheoaaLib
namespace Go.Proofs.Yteoncpkfinheoaa
open Go.RowKit
set_option linter.unusedVariables false

theorem ret_bool {a b : Bool} (h : a = b) : Ending.returned (.bool a) = .returned (.bool b) := by rw [h]
theorem ret_i64 {a b : Int} (h : a = b) : Ending.returned (.int .i64 a) = .returned (.int .i64 b) := by rw [h]

theorem bytes_of {s t : ByteArray} (h : s.toList = t.toList) : s = t := by
  rw [ByteArray.toList_eq, ByteArray.toList_eq] at h
  have := Array.toList_inj.1 h
  cases s; cases t; simp_all
theorem beqS_yes {s t : ByteArray} (h : s = t) : (s.toList == t.toList) = true := by rw [h]; simp
theorem beqS_no {s t : ByteArray} (h : s ≠ t) : (s.toList == t.toList) = false := beq_eq_false_iff_ne.2 fun e => h (bytes_of e)
theorem bneS_yes {s t : ByteArray} (h : s = t) : (s.toList != t.toList) = false := by rw [h]; simp
theorem bneS_no {s t : ByteArray} (h : s ≠ t) : (s.toList != t.toList) = true := by rw [bne_iff_ne]; exact fun e => h (bytes_of e)

/-- A string that is empty, or isn't, in the walk's words. -/
theorem strE_yes {s : ByteArray} (h : s.size = 0) : s.toList = [] ∧ s.toList.isEmpty = true ∧ (s.toList == []) = true := by
  have e : s.toList = [] := by rw [ByteArray.toList_eq]; exact List.eq_nil_of_length_eq_zero (by simpa using h)
  rw [e]; simp
theorem strE_no {s : ByteArray} (h : s.size ≠ 0) : s.toList ≠ [] ∧ s.toList.isEmpty = false ∧ (s.toList == []) = false := by
  have e : s.toList ≠ [] := fun e => h (by
    rw [ByteArray.toList_eq] at e
    have := congrArg List.length e
    simpa using this)
  refine ⟨e, ?_, ?_⟩
  · cases h' : s.toList with
    | nil => exact absurd h' e
    | cons _ _ => rfl
  · exact beq_eq_false_iff_ne.2 e

/-- A slice of strings that reads. -/
abbrev SlS (w : World) (ao : Option Addr) (n c : Nat) (T : List ByteArray) : Prop := Sl w ao n c (T.map .string)
theorem SlS.count {w : World} {ao : Option Addr} {n c : Nat} {T : List ByteArray} (h : SlS w ao n c T) : T.length = n := by
  have := Sl.len h
  simpa using this
theorem SlS.cell {w : World} {ao : Option Addr} {n c : Nat} {T : List ByteArray} (h : SlS w ao n c T) {k : Nat} {s : ByteArray} (hk : T[k]? = some s) : ∃ b o, ao = some ⟨b, o, none⟩ ∧ w.cell? ⟨b, o + k, none⟩ = some (.string s) :=
  Sl.at_ h k _ (by rw [List.getElem?_map, hk]; rfl)

end Go.Proofs.Yteoncpkfinheoaa
