/- Plain laws: the merges of rows. -/
import Derived.Test.YteoncpkfinheoaaToksP
namespace Go.Proofs.Yteoncpkfinheoaa
set_option linter.unusedVariables false

def cutAt (T : List ByteArray) (i k : Nat) : Option Mg :=
  if 0 ≤ ofT T ((tk T i).extract 0 (k + 1)) ∧ 0 ≤ ofT T ((tk T i).extract (k + 1) (tk T i).size) then some ⟨ofT T ((tk T i).extract 0 (k + 1)), ofT T ((tk T i).extract (k + 1) (tk T i).size), i, i⟩ else none
def cutsTo (T : List ByteArray) (i m : Nat) : List Mg := (List.range m).filterMap (cutAt T i)
def mergesTo (T : List ByteArray) (k : Nat) : List Mg := (List.range k).flatMap (cutsOf T)

theorem cutsOf_eq (T : List ByteArray) (i : Nat) : cutsOf T i = cutsTo T i ((tk T i).size - 1) := rfl
theorem cutsTo_zero (T : List ByteArray) (i : Nat) : cutsTo T i 0 = [] := rfl
theorem cutsTo_some {T : List ByteArray} {i k : Nat} {m : Mg} (h : cutAt T i k = some m) : cutsTo T i (k + 1) = cutsTo T i k ++ [m] := by
  unfold cutsTo; rw [List.range_succ, List.filterMap_append]; simp [h]
theorem cutsTo_none {T : List ByteArray} {i k : Nat} (h : cutAt T i k = none) : cutsTo T i (k + 1) = cutsTo T i k := by
  unfold cutsTo; rw [List.range_succ, List.filterMap_append]; simp [h]
theorem cutsTo_len (T : List ByteArray) (i m : Nat) : (cutsTo T i m).length ≤ m := by
  unfold cutsTo; exact Nat.le_trans (List.length_filterMap_le _ _) (by simp)
theorem mergesTo_zero (T : List ByteArray) : mergesTo T 0 = [] := rfl
theorem mergesTo_succ (T : List ByteArray) (k : Nat) : mergesTo T (k + 1) = mergesTo T k ++ cutsOf T k := by
  unfold mergesTo; rw [List.range_succ, List.flatMap_append]; simp
theorem mergesTo_all (T : List ByteArray) : mergesTo T T.length = mergesOf T := rfl
theorem mergesTo_len {T : List ByteArray} (h : ∀ s ∈ T, s.size ≤ 64) {k : Nat} (hk : k ≤ T.length) : (mergesTo T k).length ≤ k * 64 := by
  induction k with
  | zero => simp [mergesTo_zero]
  | succ k ih =>
    rw [mergesTo_succ, List.length_append, cutsOf_eq]
    have h1 := cutsTo_len T k ((tk T k).size - 1)
    have h2 := h (tk T k) (tk_mem (by omega))
    have h3 := ih (by omega)
    omega
theorem toks_sized {R : List Rw} {S : List Sp} {b : Nat} (h : ∀ r ∈ R, r.token.size ≤ b) : ∀ s ∈ toksOf R S, s.size ≤ b := by
  intro s hs
  unfold toksOf at hs
  obtain ⟨i, _, rfl⟩ := List.mem_map.1 hs
  unfold tokAt
  cases hf : R.find? (fun r => decide (r.rank = (i : Int))) with
  | none => exact Nat.zero_le _
  | some r => exact h r (List.mem_of_find?_eq_some hf)

/-- A vocabulary of rows. -/
def vocOf (R : List Rw) (S : List Sp) : Vc := ⟨toksOf R S, sortMg (mergesOf (toksOf R S)), sortSp S⟩

end Go.Proofs.Yteoncpkfinheoaa
