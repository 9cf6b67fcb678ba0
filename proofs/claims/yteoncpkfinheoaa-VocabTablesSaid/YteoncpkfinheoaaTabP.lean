/- Plain laws: the merges of pairs. (Printed by gTab.py.) -/
import Derived.Test.YteoncpkfinheoaaFromV
import Derived.Test.YteoncpkfinheoaaPut9
import Derived.Test.YteoncpkfinheoaaGreatR
namespace Go.Proofs.Yteoncpkfinheoaa
set_option linter.unusedVariables false

def pm (T : List ByteArray) (p : Pr) (i : Nat) : Mg := ⟨ofT T p.left, ofT T p.right, ofT T (p.left ++ p.right), i⟩
def OkP (T : List ByteArray) (p : Pr) : Prop := 0 ≤ ofT T p.left ∧ 0 ≤ ofT T p.right ∧ 0 ≤ ofT T (p.left ++ p.right)
def pms (T : List ByteArray) (P : List Pr) (k : Nat) : List Mg := (List.range k).map (fun i => pm T (pr P i) i)
theorem pms_zero (T : List ByteArray) (P : List Pr) : pms T P 0 = [] := rfl
theorem pms_succ (T : List ByteArray) (P : List Pr) (k : Nat) : pms T P (k + 1) = pms T P k ++ [pm T (pr P k) k] := by
  unfold pms; rw [List.range_succ, List.map_append]; rfl
theorem pms_len (T : List ByteArray) (P : List Pr) (k : Nat) : (pms T P k).length = k := by unfold pms; simp
theorem pms_sorted (T : List ByteArray) (P : List Pr) (k : Nat) : SortedM (pms T P k) := by
  unfold SortedM pms
  rw [List.pairwise_map]
  refine List.pairwise_lt_range.imp ?_
  intro a b hab
  cases h : ahead (pm T (pr P b) b) (pm T (pr P a) a) with
  | false => rfl
  | true => rw [ahead_iff] at h; simp only [pm] at h; omega

def tabOf (R : List Rw) (P : List Pr) (S : List Sp) : Vc := ⟨toksOf R S, sortMg (pms (toksOf R S) P P.length), sortSp S⟩
def GoodTab (R : List Rw) (P : List Pr) (S : List Sp) : Prop := OkRows R S ∧ (∀ i, i < P.length → OkP (toksOf R S) (pr P i)) ∧ May (tabOf R P S)
open Classical in
noncomputable def tV (R : List Rw) (P : List Pr) (S : List Sp) : Vc := if GoodTab R P S then tabOf R P S else noVc
theorem tV_yes {R : List Rw} {P : List Pr} {S : List Sp} (h : GoodTab R P S) : tV R P S = tabOf R P S := by unfold tV; rw [if_pos h]
theorem tV_no {R : List Rw} {P : List Pr} {S : List Sp} (h : ¬ GoodTab R P S) : tV R P S = noVc := by unfold tV; rw [if_neg h]

end Go.Proofs.Yteoncpkfinheoaa
