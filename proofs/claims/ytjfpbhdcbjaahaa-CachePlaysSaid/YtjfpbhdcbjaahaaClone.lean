/- Walk: slices.Clone of a row of integers. -/
import Derived.Test.YtjfpbhdcbjaahaaLib
namespace Go.Proofs.Ytjfpbhdcbjaahaa
open Go.RowKit
set_option linter.unusedVariables false

theorem infoInt : (Try.prog.info? 3).map (fun i => (i.zero, i.size, i.bytes)) = some (some (.int .i64 0), 1, 8) := by kernel_rfl


theorem own_made0 (w : World) : Own (w.alloc (.cells #[] 3)) w.heap.size (.slice (some ⟨w.heap.size, 0, none⟩) 0 0) [] :=
  World.ownsRow_made w #[] 0 (Nat.le_refl _) (by unfold maxLen; omega) rfl

set_option maxHeartbeats 400000 in
theorem clone_nil (c : Nat) (w : World) :
    Calls Try.prog 22 #[.slice none 0 c] w fun e w' => ∃ v, e = .returned v ∧ Own w' w.heap.size v [] ∧ Below w.heap.size w w' := by
  have hsn := fun w => Lib.run_eql_slice_nil (P := Try.prog) w 26 3 none 0 c 0 0 Try.underlying26
  go_enter Try.func22, Try.ntmps22
  go_wp2
  go_ret
  exact ⟨_, rfl, Own.nil _ _, Below.refl _ _⟩

set_option maxHeartbeats 400000 in
theorem clone_some {A : List Int} {ad : Addr} {n c : Nat} (w : World) (hA : SlI w (some ad) n c A) (hreach : n * 8 ≤ 140737488355328) :
    Calls Try.prog 22 #[.slice (some ad) n c] w fun e w' => ∃ v, e = .returned v ∧ Own w' w.heap.size v A ∧ Below w.heap.size w w' := by
  have hmA := Nat.le_trans hA.le hA.max
  have hlA := Lib.hid hA.len
  unfold maxLen at hmA
  obtain ⟨i0, hi, hz0, hz1, hz2⟩ := info_parts infoInt
  have hsn := fun w => Lib.run_eql_slice_nil (P := Try.prog) w 26 3 (some ad) n c 0 0 Try.underlying26
  have hown := own_made0 w
  have hA2 := hA.alloc (.cells #[] 3)
  go_enter Try.func22, Try.ntmps22
  go_wp2_with (at_builtin; refine wpList_app rfl _ _ 26 rfl w.heap.size 3 i0 (.int .i64 0) 8 Try.underlying26 hi hz0 hz1 hz2 rfl _ 0 [] rfl hown (some ad) n c _ rfl hA2 (int_one A) (by unfold maxLen; omega) (by omega) (by simp) ?_)
  intro v' w' ho hg _
  go_wp2
  go_ret
  refine ⟨_, rfl, ?_, (below_alloc w _).grown hg (by simp) (by simp [Value.ownBlock])⟩
  unfold Own
  rw [hlA.out]
  simpa using ho

theorem clone_calls' {A : List Int} {ao : Option Addr} {n c : Nat} (w : World) (hA : SlI w ao n c A) (hreach : n * 8 ≤ 140737488355328) :
    Calls Try.prog 22 #[.slice ao n c] w fun e w' => ∃ v, e = .returned v ∧ Own w' w.heap.size v A ∧ Below w.heap.size w w' := by
  cases ao with
  | some ad => exact clone_some w hA hreach
  | none =>
    have hc := Sl.nil hA rfl
    have hn : n = 0 := by have := Sl.le hA; omega
    subst hn
    have : A = [] := List.eq_nil_of_length_eq_zero hA.len
    subst this
    exact clone_nil c w

theorem clone_calls {A : List Int} {ao : Option Addr} {n c : Nat} (w : World) (hA : SlI w ao n c A) (hreach : n * 8 ≤ 140737488355328) :
    Calls Try.prog 22 #[.slice ao n c] w fun e w' => ∃ vo vc, e = .returned (.slice vo n vc) ∧ Own w' w.heap.size (.slice vo n vc) A ∧ Below w.heap.size w w' := by
  have key : Calls Try.prog 22 #[.slice ao n c] w fun e w' => ∃ v, e = .returned v ∧ Own w' w.heap.size v A ∧ Below w.heap.size w w' := clone_calls' w hA hreach
  refine key.mono fun e w' ⟨v, he, ho, hb⟩ => ?_
  obtain ⟨vo, vc, rfl, _⟩ := ho.sl
  have := hA.len
  subst this
  exact ⟨vo, vc, he, ho, hb⟩



end Go.Proofs.Ytjfpbhdcbjaahaa
