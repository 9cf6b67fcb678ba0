/- Walks: New, Room, Len, Counts; free. -/
import Derived.Test.YtjfpbhdcbjaahaaCSt
import Derived.StillTailTactics
namespace Go.Proofs.Ytjfpbhdcbjaahaa
open Go.RowKit
set_option linter.unusedVariables false

def noNd : Nd := ⟨ByteArray.empty, none, 0, 0, 0, 0⟩

set_option maxHeartbeats 1000000 in
theorem new_no (room : Int) (h : room < 0 ∨ 1048576 < room) (w : World) :
    Calls Try.prog 8 #[.int .i64 room] w fun en w' => en = .returned (.pointer none) ∧ Below w.heap.size w w' := by
  by_cases h0 : room < 0
  · go_enter Try.func8, Try.ntmps8
    go_wp2
    go_ret
    exact ⟨rfl, Below.refl _ _⟩
  · have h1 : 1048576 < room := by omega
    go_enter Try.func8, Try.ntmps8
    go_wp2
    go_ret
    exact ⟨rfl, Below.refl _ _⟩

set_option maxHeartbeats 1000000 in
theorem new_yes (room : Int) (h0 : 0 ≤ room) (h1 : room ≤ 1048576) (w : World) (R : Nat → List Int) :
    Calls Try.prog 8 #[.int .i64 room] w fun en w' => ∃ cb mb, en = .returned (.pointer (some ⟨cb, 0, none⟩)) ∧
      CSt w' w.heap.size w'.heap.size cb mb none 0 0 (fun _ => noNd) (-1) (-1) room 0 0 [] 0 (fun _ => none) R ∧ Below w.heap.size w w' := by
  have hmm := @run_makeMap Try.prog
  go_enter Try.func8, Try.ntmps8
  go_wp2
  go_ret
  refine ⟨w.heap.size + 1, w.heap.size, rfl, ?_, (below_alloc w _).alloc (below_alloc w _).size _⟩
  refine ⟨⟨by simp [go_sem], by simp [go_sem], by simp [go_sem], by simp [go_sem], by simp [go_sem], by simp [go_sem], by simp [go_sem], fun o => by simp [go_sem]⟩, .inl ⟨rfl, rfl, rfl⟩, ?_, ⟨by simp, rfl, rfl, fun pre i post h => by simp at h⟩, by simp, by omega, ⟨by omega, by simp⟩, ⟨by omega, by simp; omega⟩, fun i hi => by omega, fun i hi => by omega⟩
  exact (MapSI.new w).stay (Below.heap_alloc _ _ _ (by simp))

section
variable {w : World} {base top cb mb m cap sz : Nat} {no : Option Addr} {N : Nat → Nd} {e y room hits misses : Int} {ord : List Nat} {f : ByteArray → Option Int} {R : Nat → List Int}

theorem room_calls (h : CSt w base top cb mb no m cap N e y room hits misses ord sz f R) :
    Calls Try.prog 14 #[.pointer (some ⟨cb, 0, none⟩)] w fun en w' => en = .returned (.int .i64 room) ∧ Below w.heap.size w w' := by
  have f4 := h.fl.f4
  clear h
  go_enter Try.func14, Try.ntmps14
  go_wp2
  go_ret
  exact ⟨rfl, Below.refl _ _⟩

theorem len_calls (h : CSt w base top cb mb no m cap N e y room hits misses ord sz f R) :
    Calls Try.prog 12 #[.pointer (some ⟨cb, 0, none⟩)] w fun en w' => en = .returned (.int .i64 sz) ∧ Below w.heap.size w w' := by
  have f1 := h.fl.f1
  have hm := h.mp
  clear h
  go_enter Try.func12, Try.ntmps12
  go_wp2_with (with_reducible show wpList _ _ _ (⟨_, .call { callee := .builtin .len, args := _, argTypes := _ }, _, _, _, _⟩ :: _) _ _; refine wpList_si_len rfl _ rfl rfl hm ?_)
  go_ret
  exact ⟨rfl, Below.refl _ _⟩

theorem counts_calls (h : CSt w base top cb mb no m cap N e y room hits misses ord sz f R) :
    Calls Try.prog 19 #[.pointer (some ⟨cb, 0, none⟩)] w fun en w' => en = .returned (.tuple #[.int .i64 hits, .int .i64 misses]) ∧ Below w.heap.size w w' := by
  have f5 := h.fl.f5
  have f6 := h.fl.f6
  clear h
  go_enter Try.func19, Try.ntmps19
  go_wp2
  first | go_ret2 | (go_region; all_goals (try go_wp2); all_goals go_ret2)
  all_goals exact ⟨rfl, by first | exact Below.refl _ _ | exact (Below.refl _ _).drew⟩
end

end Go.Proofs.Ytjfpbhdcbjaahaa
