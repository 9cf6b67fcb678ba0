/- Walks: the cache that is nil; that has no room. -/
import Derived.Test.YtjfpbhdcbjaahaaPut
import Derived.Test.YtjfpbhdcbjaahaaKeys
namespace Go.Proofs.Ytjfpbhdcbjaahaa
open Go.RowKit
set_option linter.unusedVariables false

theorem put_nil (key : ByteArray) (ao : Option Addr) (n c : Nat) (w : World) :
    Calls Try.prog 9 #[.pointer none, .string key, .slice ao n c] w fun en w' => en = .returned (.tuple #[]) ∧ Below w.heap.size w w' := by
  go_enter Try.func9, Try.ntmps9
  go_wp2
  refine bodyPost_ret (results_none rfl _ _ _) rfl ⟨rfl, Below.refl _ _⟩
theorem get_nil (key : ByteArray) (w : World) :
    Calls Try.prog 10 #[.pointer none, .string key] w fun en w' => en = .returned (.tuple #[.slice none 0 0, .bool false]) ∧ Below w.heap.size w w' := by
  go_enter Try.func10, Try.ntmps10
  go_wp2
  go_ret2
  exact ⟨rfl, Below.refl _ _⟩
theorem counts_nil (w : World) :
    Calls Try.prog 19 #[.pointer none] w fun en w' => en = .returned (.tuple #[.int .i64 0, .int .i64 0]) ∧ Below w.heap.size w w' := by
  go_enter Try.func19, Try.ntmps19
  go_wp2
  go_ret2
  exact ⟨rfl, Below.refl _ _⟩
theorem len_nil (w : World) :
    Calls Try.prog 12 #[.pointer none] w fun en w' => en = .returned (.int .i64 0) ∧ Below w.heap.size w w' := by
  go_enter Try.func12, Try.ntmps12
  go_wp2
  go_ret
  exact ⟨rfl, Below.refl _ _⟩
theorem room_nil (w : World) :
    Calls Try.prog 14 #[.pointer none] w fun en w' => en = .returned (.int .i64 0) ∧ Below w.heap.size w w' := by
  go_enter Try.func14, Try.ntmps14
  go_wp2
  go_ret
  exact ⟨rfl, Below.refl _ _⟩
theorem keys_nil (w : World) :
    Calls Try.prog 18 #[.pointer none] w fun en w' => en = .returned (.slice none 0 0) ∧ Below w.heap.size w w' := by
  go_enter Try.func18, Try.ntmps18
  go_wp2
  go_ret
  exact ⟨rfl, Below.refl _ _⟩

theorem put_zero {w : World} {base top cb mb m cap sz : Nat} {no : Option Addr} {N : Nat → Nd} {e y hits misses : Int} {ord : List Nat} {f : ByteArray → Option Int} {R : Nat → List Int} (h : CSt w base top cb mb no m cap N e y 0 hits misses ord sz f R) (key : ByteArray) (ao : Option Addr) (n c : Nat) :
    Calls Try.prog 9 #[.pointer (some ⟨cb, 0, none⟩), .string key, .slice ao n c] w fun en w' => en = .returned (.tuple #[]) ∧ Below w.heap.size w w' := by
  have f4 := h.fl.f4
  clear h
  go_enter Try.func9, Try.ntmps9
  go_wp2
  refine bodyPost_ret (results_none rfl _ _ _) rfl ⟨rfl, Below.refl _ _⟩

end Go.Proofs.Ytjfpbhdcbjaahaa
