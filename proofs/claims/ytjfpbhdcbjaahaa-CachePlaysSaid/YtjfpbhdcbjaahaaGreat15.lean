/- Walk: are the operations on a cache more than is gone through? And how they come in. -/
import Derived.Test.YtjfpbhdcbjaahaaRef15
import Derived.Test.YtjfpbhdcbjaahaaOpen
import Derived.Deep.Slices
import Derived.Deep.Fields
import Derived.ChangeSame
namespace Go.Proofs.Ytjfpbhdcbjaahaa
open Go.ChangeShapes Go.WideShapes Go.ChangeAt Go.RowKit Go.Joins Go.Deep
set_option linter.unusedVariables false

structure Ox where
  put : Bool
  key : ByteArray
  ro : Option Addr
  rn : Nat
  rc : Nat
  row : List Int

def Ox.enc (e : Ox) : List Value := [.bool e.put, .string e.key, .slice e.ro e.rn e.rc]
theorem Ox.enc_len (e : Ox) : e.enc.length = 3 := rfl

/-- Operations that read. -/
structure Ops (w : World) (ao : Option Addr) (n c : Nat) (O : List Ox) : Prop where
  sl : SlF 3 w ao n c (flat Ox.enc O)
  row : ∀ x ∈ O, SlI w x.ro x.rn x.rc x.row ∧ x.key.size ≤ maxLen

def smallO (x : Ox) : Prop := x.rn ≤ 50 ∧ x.key.size ≤ 50
/-- More than is gone through? -/
def greatB (O : List Ox) : Bool := decide (150 < O.length) || O.any (fun x => decide (50 < x.rn) || decide (50 < x.key.size))

theorem greatB_long {O : List Ox} (h : 150 < O.length) : greatB O = true := by simp [greatB, h]
theorem greatB_no {O : List Ox} (h : O.length ≤ 150) (h2 : ∀ x ∈ O, smallO x) : greatB O = false := by
  unfold greatB
  rw [Bool.or_eq_false_iff]
  refine ⟨by simp; omega, ?_⟩
  rw [List.any_eq_false]
  intro x hx
  have := h2 x hx
  unfold smallO at this
  simp
  omega
theorem greatB_some {O : List Ox} {x : Ox} (hx : x ∈ O) (h : ¬ smallO x) : greatB O = true := by
  unfold greatB
  rw [Bool.or_eq_true]
  right
  rw [List.any_eq_true]
  refine ⟨x, hx, ?_⟩
  unfold smallO at h
  simp
  omega
theorem greatB_false {O : List Ox} (h : greatB O = false) : O.length ≤ 150 ∧ ∀ x ∈ O, smallO x := by
  unfold greatB at h
  rw [Bool.or_eq_false_iff] at h
  refine ⟨by have := h.1; simp at this; exact this, fun x hx => ?_⟩
  have := (List.any_eq_false.1 h.2) x hx
  unfold smallO
  simp at this
  omega

theorem elO {O : List Ox} {k : Nat} (h : k < O.length) : ∃ e, O[k]? = some e := ⟨O[k], List.getElem?_eq_getElem h⟩

set_option maxHeartbeats 1000000 in
theorem great_calls {O : List Ox} {ao : Option Addr} {n c : Nat} (w : World) (hO : Ops w ao n c O) :
    Calls Try.prog 13 #[.slice ao n c] w fun en w' => en = .returned (.bool (greatB O)) ∧ Below w.heap.size w w' := by
  have hm := Nat.le_trans hO.sl.le hO.sl.max
  unfold maxLen at hm
  have hlen := Lib.hid (hO.sl.count Ox.enc_len (by omega))
  have HO := Lib.hid hO
  clear hO
  by_cases hl : (150 : Int) < n
  · have HG := Lib.hid (greatB_long (O := O) (by have := hlen.out; omega))
    go_enter Try.func13, Try.ntmps13
    go_wp2
    go_ret
    exact ⟨ret_bool HG.out.symm, Below.refl _ _⟩
  · go_enter Try.func13, Try.ntmps13
    go_wp2
    go_loopw [4, 10] (fun _ i wr => ∃ k : Nat, k ≤ n ∧ i = .int .i64 k ∧ Below w.heap.size w wr ∧ Hid (∀ j, j < k → ∀ x, O[j]? = some x → smallO x)) (fun _ i _ => n - (intOf i).toNat)
    case atStart => exact ⟨0, Nat.zero_le _, rfl, Below.refl _ _, Lib.hid (fun j h => by omega)⟩
    case round =>
      obtain ⟨k, hk, rfl, hb, hno⟩ := hrel
      have HB := Lib.hid hb
      clear hb
      by_cases hlt : k < n
      · obtain ⟨x, hx⟩ := elO (O := O) (k := k) (by have := hlen.out; omega)
        obtain ⟨b, o, rfl, hc⟩ := (HO.out.sl.below HB.out).elem Ox.enc_len (by omega) hx
        have d0 := hc 0 _ rfl
        have d1 := hc 1 _ rfl
        have d2 := hc 2 _ rfl
        rw [Nat.add_zero] at d0
        have HX := Lib.hid hx
        have hsm := (HO.out.row x (List.mem_of_getElem? hx)).1
        have hrn := Nat.le_trans (Sl.le hsm) (Sl.max hsm)
        have hks := (HO.out.row x (List.mem_of_getElem? hx)).2
        unfold maxLen at hrn hks
        have HB2 := Lib.hid (HB.out.alloc HB.out.size (.cells #[.bool x.put, .string x.key, .slice x.ro x.rn x.rc] 38))
        clear hc hx hsm
        by_cases h1 : (50 : Int) < x.rn
        · have HG := Lib.hid (greatB_some (List.mem_of_getElem? HX.out) (by unfold smallO; omega))
          go_wp2
          go_ret
          exact ⟨ret_bool HG.out.symm, HB2.out⟩
        · by_cases h2 : (50 : Int) < x.key.size
          · have HG := Lib.hid (greatB_some (List.mem_of_getElem? HX.out) (by unfold smallO; omega))
            go_wp2
            go_ret
            exact ⟨ret_bool HG.out.symm, HB2.out⟩
          · go_wp2
            go_roundw
            case rel => exact ⟨k + 1, by omega, by go_num, HB2.out, Lib.hid (fun j hj y hy => by
              by_cases ej : j = k
              · subst ej; rw [HX.out] at hy; cases hy; unfold smallO; omega
              · exact hno.out j (by omega) y hy)⟩
            case measure => simp [intOf]; omega
      · have HG := Lib.hid (greatB_no (O := O) (by have := hlen.out; omega) (fun x hx => by
          obtain ⟨j, hj, rfl⟩ := List.getElem_of_mem hx
          exact hno.out j (by have := hlen.out; have hkn : k = n := (by omega); omega) _ (List.getElem?_eq_getElem hj)))
        go_wp2
        go_ret
        exact ⟨ret_bool HG.out.symm, HB.out⟩

end Go.Proofs.Ytjfpbhdcbjaahaa
