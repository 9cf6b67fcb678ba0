/- Walks: may a name be? (Printed by gName.py.) -/
import Derived.Test.YteoncpkfinheoaaStr
import Derived.Test.YteoncpkfinheoaaVocP
import Derived.Lib.Strings
import Derived.Lib.Slices
import Derived.Lib.Walk
import Derived.Lib.Bytealg
namespace Go.Proofs.Yteoncpkfinheoaa
open Go.RowKit
set_option linter.unusedVariables false

set_option maxHeartbeats 1000000 in
set_option maxRecDepth 100000 in
theorem liteIndexByte_calls (s : ByteArray) (c : Int) (w : World) :
    Calls Try.prog 73 #[.string s, .int .u8 c] w fun e w' => e = .returned (.int .i64 (Lib.indexByte s.data.toList c.toNat.toUInt8)) ∧ w = w' := by
  go_enter Try.func73, Try.ntmps73
  go_wp2
  rw [run_callFunc_extern Try.func74 (by kernel_rfl) (by kernel_rfl) (by kernel_rfl) (e := Extern.BytealgIndexByte.indexByte) (by kernel_rfl), Lib.run_indexByteString]
  simp only [Result.andThen]
  rw [Oper.upon_value]
  go_wp2
  go_ret
  exact ⟨rfl, rfl⟩

set_option maxHeartbeats 1000000 in
theorem indexByte_calls (s : ByteArray) (c : Int) (w : World) :
    Calls Try.prog 70 #[.string s, .int .u8 c] w fun e w' => e = .returned (.int .i64 (Lib.indexByte s.data.toList c.toNat.toUInt8)) ∧ w = w' := by
  go_enter Try.func70, Try.ntmps70
  go_wp2_with (fail)
  refine (liteIndexByte_calls _ _ _).mono ?_
  rintro e w' ⟨rfl, rfl⟩
  go_wp2
  go_ret
  exact ⟨rfl, rfl⟩

def signsL : List UInt8 := (#[97, 98, 99, 100, 101, 102, 103, 104, 105, 106, 107, 108, 109, 110, 111, 112, 113, 114, 115, 116, 117, 118, 119, 120, 121, 122, 48, 49, 50, 51, 52, 53, 54, 55, 56, 57, 95] : Array UInt8).toList
set_option maxRecDepth 20000 in
theorem sign_index : ∀ n < 256, (Lib.indexByte signsL (UInt8.ofNat n) < 0 ↔ sign (UInt8.ofNat n) = false) := by decide +kernel
theorem sign_index' (c : UInt8) : (Lib.indexByte signsL c < 0 ↔ sign c = false) := by
  have := sign_index c.toNat c.toNat_lt
  rwa [UInt8.ofNat_toNat] at this

theorem sign_calls (c : UInt8) (w : World) :
    Calls Try.prog 70 #[.string { data := #[97, 98, 99, 100, 101, 102, 103, 104, 105, 106, 107, 108, 109, 110, 111, 112, 113, 114, 115, 116, 117, 118, 119, 120, 121, 122, 48, 49, 50, 51, 52, 53, 54, 55, 56, 57, 95] }, .int .u8 (c.toNat : Int)] w fun e w' => (∃ i : Int, e = .returned (.int .i64 i) ∧ (i < 0 ↔ sign c = false)) ∧ w = w' := by
  refine (indexByte_calls _ _ w).mono ?_
  rintro e w' ⟨rfl, rfl⟩
  refine ⟨⟨_, rfl, ?_⟩, rfl⟩
  have e1 : ((c.toNat : Int)).toNat.toUInt8 = c := by simp [Nat.toUInt8]
  rw [e1]
  exact sign_index' c

def NamePost (s : ByteArray) (w : World) (e : Ending) (w' : World) : Prop := (∃ b, e = .returned (.bool b) ∧ (b = true ↔ MayName s)) ∧ w = w'
def SignTo (s : ByteArray) (k : Nat) : Prop := ∀ j (h : j < s.size), j < k → sign (s[j]) = true
theorem SignTo.zero (s : ByteArray) : SignTo s 0 := fun j h hk => by omega
theorem SignTo.next {s : ByteArray} {k : Nat} (h : SignTo s k) (hk : k < s.size) (h1 : sign s[k] = true) : SignTo s (k + 1) := fun j hj h2 => by
  by_cases e : j = k
  · subst e; exact h1
  · exact h j hj (by omega)
theorem SignTo.all {s : ByteArray} {k : Nat} (h : SignTo s k) (hk : ¬ k < s.size) : s.data.toList.all sign = true := by
  rw [List.all_eq_true]
  intro x hx
  obtain ⟨j, hj, rfl⟩ := List.getElem_of_mem hx
  have hj' : j < s.size := by simpa using hj
  exact h j hj' (by omega)
theorem notName_sign {s : ByteArray} {k : Nat} (hk : k < s.size) (h : sign s[k] = false) : (false = true ↔ MayName s) := ⟨(fun h => by cases h), fun h2 => by
  have := (List.all_eq_true.1 h2.1) s[k] (by
    have : s[k] ∈ s.data.toList := by
      have h3 : s.data.toList[k]? = some s[k] := by
        rw [Array.getElem?_toList, Array.getElem?_eq_getElem (by simpa using hk)]; rfl
      exact List.mem_of_getElem? h3
    exact this)
  rw [h] at this; cases this⟩
theorem notName_size {s : ByteArray} (h : ¬ (1 ≤ s.size ∧ s.size ≤ 24)) : (false = true ↔ MayName s) := ⟨(fun h => by cases h), fun h2 => absurd h2.2 h⟩

set_option maxHeartbeats 1000000 in
theorem mayName_calls (s : ByteArray) (hs : s.size ≤ maxLen) (w : World) : Calls Try.prog 63 #[.string s] w (NamePost s w) := by
  unfold maxLen at hs
  go_enter Try.func63, Try.ntmps63
  go_wp2_with (fail)
  go_loop [3, 6] (fun _ i => ∃ k : Nat, k ≤ s.size ∧ i = .int .i64 k ∧ Hid (SignTo s k)) (fun _ i => s.size - (intOf i).toNat)
  case atStart => exact ⟨0, Nat.zero_le _, rfl, Lib.hid (SignTo.zero s)⟩
  case round =>
    obtain ⟨k, hk, rfl, HS⟩ := hrel
    by_cases hlt : k < s.size
    · go_wp2_with (fail)
      refine (sign_calls s[k] w).mono ?_
      rintro e w' ⟨⟨i, rfl, hi⟩, rfl⟩
      cases hsg : sign s[k] with
      | false =>
        have HF := Lib.hid (notName_sign hlt hsg)
        have hi0 := hi.2 hsg
        clear hi hsg
        go_wp2_with (fail)
        go_ret
        exact ⟨⟨_, rfl, HF.out⟩, rfl⟩
      | true =>
        have HS2 := Lib.hid (HS.out.next hlt hsg)
        have hi0 : ¬ i < 0 := fun h => by have := hi.1 h; rw [hsg] at this; cases this
        clear hi hsg
        go_wp2_with (fail)
        go_round
        case rel => exact ⟨k + 1, by omega, by go_num, HS2⟩
        case measure => simp [intOf]; omega
    · have HA := Lib.hid (HS.out.all hlt)
      by_cases hz : s.size = 0
      · obtain ⟨e1, e2, e3⟩ := strE_yes hz
        have HF := Lib.hid (notName_size (s := s) (by omega))
        go_wp2_with (fail)
        go_ret
        exact ⟨⟨_, rfl, HF.out⟩, rfl⟩
      · obtain ⟨e1, e2, e3⟩ := strE_no hz
        by_cases h24 : (s.size : Int) ≤ 24
        · have HF : Hid (MayName s) := Lib.hid ⟨HA.out, by omega, by omega⟩
          have h24' : s.size ≤ 24 := by omega
          go_wp2_with (fail)
          go_ret
          exact ⟨⟨_, rfl, (fun _ => HF.out), (fun _ => by simp <;> omega)⟩, rfl⟩
        · have HF := Lib.hid (notName_size (s := s) (by omega))
          have h24' : ¬ s.size ≤ 24 := by omega
          go_wp2_with (fail)
          go_ret
          exact ⟨⟨_, rfl, by simpa [h24'] using HF.out⟩, rfl⟩

set_option maxHeartbeats 2000000 in
theorem rmayName_calls (s : ByteArray) (hs : s.size ≤ maxLen) (w : World) : Calls Try.prog 48 #[.string s] w (NamePost s w) := by
  unfold maxLen at hs
  go_enter Try.func48, Try.ntmps48
  go_wp2_with (fail)
  go_loop [3, 4] (fun i _ => ∃ k : Nat, k ≤ s.size ∧ i = .int .i64 k ∧ Hid (SignTo s k)) (fun i _ => s.size - (intOf i).toNat)
  case atStart => exact ⟨0, Nat.zero_le _, rfl, Lib.hid (SignTo.zero s)⟩
  case round =>
    obtain ⟨k, hk, rfl, HS⟩ := hrel
    by_cases hlt : k < s.size
    · have hsd : sign s[k] = ((decide (97 ≤ s[k].toNat) && decide (s[k].toNat ≤ 122)) || (decide (48 ≤ s[k].toNat) && decide (s[k].toNat ≤ 57)) || decide (s[k].toNat = 95)) := rfl
      have HSD := Lib.hid hsd
      have hc256 := s[k].toNat_lt
      clear hsd
      by_cases r0 : (s[k].toNat : Int) < 48
      · have g0 : decide ((97 : Int) ≤ (s[k].toNat : Int)) = false := by simp; omega
        have g1 : decide ((s[k].toNat : Int) ≤ 122) = true := by simp; omega
        have g2 : decide ((48 : Int) ≤ (s[k].toNat : Int)) = false := by simp; omega
        have g3 : decide ((s[k].toNat : Int) ≤ 57) = true := by simp; omega
        have g4 : ((s[k].toNat : Int) == 95) = false := by simp; omega
        have HF := Lib.hid (notName_sign hlt (by rw [HSD.out]; simp; omega))
        clear r0
        go_wp2_with (fail)
        go_ret
        exact ⟨⟨_, rfl, HF.out⟩, rfl⟩
      by_cases r1 : (s[k].toNat : Int) ≤ 57
      · have g0 : decide ((97 : Int) ≤ (s[k].toNat : Int)) = false := by simp; omega
        have g1 : decide ((s[k].toNat : Int) ≤ 122) = true := by simp; omega
        have g2 : decide ((48 : Int) ≤ (s[k].toNat : Int)) = true := by simp; omega
        have g3 : decide ((s[k].toNat : Int) ≤ 57) = true := by simp; omega
        have g4 : ((s[k].toNat : Int) == 95) = false := by simp; omega
        have HS2 := Lib.hid (HS.out.next hlt (by rw [HSD.out]; simp; omega))
        clear r0 r1
        go_wp2_with (fail)
        go_round
        case rel => exact ⟨k + 1, by omega, by go_num, HS2⟩
        case measure => simp [intOf]; omega
      by_cases r2 : (s[k].toNat : Int) < 95
      · have g0 : decide ((97 : Int) ≤ (s[k].toNat : Int)) = false := by simp; omega
        have g1 : decide ((s[k].toNat : Int) ≤ 122) = true := by simp; omega
        have g2 : decide ((48 : Int) ≤ (s[k].toNat : Int)) = true := by simp; omega
        have g3 : decide ((s[k].toNat : Int) ≤ 57) = false := by simp; omega
        have g4 : ((s[k].toNat : Int) == 95) = false := by simp; omega
        have HF := Lib.hid (notName_sign hlt (by rw [HSD.out]; simp; omega))
        clear r0 r1 r2
        go_wp2_with (fail)
        go_ret
        exact ⟨⟨_, rfl, HF.out⟩, rfl⟩
      by_cases r3 : (s[k].toNat : Int) = 95
      · have g0 : decide ((97 : Int) ≤ (s[k].toNat : Int)) = false := by simp; omega
        have g1 : decide ((s[k].toNat : Int) ≤ 122) = true := by simp; omega
        have g2 : decide ((48 : Int) ≤ (s[k].toNat : Int)) = true := by simp; omega
        have g3 : decide ((s[k].toNat : Int) ≤ 57) = false := by simp; omega
        have g4 : ((s[k].toNat : Int) == 95) = true := by simp; omega
        have HS2 := Lib.hid (HS.out.next hlt (by rw [HSD.out]; simp; omega))
        clear r0 r1 r2 r3
        go_wp2_with (fail)
        go_round
        case rel => exact ⟨k + 1, by omega, by go_num, HS2⟩
        case measure => simp [intOf]; omega
      by_cases r4 : (s[k].toNat : Int) < 97
      · have g0 : decide ((97 : Int) ≤ (s[k].toNat : Int)) = false := by simp; omega
        have g1 : decide ((s[k].toNat : Int) ≤ 122) = true := by simp; omega
        have g2 : decide ((48 : Int) ≤ (s[k].toNat : Int)) = true := by simp; omega
        have g3 : decide ((s[k].toNat : Int) ≤ 57) = false := by simp; omega
        have g4 : ((s[k].toNat : Int) == 95) = false := by simp; omega
        have HF := Lib.hid (notName_sign hlt (by rw [HSD.out]; simp; omega))
        clear r0 r1 r2 r3 r4
        go_wp2_with (fail)
        go_ret
        exact ⟨⟨_, rfl, HF.out⟩, rfl⟩
      by_cases r5 : (s[k].toNat : Int) ≤ 122
      · have g0 : decide ((97 : Int) ≤ (s[k].toNat : Int)) = true := by simp; omega
        have g1 : decide ((s[k].toNat : Int) ≤ 122) = true := by simp; omega
        have g2 : decide ((48 : Int) ≤ (s[k].toNat : Int)) = true := by simp; omega
        have g3 : decide ((s[k].toNat : Int) ≤ 57) = false := by simp; omega
        have g4 : ((s[k].toNat : Int) == 95) = false := by simp; omega
        have HS2 := Lib.hid (HS.out.next hlt (by rw [HSD.out]; simp; omega))
        clear r0 r1 r2 r3 r4 r5
        go_wp2_with (fail)
        go_round
        case rel => exact ⟨k + 1, by omega, by go_num, HS2⟩
        case measure => simp [intOf]; omega
      have g0 : decide ((97 : Int) ≤ (s[k].toNat : Int)) = true := by simp; omega
      have g1 : decide ((s[k].toNat : Int) ≤ 122) = false := by simp; omega
      have g2 : decide ((48 : Int) ≤ (s[k].toNat : Int)) = true := by simp; omega
      have g3 : decide ((s[k].toNat : Int) ≤ 57) = false := by simp; omega
      have g4 : ((s[k].toNat : Int) == 95) = false := by simp; omega
      have HF := Lib.hid (notName_sign hlt (by rw [HSD.out]; simp; omega))
      clear r0 r1 r2 r3 r4 r5
      go_wp2_with (fail)
      go_ret
      exact ⟨⟨_, rfl, HF.out⟩, rfl⟩
    · have HA := Lib.hid (HS.out.all hlt)
      by_cases hz : s.size = 0
      · have HF := Lib.hid (notName_size (s := s) (by omega))
        have hz1 : decide ((1 : Int) ≤ (s.size : Int)) = false := by simp; omega
        have hz2 : ¬ 1 ≤ s.size := by omega
        go_wp2_with (fail)
        go_ret
        exact ⟨⟨_, rfl, HF.out⟩, rfl⟩
      · have hz1 : decide ((1 : Int) ≤ (s.size : Int)) = true := by simp; omega
        have hz2 : 1 ≤ s.size := by omega
        by_cases h24 : (s.size : Int) ≤ 24
        · have HF : Hid (MayName s) := Lib.hid ⟨HA.out, by omega, by omega⟩
          have h24' : s.size ≤ 24 := by omega
          go_wp2_with (fail)
          go_ret
          exact ⟨⟨_, rfl, (fun _ => HF.out), (fun _ => by simp <;> omega)⟩, rfl⟩
        · have HF := Lib.hid (notName_size (s := s) (by omega))
          have h24' : ¬ s.size ≤ 24 := by omega
          go_wp2_with (fail)
          go_ret
          exact ⟨⟨_, rfl, by simpa [h24'] using HF.out⟩, rfl⟩

end Go.Proofs.Yteoncpkfinheoaa
