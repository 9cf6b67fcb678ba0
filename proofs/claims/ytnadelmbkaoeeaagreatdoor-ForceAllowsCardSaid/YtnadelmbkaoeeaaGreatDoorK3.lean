/- Walks: may a name be? (Printed by gName.py.) -/
import Derived.Test.YtnadelmbkaoeeaaGreatDoorK1
import Derived.Lib.Strings
import Derived.Lib.Slices
import Derived.Lib.Walk
import Derived.Lib.Bytealg
import Derived.Test.YtnadelmbkaoeeaaGreatDoorK2
namespace Go.Proofs.YtnadelmbkaoeeaaGreatDoor
open Go.RowKit
set_option linter.unusedVariables false

set_option maxHeartbeats 1000000 in
set_option maxRecDepth 100000 in
theorem liteIndexByte_calls (s : ByteArray) (c : Int) (w : World) :
    Calls Tryz.prog 185 #[.string s, .int .u8 c] w fun e w' => e = .returned (.int .i64 (Lib.indexByte s.data.toList c.toNat.toUInt8)) ∧ w = w' := by
  go_enter Tryz.func185, Tryz.ntmps185
  go_wp2
  rw [run_callFunc_extern Tryz.func188 (by kernel_rfl) (by kernel_rfl) (by kernel_rfl) (e := Extern.BytealgIndexByte.indexByte) (by kernel_rfl), Lib.run_indexByteString]
  simp only [Result.andThen]
  rw [Oper.upon_value]
  go_wp2
  go_ret
  exact ⟨rfl, rfl⟩

set_option maxHeartbeats 1000000 in
theorem indexByte_calls (s : ByteArray) (c : Int) (w : World) :
    Calls Tryz.prog 181 #[.string s, .int .u8 c] w fun e w' => e = .returned (.int .i64 (Lib.indexByte s.data.toList c.toNat.toUInt8)) ∧ w = w' := by
  go_enter Tryz.func181, Tryz.ntmps181
  go_wp2_with (fail)
  refine (liteIndexByte_calls _ _ _).mono ?_
  rintro e w' ⟨rfl, rfl⟩
  go_wp2
  go_ret
  exact ⟨rfl, rfl⟩

def signsL : List UInt8 := (#[97, 98, 99, 100, 101, 102, 103, 104, 105, 106, 107, 108, 109, 110, 111, 112, 113, 114, 115, 116, 117, 118, 119, 120, 121, 122, 48, 49, 50, 51, 52, 53, 54, 55, 56, 57, 95] : Array UInt8).toList
set_option maxRecDepth 20000 in
theorem sign_index : ∀ n < 256, (Lib.indexByte signsL (UInt8.ofNat n) < 0 ↔ sign (UInt8.ofNat n) = false) := by decide +kernel
theorem sign_index' (c : UInt8) : (Lib.indexByte signsL c < 0 ↔ sign c = false) := by
  have := sign_index c.toNat c.toNat_lt
  rwa [UInt8.ofNat_toNat] at this

theorem sign_calls (c : UInt8) (w : World) :
    Calls Tryz.prog 181 #[.string { data := #[97, 98, 99, 100, 101, 102, 103, 104, 105, 106, 107, 108, 109, 110, 111, 112, 113, 114, 115, 116, 117, 118, 119, 120, 121, 122, 48, 49, 50, 51, 52, 53, 54, 55, 56, 57, 95] }, .int .u8 (c.toNat : Int)] w fun e w' => (∃ i : Int, e = .returned (.int .i64 i) ∧ (i < 0 ↔ sign c = false)) ∧ w = w' := by
  refine (indexByte_calls _ _ w).mono ?_
  rintro e w' ⟨rfl, rfl⟩
  refine ⟨⟨_, rfl, ?_⟩, rfl⟩
  have e1 : ((c.toNat : Int)).toNat.toUInt8 = c := by simp [Nat.toUInt8]
  rw [e1]
  exact sign_index' c

def NamePost (s : ByteArray) (w : World) (e : Ending) (w' : World) : Prop := (∃ b, e = .returned (.bool b) ∧ (b = true ↔ MayName s)) ∧ w = w'
def SignTo (s : ByteArray) (k : Nat) : Prop := ∀ j (h : j < s.size), j < k → sign (s[j]) = true
theorem SignTo.zero (s : ByteArray) : SignTo s 0 := fun j h hk => by omega
theorem SignTo.next {s : ByteArray} {k : Nat} (h : SignTo s k) (hk : k < s.size) (h1 : sign s[k] = true) : SignTo s (k + 1) := fun j hj h2 => by
  by_cases e : j = k
  · subst e; exact h1
  · exact h j hj (by omega)
theorem SignTo.all {s : ByteArray} {k : Nat} (h : SignTo s k) (hk : ¬ k < s.size) : s.data.toList.all sign = true := by
  rw [List.all_eq_true]
  intro x hx
  obtain ⟨j, hj, rfl⟩ := List.getElem_of_mem hx
  have hj' : j < s.size := by simpa using hj
  exact h j hj' (by omega)
theorem notName_sign {s : ByteArray} {k : Nat} (hk : k < s.size) (h : sign s[k] = false) : (false = true ↔ MayName s) := ⟨(fun h => by cases h), fun h2 => by
  have := (List.all_eq_true.1 h2.1) s[k] (by
    have : s[k] ∈ s.data.toList := by
      have h3 : s.data.toList[k]? = some s[k] := by
        rw [Array.getElem?_toList, Array.getElem?_eq_getElem (by simpa using hk)]; rfl
      exact List.mem_of_getElem? h3
    exact this)
  rw [h] at this; cases this⟩
theorem notName_size {s : ByteArray} (h : ¬ (1 ≤ s.size ∧ s.size ≤ 24)) : (false = true ↔ MayName s) := ⟨(fun h => by cases h), fun h2 => absurd h2.2 h⟩

set_option maxHeartbeats 1000000 in
theorem mayName_calls (s : ByteArray) (hs : s.size ≤ maxLen) (w : World) : Calls Tryz.prog 160 #[.string s] w (NamePost s w) := by
  unfold maxLen at hs
  go_enter Tryz.func160, Tryz.ntmps160
  go_wp2_with (fail)
  go_loop [3, 6] (fun _ i => ∃ k : Nat, k ≤ s.size ∧ i = .int .i64 k ∧ Hid (SignTo s k)) (fun _ i => s.size - (intOf i).toNat)
  case atStart => exact ⟨0, Nat.zero_le _, rfl, Lib.hid (SignTo.zero s)⟩
  case round =>
    obtain ⟨k, hk, rfl, HS⟩ := hrel
    by_cases hlt : k < s.size
    · go_wp2_with (fail)
      refine (sign_calls s[k] w).mono ?_
      rintro e w' ⟨⟨i, rfl, hi⟩, rfl⟩
      cases hsg : sign s[k] with
      | false =>
        have HF := Lib.hid (notName_sign hlt hsg)
        have hi0 := hi.2 hsg
        clear hi hsg
        go_wp2_with (fail)
        go_ret
        exact ⟨⟨_, rfl, HF.out⟩, rfl⟩
      | true =>
        have HS2 := Lib.hid (HS.out.next hlt hsg)
        have hi0 : ¬ i < 0 := fun h => by have := hi.1 h; rw [hsg] at this; cases this
        clear hi hsg
        go_wp2_with (fail)
        go_round
        case rel => exact ⟨k + 1, by omega, by go_num, HS2⟩
        case measure => simp [intOf]; omega
    · have HA := Lib.hid (HS.out.all hlt)
      by_cases hz : s.size = 0
      · obtain ⟨e1, e2, e3⟩ := strE_yes hz
        have HF := Lib.hid (notName_size (s := s) (by omega))
        go_wp2_with (fail)
        go_ret
        exact ⟨⟨_, rfl, HF.out⟩, rfl⟩
      · obtain ⟨e1, e2, e3⟩ := strE_no hz
        by_cases h24 : (s.size : Int) ≤ 24
        · have HF : Hid (MayName s) := Lib.hid ⟨HA.out, by omega, by omega⟩
          have h24' : s.size ≤ 24 := by omega
          go_wp2_with (fail)
          go_ret
          exact ⟨⟨_, rfl, (fun _ => HF.out), (fun _ => by simp <;> omega)⟩, rfl⟩
        · have HF := Lib.hid (notName_size (s := s) (by omega))
          have h24' : ¬ s.size ≤ 24 := by omega
          go_wp2_with (fail)
          go_ret
          exact ⟨⟨_, rfl, by simpa [h24'] using HF.out⟩, rfl⟩

set_option maxHeartbeats 2000000 in
theorem rmayName_calls (s : ByteArray) (hs : s.size ≤ maxLen) (w : World) : Calls Tryz.prog 67 #[.string s] w (NamePost s w) := by
  unfold maxLen at hs
  go_enter Tryz.func67, Tryz.ntmps67
  go_wp2_with (fail)
  go_loop [3, 4] (fun i _ => ∃ k : Nat, k ≤ s.size ∧ i = .int .i64 k ∧ Hid (SignTo s k)) (fun i _ => s.size - (intOf i).toNat)
  case atStart => exact ⟨0, Nat.zero_le _, rfl, Lib.hid (SignTo.zero s)⟩
  case round =>
    obtain ⟨k, hk, rfl, HS⟩ := hrel
    by_cases hlt : k < s.size
    · have hsd : sign s[k] = ((decide (97 ≤ s[k].toNat) && decide (s[k].toNat ≤ 122)) || (decide (48 ≤ s[k].toNat) && decide (s[k].toNat ≤ 57)) || decide (s[k].toNat = 95)) := rfl
      have HSD := Lib.hid hsd
      have hc256 := s[k].toNat_lt
      clear hsd
      by_cases r0 : (s[k].toNat : Int) < 48
      · have g0 : decide ((97 : Int) ≤ (s[k].toNat : Int)) = false := by simp; omega
        have g1 : decide ((s[k].toNat : Int) ≤ 122) = true := by simp; omega
        have g2 : decide ((48 : Int) ≤ (s[k].toNat : Int)) = false := by simp; omega
        have g3 : decide ((s[k].toNat : Int) ≤ 57) = true := by simp; omega
        have g4 : ((s[k].toNat : Int) == 95) = false := by simp; omega
        have HF := Lib.hid (notName_sign hlt (by rw [HSD.out]; simp; omega))
        clear r0
        go_wp2_with (fail)
        go_ret
        exact ⟨⟨_, rfl, HF.out⟩, rfl⟩
      by_cases r1 : (s[k].toNat : Int) ≤ 57
      · have g0 : decide ((97 : Int) ≤ (s[k].toNat : Int)) = false := by simp; omega
        have g1 : decide ((s[k].toNat : Int) ≤ 122) = true := by simp; omega
        have g2 : decide ((48 : Int) ≤ (s[k].toNat : Int)) = true := by simp; omega
        have g3 : decide ((s[k].toNat : Int) ≤ 57) = true := by simp; omega
        have g4 : ((s[k].toNat : Int) == 95) = false := by simp; omega
        have HS2 := Lib.hid (HS.out.next hlt (by rw [HSD.out]; simp; omega))
        clear r0 r1
        go_wp2_with (fail)
        go_round
        case rel => exact ⟨k + 1, by omega, by go_num, HS2⟩
        case measure => simp [intOf]; omega
      by_cases r2 : (s[k].toNat : Int) < 95
      · have g0 : decide ((97 : Int) ≤ (s[k].toNat : Int)) = false := by simp; omega
        have g1 : decide ((s[k].toNat : Int) ≤ 122) = true := by simp; omega
        have g2 : decide ((48 : Int) ≤ (s[k].toNat : Int)) = true := by simp; omega
        have g3 : decide ((s[k].toNat : Int) ≤ 57) = false := by simp; omega
        have g4 : ((s[k].toNat : Int) == 95) = false := by simp; omega
        have HF := Lib.hid (notName_sign hlt (by rw [HSD.out]; simp; omega))
        clear r0 r1 r2
        go_wp2_with (fail)
        go_ret
        exact ⟨⟨_, rfl, HF.out⟩, rfl⟩
      by_cases r3 : (s[k].toNat : Int) = 95
      · have g0 : decide ((97 : Int) ≤ (s[k].toNat : Int)) = false := by simp; omega
        have g1 : decide ((s[k].toNat : Int) ≤ 122) = true := by simp; omega
        have g2 : decide ((48 : Int) ≤ (s[k].toNat : Int)) = true := by simp; omega
        have g3 : decide ((s[k].toNat : Int) ≤ 57) = false := by simp; omega
        have g4 : ((s[k].toNat : Int) == 95) = true := by simp; omega
        have HS2 := Lib.hid (HS.out.next hlt (by rw [HSD.out]; simp; omega))
        clear r0 r1 r2 r3
        go_wp2_with (fail)
        go_round
        case rel => exact ⟨k + 1, by omega, by go_num, HS2⟩
        case measure => simp [intOf]; omega
      by_cases r4 : (s[k].toNat : Int) < 97
      · have g0 : decide ((97 : Int) ≤ (s[k].toNat : Int)) = false := by simp; omega
        have g1 : decide ((s[k].toNat : Int) ≤ 122) = true := by simp; omega
        have g2 : decide ((48 : Int) ≤ (s[k].toNat : Int)) = true := by simp; omega
        have g3 : decide ((s[k].toNat : Int) ≤ 57) = false := by simp; omega
        have g4 : ((s[k].toNat : Int) == 95) = false := by simp; omega
        have HF := Lib.hid (notName_sign hlt (by rw [HSD.out]; simp; omega))
        clear r0 r1 r2 r3 r4
        go_wp2_with (fail)
        go_ret
        exact ⟨⟨_, rfl, HF.out⟩, rfl⟩
      by_cases r5 : (s[k].toNat : Int) ≤ 122
      · have g0 : decide ((97 : Int) ≤ (s[k].toNat : Int)) = true := by simp; omega
        have g1 : decide ((s[k].toNat : Int) ≤ 122) = true := by simp; omega
        have g2 : decide ((48 : Int) ≤ (s[k].toNat : Int)) = true := by simp; omega
        have g3 : decide ((s[k].toNat : Int) ≤ 57) = false := by simp; omega
        have g4 : ((s[k].toNat : Int) == 95) = false := by simp; omega
        have HS2 := Lib.hid (HS.out.next hlt (by rw [HSD.out]; simp; omega))
        clear r0 r1 r2 r3 r4 r5
        go_wp2_with (fail)
        go_round
        case rel => exact ⟨k + 1, by omega, by go_num, HS2⟩
        case measure => simp [intOf]; omega
      have g0 : decide ((97 : Int) ≤ (s[k].toNat : Int)) = true := by simp; omega
      have g1 : decide ((s[k].toNat : Int) ≤ 122) = false := by simp; omega
      have g2 : decide ((48 : Int) ≤ (s[k].toNat : Int)) = true := by simp; omega
      have g3 : decide ((s[k].toNat : Int) ≤ 57) = false := by simp; omega
      have g4 : ((s[k].toNat : Int) == 95) = false := by simp; omega
      have HF := Lib.hid (notName_sign hlt (by rw [HSD.out]; simp; omega))
      clear r0 r1 r2 r3 r4 r5
      go_wp2_with (fail)
      go_ret
      exact ⟨⟨_, rfl, HF.out⟩, rfl⟩
    · have HA := Lib.hid (HS.out.all hlt)
      by_cases hz : s.size = 0
      · have HF := Lib.hid (notName_size (s := s) (by omega))
        have hz1 : decide ((1 : Int) ≤ (s.size : Int)) = false := by simp; omega
        have hz2 : ¬ 1 ≤ s.size := by omega
        go_wp2_with (fail)
        go_ret
        exact ⟨⟨_, rfl, HF.out⟩, rfl⟩
      · have hz1 : decide ((1 : Int) ≤ (s.size : Int)) = true := by simp; omega
        have hz2 : 1 ≤ s.size := by omega
        by_cases h24 : (s.size : Int) ≤ 24
        · have HF : Hid (MayName s) := Lib.hid ⟨HA.out, by omega, by omega⟩
          have h24' : s.size ≤ 24 := by omega
          go_wp2_with (fail)
          go_ret
          exact ⟨⟨_, rfl, (fun _ => HF.out), (fun _ => by simp <;> omega)⟩, rfl⟩
        · have HF := Lib.hid (notName_size (s := s) (by omega))
          have h24' : ¬ s.size ≤ 24 := by omega
          go_wp2_with (fail)
          go_ret
          exact ⟨⟨_, rfl, by simpa [h24'] using HF.out⟩, rfl⟩

end Go.Proofs.YtnadelmbkaoeeaaGreatDoor

/- Walks: may specials be? (Printed by gSp.py.) -/
namespace Go.Proofs.YtnadelmbkaoeeaaGreatDoor
open Go.RowKit
set_option linter.unusedVariables false

def sp (S : List Sp) (i : Nat) : Sp := S.getD i ⟨ByteArray.empty, 0⟩
theorem sp_eq {S : List Sp} {i : Nat} (h : i < S.length) : S[i]? = some (sp S i) := by simp [sp, List.getD, h]
theorem sp_get {S : List Sp} {i : Nat} (h : i < S.length) : S[i] = sp S i := by simp [sp, List.getD, h]

theorem mayName_yes {s : ByteArray} (hs : s.size ≤ maxLen) (h : MayName s) (w : World) : Calls Tryz.prog 160 #[.string s] w fun e w' => e = .returned (.bool true) ∧ w' = w :=
  (mayName_calls s hs w).mono fun e w' ⟨⟨b, h1, h2⟩, h3⟩ => ⟨by rw [h1, h2.2 h], h3.symm⟩
theorem mayName_no {s : ByteArray} (hs : s.size ≤ maxLen) (h : ¬ MayName s) (w : World) : Calls Tryz.prog 160 #[.string s] w fun e w' => e = .returned (.bool false) ∧ w' = w :=
  (mayName_calls s hs w).mono fun e w' ⟨⟨b, h1, h2⟩, h3⟩ => ⟨by cases b with | false => exact h1 | true => exact absurd (h2.1 rfl) h, h3.symm⟩

structure GoodS (T : List ByteArray) (S : List Sp) (k : Nat) : Prop where
  ok : ∀ j, j < k → OkSp T (sp S j)
  rise : ∀ j, j + 1 < k → sless (sp S j).name (sp S (j + 1)).name = true
  ids : ∀ i j, i < j → j < k → (sp S i).id ≠ (sp S j).id
theorem GoodS.zero (T : List ByteArray) (S : List Sp) : GoodS T S 0 := ⟨fun j h => by omega, fun j h => by omega, fun i j _ h => by omega⟩
theorem GoodS.next {T : List ByteArray} {S : List Sp} {k : Nat} (h : GoodS T S k) (h1 : OkSp T (sp S k)) (h2 : 0 < k → sless (sp S (k - 1)).name (sp S k).name = true) (h3 : ∀ i, i < k → (sp S i).id ≠ (sp S k).id) : GoodS T S (k + 1) := by
  refine ⟨fun j hj => ?_, fun j hj => ?_, fun i j hi hj => ?_⟩
  · by_cases e : j = k
    · subst e; exact h1
    · exact h.ok j (by omega)
  · by_cases e : j + 1 = k
    · subst e
      have := h2 (by omega)
      simpa using this
    · exact h.rise j (by omega)
  · by_cases e : j = k
    · subst e; exact h3 i hi
    · exact h.ids i j hi (by omega)
theorem GoodS.all {T : List ByteArray} {S : List Sp} {k n : Nat} (h : GoodS T S k) (hl : S.length = n) (hk : k ≤ n) (hk2 : ¬ k < n) (hn : n ≤ 16) : MaySp T S := by
  obtain rfl : k = n := by omega
  refine ⟨by omega, fun m hm => ?_, ?_⟩
  · obtain ⟨i, hi, rfl⟩ := List.getElem_of_mem hm
    rw [sp_get hi]; exact h.ok i (by omega)
  · have hr : S.Pairwise (fun a b => sless a.name b.name = true) := pairwise_of_next (l := S) (R := fun a b => sless a.name b.name = true) (fun a b c h1 h2 => sless_trans (a := a.name) (b := b.name) (c := c.name) h1 h2) (fun i a b ha hb => by
      have h1 := (List.getElem?_eq_some_iff.1 ha).1
      have h2 := (List.getElem?_eq_some_iff.1 hb).1
      rw [sp_eq h1] at ha
      rw [sp_eq h2] at hb
      cases ha; cases hb
      exact h.rise i (by omega))
    rw [List.pairwise_iff_getElem] at hr ⊢
    intro i j hi hj hij
    refine ⟨hr i j hi hj hij, ?_⟩
    rw [sp_get hi, sp_get hj]
    exact h.ids i j hij (by omega)
theorem MaySp.ok {T : List ByteArray} {S : List Sp} (h : MaySp T S) {k : Nat} (hk : k < S.length) : OkSp T (sp S k) := by
  rw [← sp_get hk]; exact h.2.1 _ (List.getElem_mem _)
theorem MaySp.pair {T : List ByteArray} {S : List Sp} (h : MaySp T S) {i j : Nat} (hi : i < j) (hj : j < S.length) : sless (sp S i).name (sp S j).name = true ∧ (sp S i).id ≠ (sp S j).id := by
  have := (List.pairwise_iff_getElem.1 h.2.2) i j (by omega) hj hi
  rw [sp_get hj, sp_get (by omega)] at this
  exact this
theorem notMaySp_long {T : List ByteArray} {S : List Sp} (h : 16 < S.length) : (false = true ↔ MaySp T S) := ⟨(fun h => by cases h), fun h2 => by have := h2.1; omega⟩
theorem notMaySp_ok {T : List ByteArray} {S : List Sp} {k : Nat} (hk : k < S.length) (h : ¬ OkSp T (sp S k)) : (false = true ↔ MaySp T S) := ⟨(fun h => by cases h), fun h2 => absurd (h2.ok hk) h⟩
theorem notMaySp_rise {T : List ByteArray} {S : List Sp} {i k : Nat} (hi : i < k) (hk : k < S.length) (h : sless (sp S i).name (sp S k).name = false) : (false = true ↔ MaySp T S) := ⟨(fun h => by cases h), fun h2 => by have := (h2.pair hi hk).1; rw [h] at this; cases this⟩
theorem notMaySp_id {T : List ByteArray} {S : List Sp} {i k : Nat} (hi : i < k) (hk : k < S.length) (h : (sp S i).id = (sp S k).id) : (false = true ↔ MaySp T S) := ⟨(fun h => by cases h), fun h2 => absurd h (h2.pair hi hk).2⟩

def MaySpPost (T : List ByteArray) (S : List Sp) (w : World) (e : Ending) (w' : World) : Prop := (∃ b, e = .returned (.bool b) ∧ (b = true ↔ MaySp T S)) ∧ Below w.heap.size w w'

def SeenS (S : List Sp) (k : Nat) (f : Int → Option Int) : Prop := ∀ p c, f p = some c ↔ c = 1 ∧ ∃ j, j < k ∧ (sp S j).id = p
theorem SeenS.zero (S : List Sp) : SeenS S 0 (fun _ => none) := fun p c => ⟨(fun h => by cases h), fun ⟨_, j, hj, _⟩ => by omega⟩
theorem SeenS.next {S : List Sp} {k : Nat} {f : Int → Option Int} (h : SeenS S k f) : SeenS S (k + 1) (fun t => if t = (sp S k).id then some 1 else f t) := fun p c => by
  show (if p = (sp S k).id then some 1 else f p) = some c ↔ _
  by_cases e : p = (sp S k).id
  · rw [if_pos e]
    constructor
    · intro hc; simp at hc; exact ⟨hc.symm, k, by omega, e.symm⟩
    · rintro ⟨hc, _⟩; rw [hc]
  · rw [if_neg e, h p c]
    constructor
    · rintro ⟨hc, j, hj, he⟩; exact ⟨hc, j, by omega, he⟩
    · rintro ⟨hc, j, hj, he⟩
      have : j ≠ k := fun ej => e (by rw [← he, ej])
      exact ⟨hc, j, by omega, he⟩
theorem SeenS.yes {S : List Sp} {k : Nat} {f : Int → Option Int} (h : SeenS S k f) {c : Int} (hf : f (sp S k).id = some c) : c = 1 ∧ ∃ i, i < k ∧ (sp S i).id = (sp S k).id := by
  obtain ⟨hc, j, hj, he⟩ := (h _ _).1 hf
  exact ⟨hc, j, hj, he⟩
theorem SeenS.no {S : List Sp} {k : Nat} {f : Int → Option Int} (h : SeenS S k f) (hf : f (sp S k).id = none) : ∀ i, i < k → (sp S i).id ≠ (sp S k).id := fun i hi e => by
  have : f (sp S k).id = some 1 := (h _ _).2 ⟨rfl, i, hi, e⟩
  rw [hf] at this; cases this

/-- What the sizes of a vocabulary's strings are. -/
def Sized (S : List Sp) : Prop := ∀ s ∈ S, s.name.size ≤ maxLen

set_option maxHeartbeats 4000000 in
set_option maxRecDepth 100000 in
theorem maySpecials_calls {T : List ByteArray} {S : List Sp} {ao so : Option Addr} {tn c sn sc : Nat} (w : World) (hT : SlS w ao tn c T) (hS : SlF 2 w so sn sc (flat Sp.enc S)) (hsz : Sized S) (hn : sn ≤ 1048576) :
    Calls Tryz.prog 133 #[.slice ao tn c, .slice so sn sc] w (MaySpPost T S w) := by
  have hm := Nat.le_trans (Sl.le hT) (Sl.max hT)
  have hmm := Nat.le_trans hS.le hS.max
  unfold maxLen at hm hmm
  have hlen := Lib.hid hT.count
  have hlenS := Lib.hid (hS.count Sp.enc_len (by omega))
  have hmk := @run_makeMap Tryz.prog
  have HT := Lib.hid hT
  have HSS := Lib.hid hS
  have HSZ := Lib.hid hsz
  have H0 := Lib.hid (MapK.new VI 3 w)
  have HB0 := Lib.hid (below_alloc w (.map #[] 0))
  clear hT hS hsz
  go_enter Tryz.func133, Tryz.ntmps133
  go_wp2_with (fail)
  go_loopw [6, 7, 11] (fun _ _ i wr => ∃ (k sz : Nat) (f : Int → Option Int), k ≤ sn ∧ i = .int .i64 k ∧ sz ≤ k ∧ MapI wr w.heap.size sz f ∧ Hid (SeenS S k f) ∧ Hid (GoodS T S k) ∧ Below w.heap.size w wr) (fun _ _ i _ => sn - (intOf i).toNat)
  case atStart => exact ⟨0, 0, _, Nat.zero_le _, rfl, Nat.le_refl _, H0.out, Lib.hid (SeenS.zero S), Lib.hid (GoodS.zero T S), HB0.out⟩
  case round =>
    obtain ⟨k, sz, f, hk, rfl, hszk, hmap, HS, HG, hb⟩ := hrel
    have HMp := Lib.hid hmap
    have HB := Lib.hid hb
    clear hmap hb
    by_cases hlt : k < sn
    · have hkS : k < S.length := by have := hlenS.out; omega
      obtain ⟨b, of, rfl, hce⟩ := (HSS.out.below HB.out).elem Sp.enc_len (by omega) (sp_eq hkS)
      have HNS0 := Lib.hid (HSZ.out _ (List.mem_of_getElem? (sp_eq hkS)))
      obtain ⟨⟨nm, id⟩, hseq⟩ : ∃ m, sp S k = m := ⟨_, rfl⟩
      have HNS : Hid (nm.size ≤ maxLen) := Lib.hid (by have := HNS0.out; rw [hseq] at this; exact this)
      rw [hseq] at hce
      have d0 := hce 0 _ rfl
      have d1 := hce 1 _ rfl
      rw [Nat.add_zero] at d0
      simp only at d0 d1
      have HSK := Lib.hid hseq
      have hwb := below_alloc wr (.cells #[.string nm, .int .i64 id] 82)
      obtain ⟨w1, hw1⟩ : ∃ w1, wr.alloc (.cells #[.string nm, .int .i64 id] 82) = w1 := ⟨_, rfl⟩
      rw [hw1] at hwb
      have HB1 := Lib.hid (HB.out.trans (hwb.mono HB.out.size))
      have HT1 := Lib.hid (Sl.below HT.out HB1.out)
      have HM1 := Lib.hid (HMp.out.below hwb)
      have hbx : w1.heap[wr.heap.size]? = some (.cells #[.string nm, .int .i64 id] 82) := by rw [← hw1]; exact heap_alloc_new wr _
      obtain ⟨b0, b1⟩ := box2' hbx
      have HBX := Lib.hid hbx
      have HW1 := Lib.hid hw1
      have d0' := cell_below hwb _ _ d0
      clear hce hseq hbx hw1
      by_cases hnm : MayName nm
      · have HNM := Lib.hid hnm
        clear hnm
        by_cases hk0 : k = 0
        · have hg00 : decide ((0 : Int) < (k : Int)) = false := by simp; omega
          have hg01 : decide (0 < k) = false := by simp; omega
          have HK0 := Lib.hid hk0
          clear hwb hk0
          by_cases hi0 : id < 0
          · have hg : decide (id < 0) = true := by simpa using hi0
            have HF := Lib.hid (notMaySp_ok (T := T) hkS (fun h => by rw [HSK.out] at h; have := h.2.1; simp only at this; omega))
            go_wp2_with (fail)
            rw [HW1.out]
            go_quiet ((go_at_call 160; exact Calls.quiet_of_same (mayName_yes HNS.out HNM.out _)))
            go_wp2_with (fail)
            go_ret
            exact ⟨⟨_, rfl, HF.out⟩, below_drewN HB1.out _⟩
          have hg0 : decide (id < 0) = false := by simpa using hi0
          by_cases hi1 : (tn : Int) ≤ id
          · have hg : decide ((tn : Int) ≤ id) = true := by simpa using hi1
            have HF := Lib.hid (notMaySp_ok (T := T) hkS (fun h => by rw [HSK.out] at h; have := h.2.2.1; have := hlen.out; simp only at *; omega))
            go_wp2_with (fail)
            rw [HW1.out]
            go_quiet ((go_at_call 160; exact Calls.quiet_of_same (mayName_yes HNS.out HNM.out _)))
            go_wp2_with (fail)
            go_ret
            exact ⟨⟨_, rfl, HF.out⟩, below_drewN HB1.out _⟩
          have hg1 : decide ((tn : Int) ≤ id) = false := by simpa using hi1
          obtain ⟨q, rfl⟩ := Int.eq_ofNat_of_zero_le (Int.not_lt.1 hi0)
          have hqT : q < T.length := by have := hlen.out; omega
          obtain ⟨bt, ot, hao, hct⟩ := SlS.cell HT1.out (tk_eq hqT)
          subst hao
          have gq : (q : Int) < (tn : Int) := by omega
          have gq2 : decide ((tn : Int) ≤ (q : Int)) = false := by simp; omega
          have gq3 : decide ((q : Int) < 0) = false := by simp
          have gq4 : decide (tn ≤ q) = false := by simp; omega
          clear hg0 hg1
          by_cases hz : (tk T q).size = 0
          · obtain ⟨e1, e2, e3⟩ := strE_yes hz
            have e4 : ((tk T q).toList != []) = false := by simp [e1]
            have HZ := Lib.hid hz
            have hwq : (Lit.int .i64 (q : Int)).wf = true := by rw [i64_wf]; omega
            have HWQ := Lib.hid hwq
            clear hz hwq
            have HOK : Hid (OkSp T (sp S k)) := Lib.hid (by rw [HSK.out]; exact ⟨HNM.out, by simp only; omega, by simp only; omega, HZ.out⟩)
            cases hf : f (q : Int) with
            | some c =>
              obtain ⟨hcc, i, hi, hnp⟩ := HS.out.yes (c := c) (by rw [HSK.out]; exact hf)
              subst hcc
              have HF := Lib.hid (notMaySp_id (T := T) hi hkS hnp)
              have hlk : ∀ m, (Instr.lookup 212 (.map (some w.heap.size)) (.int .i64 (q : Int)) false).run Tryz.prog (w1.drewN m) = .ok (.int .i64 1) (w1.drewN m) := fun m => by
                have := MapK.get (V := VI) (s := (q : Int)) Tryz.underlying212 Tryz.underlying3 zeroInt (HM1.out.drewN m) HWQ.out
                rw [hf] at this; exact this
              clear hnp hf
              go_wp2_with (fail)
              rw [HW1.out]
              go_quiet ((go_at_call 160; exact Calls.quiet_of_same (mayName_yes HNS.out HNM.out _)))
              go_wp2_with (fail)
              go_ret
              exact ⟨⟨_, rfl, HF.out⟩, below_drewN HB1.out _⟩
            | none =>
              have HNO := Lib.hid (HS.out.no (by rw [HSK.out]; exact hf))
              have hlk : ∀ m, (Instr.lookup 212 (.map (some w.heap.size)) (.int .i64 (q : Int)) false).run Tryz.prog (w1.drewN m) = .ok (.int .i64 0) (w1.drewN m) := fun m => by
                have := MapK.get (V := VI) (s := (q : Int)) Tryz.underlying212 Tryz.underlying3 zeroInt (HM1.out.drewN m) HWQ.out
                rw [hf] at this; exact this
              have HSn : Hid (SeenS S (k + 1) (fun t => if t = (q : Int) then some 1 else f t)) := Lib.hid (by have := HS.out.next; rw [HSK.out] at this; exact this)
              have HGn : Hid (GoodS T S (k + 1)) := Lib.hid (HG.out.next HOK.out (fun h => by have := HK0.out; omega) HNO.out)
              clear hf
              go_wp2_with (fail)
              rw [HW1.out]
              go_quiet ((go_at_call 160; exact Calls.quiet_of_same (mayName_yes HNS.out HNM.out _)))
              go_wp2_with (with_reducible show wpList _ _ _ (⟨_, .mapUpdate _ _ _ _, _, _, _, _⟩ :: _) _ _; refine wpList_mi_put rfl _ _ _ rfl rfl (HM1.out.drewN _) rfl HWQ.out rfl (by decide) (by unfold maxLen; omega) ?_)
              intro w2 sz2 hsz2 hm2 hg2'
              have HM2 := Lib.hid hm2
              have HB2 := Lib.hid ((below_drewN HB1.out _).grown hg2' HB1.out.size fun q hq => by simp at hq; omega)
              clear hm2 hg2'
              go_wp2_with (fail)
              go_roundw
              case rel => exact ⟨k + 1, sz2, _, by omega, by go_num, by omega, HM2.out, HSn, HGn, HB2.out⟩
              case measure => simp [intOf]; omega
          · obtain ⟨e1, e2, e3⟩ := strE_no hz
            have e4 : ((tk T q).toList != []) = true := by simp [e1]
            have HF := Lib.hid (notMaySp_ok (T := T) hkS (fun h => by rw [HSK.out] at h; exact hz h.2.2.2))
            clear hz
            go_wp2_with (fail)
            rw [HW1.out]
            go_quiet ((go_at_call 160; exact Calls.quiet_of_same (mayName_yes HNS.out HNM.out _)))
            go_wp2_with (fail)
            go_ret
            exact ⟨⟨_, rfl, HF.out⟩, below_drewN HB1.out _⟩
        · obtain ⟨⟨pn, pid⟩, hpeq⟩ : ∃ m, sp S (k - 1) = m := ⟨_, rfl⟩
          obtain ⟨bp, op, hao, hcp⟩ := ((HSS.out.below HB.out).below hwb).elem Sp.enc_len (by omega) (sp_eq (S := S) (i := k - 1) (by omega))
          simp at hao
          obtain ⟨rfl, rfl⟩ := hao
          rw [hpeq] at hcp
          have p0 := hcp 0 _ rfl
          rw [Nat.add_zero] at p0
          simp only at p0
          have HPEQ := Lib.hid hpeq
          have hg00 : decide ((0 : Int) < (k : Int)) = true := by simp; omega
          have hg01 : 0 < k := by omega
          have hg02 : decide (0 < k) = true := by simpa using hg01
          have e1' : IntKind.i64.wrap ((k : Int) - 1) = (k : Int) - 1 := by rw [IntKind.wrap_i64]; omega
          have e2' : (0 : Int) ≤ (k : Int) - 1 := by omega
          have e3' : (1 : Int) ≤ (k : Int) := by omega
          have e4' : (k : Int) - 1 < (sn : Int) := by omega
          have hkm : ((k : Int) - 1).toNat = k - 1 := by omega
          clear hcp hpeq hwb
          cases hbl : Op.bytesLess pn.toList nm.toList with
          | false =>
            have HF := Lib.hid (notMaySp_rise (T := T) (i := k - 1) (by omega) hkS (by rw [HPEQ.out, HSK.out]; exact hbl))
            go_wp2_with (fail)
            rw [HW1.out]
            go_quiet ((go_at_call 160; exact Calls.quiet_of_same (mayName_yes HNS.out HNM.out _)))
            go_wp2_with (fail)
            go_ret
            exact ⟨⟨_, rfl, HF.out⟩, below_drewN HB1.out _⟩
          | true =>
            by_cases hi0 : id < 0
            · have hg : decide (id < 0) = true := by simpa using hi0
              have HF := Lib.hid (notMaySp_ok (T := T) hkS (fun h => by rw [HSK.out] at h; have := h.2.1; simp only at this; omega))
              go_wp2_with (fail)
              rw [HW1.out]
              go_quiet ((go_at_call 160; exact Calls.quiet_of_same (mayName_yes HNS.out HNM.out _)))
              go_wp2_with (fail)
              go_ret
              exact ⟨⟨_, rfl, HF.out⟩, below_drewN HB1.out _⟩
            have hg0 : decide (id < 0) = false := by simpa using hi0
            by_cases hi1 : (tn : Int) ≤ id
            · have hg : decide ((tn : Int) ≤ id) = true := by simpa using hi1
              have HF := Lib.hid (notMaySp_ok (T := T) hkS (fun h => by rw [HSK.out] at h; have := h.2.2.1; have := hlen.out; simp only at *; omega))
              go_wp2_with (fail)
              rw [HW1.out]
              go_quiet ((go_at_call 160; exact Calls.quiet_of_same (mayName_yes HNS.out HNM.out _)))
              go_wp2_with (fail)
              go_ret
              exact ⟨⟨_, rfl, HF.out⟩, below_drewN HB1.out _⟩
            have hg1 : decide ((tn : Int) ≤ id) = false := by simpa using hi1
            obtain ⟨q, rfl⟩ := Int.eq_ofNat_of_zero_le (Int.not_lt.1 hi0)
            have hqT : q < T.length := by have := hlen.out; omega
            obtain ⟨bt, ot, hao, hct⟩ := SlS.cell HT1.out (tk_eq hqT)
            subst hao
            have gq : (q : Int) < (tn : Int) := by omega
            have gq2 : decide ((tn : Int) ≤ (q : Int)) = false := by simp; omega
            have gq3 : decide ((q : Int) < 0) = false := by simp
            have gq4 : decide (tn ≤ q) = false := by simp; omega
            clear hg0 hg1
            by_cases hz : (tk T q).size = 0
            · obtain ⟨e1, e2, e3⟩ := strE_yes hz
              have e4 : ((tk T q).toList != []) = false := by simp [e1]
              have HZ := Lib.hid hz
              have hwq : (Lit.int .i64 (q : Int)).wf = true := by rw [i64_wf]; omega
              have HWQ := Lib.hid hwq
              clear hz hwq
              have HOK : Hid (OkSp T (sp S k)) := Lib.hid (by rw [HSK.out]; exact ⟨HNM.out, by simp only; omega, by simp only; omega, HZ.out⟩)
              cases hf : f (q : Int) with
              | some c =>
                obtain ⟨hcc, i, hi, hnp⟩ := HS.out.yes (c := c) (by rw [HSK.out]; exact hf)
                subst hcc
                have HF := Lib.hid (notMaySp_id (T := T) hi hkS hnp)
                have hlk : ∀ m, (Instr.lookup 212 (.map (some w.heap.size)) (.int .i64 (q : Int)) false).run Tryz.prog (w1.drewN m) = .ok (.int .i64 1) (w1.drewN m) := fun m => by
                  have := MapK.get (V := VI) (s := (q : Int)) Tryz.underlying212 Tryz.underlying3 zeroInt (HM1.out.drewN m) HWQ.out
                  rw [hf] at this; exact this
                clear hnp hf
                go_wp2_with (fail)
                rw [HW1.out]
                go_quiet ((go_at_call 160; exact Calls.quiet_of_same (mayName_yes HNS.out HNM.out _)))
                go_wp2_with (fail)
                go_ret
                exact ⟨⟨_, rfl, HF.out⟩, below_drewN HB1.out _⟩
              | none =>
                have HNO := Lib.hid (HS.out.no (by rw [HSK.out]; exact hf))
                have hlk : ∀ m, (Instr.lookup 212 (.map (some w.heap.size)) (.int .i64 (q : Int)) false).run Tryz.prog (w1.drewN m) = .ok (.int .i64 0) (w1.drewN m) := fun m => by
                  have := MapK.get (V := VI) (s := (q : Int)) Tryz.underlying212 Tryz.underlying3 zeroInt (HM1.out.drewN m) HWQ.out
                  rw [hf] at this; exact this
                have HSn : Hid (SeenS S (k + 1) (fun t => if t = (q : Int) then some 1 else f t)) := Lib.hid (by have := HS.out.next; rw [HSK.out] at this; exact this)
                have HGn : Hid (GoodS T S (k + 1)) := Lib.hid (HG.out.next HOK.out (fun _ => by rw [HPEQ.out, HSK.out]; exact hbl) HNO.out)
                clear hf
                go_wp2_with (fail)
                rw [HW1.out]
                go_quiet ((go_at_call 160; exact Calls.quiet_of_same (mayName_yes HNS.out HNM.out _)))
                go_wp2_with (with_reducible show wpList _ _ _ (⟨_, .mapUpdate _ _ _ _, _, _, _, _⟩ :: _) _ _; refine wpList_mi_put rfl _ _ _ rfl rfl (HM1.out.drewN _) rfl HWQ.out rfl (by decide) (by unfold maxLen; omega) ?_)
                intro w2 sz2 hsz2 hm2 hg2'
                have HM2 := Lib.hid hm2
                have HB2 := Lib.hid ((below_drewN HB1.out _).grown hg2' HB1.out.size fun q hq => by simp at hq; omega)
                clear hm2 hg2'
                go_wp2_with (fail)
                go_roundw
                case rel => exact ⟨k + 1, sz2, _, by omega, by go_num, by omega, HM2.out, HSn, HGn, HB2.out⟩
                case measure => simp [intOf]; omega
            · obtain ⟨e1, e2, e3⟩ := strE_no hz
              have e4 : ((tk T q).toList != []) = true := by simp [e1]
              have HF := Lib.hid (notMaySp_ok (T := T) hkS (fun h => by rw [HSK.out] at h; exact hz h.2.2.2))
              clear hz
              go_wp2_with (fail)
              rw [HW1.out]
              go_quiet ((go_at_call 160; exact Calls.quiet_of_same (mayName_yes HNS.out HNM.out _)))
              go_wp2_with (fail)
              go_ret
              exact ⟨⟨_, rfl, HF.out⟩, below_drewN HB1.out _⟩
      · have HNM := Lib.hid hnm
        have HF := Lib.hid (notMaySp_ok (T := T) hkS (fun h => by rw [HSK.out] at h; exact hnm h.1))
        clear hnm
        go_wp2_with (fail)
        rw [HW1.out]
        go_quiet ((go_at_call 160; exact Calls.quiet_of_same (mayName_no HNS.out HNM.out _)))
        go_wp2_with (fail)
        go_ret
        exact ⟨⟨_, rfl, HF.out⟩, below_drewN HB1.out _⟩
    · by_cases h16 : (sn : Int) ≤ 16
      · have h16' : sn ≤ 16 := by omega
        have HF := Lib.hid (HG.out.all hlenS.out hk hlt (by omega))
        go_wp2_with (fail)
        go_ret
        exact ⟨⟨_, rfl, (fun _ => HF.out), (fun _ => by simp <;> omega)⟩, HB.out⟩
      · have h16' : ¬ sn ≤ 16 := by omega
        have HF := Lib.hid (notMaySp_long (T := T) (S := S) (by have := hlenS.out; omega))
        go_wp2_with (fail)
        go_ret
        exact ⟨⟨_, rfl, by simpa [h16'] using HF.out⟩, HB.out⟩

end Go.Proofs.YtnadelmbkaoeeaaGreatDoor

/- Walk: may specials be, by the document? (Printed by gSpR.py.) -/
namespace Go.Proofs.YtnadelmbkaoeeaaGreatDoor
open Go.RowKit
set_option linter.unusedVariables false

theorem rmayName_yes {s : ByteArray} (hs : s.size ≤ maxLen) (h : MayName s) (w : World) : Calls Tryz.prog 67 #[.string s] w fun e w' => e = .returned (.bool true) ∧ w = w' :=
  (rmayName_calls s hs w).mono fun e w' ⟨⟨b, h1, h2⟩, h3⟩ => ⟨by rw [h1, h2.2 h], h3⟩
theorem rmayName_no {s : ByteArray} (hs : s.size ≤ maxLen) (h : ¬ MayName s) (w : World) : Calls Tryz.prog 67 #[.string s] w fun e w' => e = .returned (.bool false) ∧ w = w' :=
  (rmayName_calls s hs w).mono fun e w' ⟨⟨b, h1, h2⟩, h3⟩ => ⟨by cases b with | false => exact h1 | true => exact absurd (h2.1 rfl) h, h3⟩

structure GoodSR (T : List ByteArray) (S : List Sp) (k : Nat) : Prop where
  ok : ∀ j, j < k → OkSp T (sp S j)
  pair : ∀ i j, i < j → j < k → sless (sp S i).name (sp S j).name = true ∧ (sp S i).id ≠ (sp S j).id
theorem GoodSR.zero (T : List ByteArray) (S : List Sp) : GoodSR T S 0 := ⟨fun j h => by omega, fun i j _ h => by omega⟩
def SpTo (S : List Sp) (k q : Nat) : Prop := ∀ i, i < q → sless (sp S i).name (sp S k).name = true ∧ (sp S i).id ≠ (sp S k).id
theorem SpTo.zero (S : List Sp) (k : Nat) : SpTo S k 0 := fun i h => by omega
theorem SpTo.next {S : List Sp} {k q : Nat} (h : SpTo S k q) (h1 : sless (sp S q).name (sp S k).name = true) (h2 : (sp S q).id ≠ (sp S k).id) : SpTo S k (q + 1) := fun i hi => by
  by_cases e : i = q
  · subst e; exact ⟨h1, h2⟩
  · exact h i (by omega)
theorem GoodSR.next {T : List ByteArray} {S : List Sp} {k q : Nat} (h : GoodSR T S k) (h1 : OkSp T (sp S k)) (h2 : SpTo S k q) (hq : q ≤ k) (hq2 : ¬ q < k) : GoodSR T S (k + 1) := by
  obtain rfl : q = k := by omega
  refine ⟨fun j hj => ?_, fun i j hi hj => ?_⟩
  · by_cases e : j = q
    · subst e; exact h1
    · exact h.ok j (by omega)
  · by_cases e : j = q
    · subst e; exact h2 i hi
    · exact h.pair i j hi (by omega)
theorem GoodSR.all {T : List ByteArray} {S : List Sp} {k n : Nat} (h : GoodSR T S k) (hl : S.length = n) (hk : k ≤ n) (hk2 : ¬ k < n) (hn : n ≤ 16) : MaySp T S := by
  obtain rfl : k = n := by omega
  refine ⟨by omega, fun m hm => ?_, ?_⟩
  · obtain ⟨i, hi, rfl⟩ := List.getElem_of_mem hm
    rw [sp_get hi]; exact h.ok i (by omega)
  · rw [List.pairwise_iff_getElem]
    intro i j hi hj hij
    rw [sp_get hi, sp_get hj]
    exact h.pair i j hij (by omega)

set_option maxHeartbeats 4000000 in
set_option maxRecDepth 100000 in
theorem rmaySpecials_calls {V : Vc} {dd : Vd} (w : World) (hV : VocR w dd V) (hsz : Sized V.specials) :
    Calls Tryz.prog 66 #[dd.val] w (MaySpPost V.tokens V.specials w) := by
  obtain ⟨T, M, S⟩ := V
  obtain ⟨ta, tn, tc, ma, mn, mc, sa, sn, sc⟩ := dd
  obtain ⟨hT, hM, hS⟩ := hV
  simp only at hT hM hS hsz ⊢
  have hm := Nat.le_trans (Sl.le hT) (Sl.max hT)
  have hmm := Nat.le_trans hS.le hS.max
  unfold maxLen at hm hmm
  have hlen := Lib.hid hT.count
  have hlenS := Lib.hid (hS.count Sp.enc_len (by omega))
  obtain ⟨w0, hw0⟩ : ∃ w0, w.alloc (.cells #[.slice ta tn tc, .slice ma mn mc, .slice sa sn sc] 26) = w0 := ⟨_, rfl⟩
  have hb0 : Below w.heap.size w w0 := hw0 ▸ below_alloc w _
  have hx0 : w0.heap[w.heap.size]? = some (.cells #[.slice ta tn tc, .slice ma mn mc, .slice sa sn sc] 26) := by rw [← hw0]; exact heap_alloc_new w _
  have hs0 : w.heap.size < w0.heap.size := by rw [← hw0]; simp
  obtain ⟨c0, c1, c2⟩ := box3v hx0
  have HT := Lib.hid (Sl.below hT hb0)
  have HSS := Lib.hid (hS.below hb0)
  have HX0 := Lib.hid hx0
  have HB0 := Lib.hid hb0
  have HSZ := Lib.hid hsz
  have HW0 := Lib.hid hw0
  clear hT hM hS hsz hb0 hx0 hw0
  by_cases hl : (16 : Int) < sn
  · have HF := Lib.hid (notMaySp_long (T := T) (S := S) (by have := hlenS.out; omega))
    go_enter Tryz.func66, Tryz.ntmps66
    go_wp2_with (fail)
    go_ret
    exact ⟨⟨_, rfl, HF.out⟩, by rw [HW0.out]; exact HB0.out⟩
  · go_enter Tryz.func66, Tryz.ntmps66
    go_wp2_with (fail)
    rw [HW0.out]
    go_loopw [3, 4, 5, 13] (fun _ _ _ i wr => ∃ (k : Nat), k ≤ sn ∧ i = .int .i64 k ∧ Hid (GoodSR T S k) ∧ Below w0.heap.size w0 wr) (fun _ _ _ i _ => sn - (intOf i).toNat)
    case atStart => exact ⟨0, Nat.zero_le _, rfl, Lib.hid (GoodSR.zero T S), Below.refl _ _⟩
    case round =>
      obtain ⟨k, hk, rfl, HG, hb⟩ := hrel
      have HB := Lib.hid hb
      clear c0 c1 c2
      obtain ⟨c0, c1, c2⟩ := box3v ((hb.block w.heap.size hs0).trans HX0.out)
      have hlt0 : w.heap.size < wr.heap.size := Nat.lt_of_lt_of_le hs0 hb.size
      clear hb
      by_cases hlt : k < sn
      · have hkS : k < S.length := by have := hlenS.out; omega
        obtain ⟨b, of, rfl, hce⟩ := (HSS.out.below HB.out).elem Sp.enc_len (by omega) (sp_eq hkS)
        have HNS0 := Lib.hid (HSZ.out _ (List.mem_of_getElem? (sp_eq hkS)))
        obtain ⟨⟨nm, id⟩, hseq⟩ : ∃ m, sp S k = m := ⟨_, rfl⟩
        have HNS : Hid (nm.size ≤ maxLen) := Lib.hid (by have := HNS0.out; rw [hseq] at this; exact this)
        rw [hseq] at hce
        have d0 := hce 0 _ rfl
        have d1 := hce 1 _ rfl
        rw [Nat.add_zero] at d0
        simp only at d0 d1
        have HSK := Lib.hid hseq
        obtain ⟨w1, hw1⟩ : ∃ w1, wr.alloc (.cells #[.string nm, .int .i64 id] 82) = w1 := ⟨_, rfl⟩
        have hwb : Below wr.heap.size wr w1 := hw1 ▸ below_alloc wr _
        have hwb' := below_alloc wr (.cells #[.string nm, .int .i64 id] 82)
        have HB1 := Lib.hid (HB.out.trans (hwb.mono HB.out.size))
        have HT1 := Lib.hid (Sl.below HT.out HB1.out)
        have hbx : w1.heap[wr.heap.size]? = some (.cells #[.string nm, .int .i64 id] 82) := by rw [← hw1]; exact heap_alloc_new wr _
        obtain ⟨b0, b1⟩ := box2' hbx
        have f0 := cell_below hwb _ _ c0
        have f2 := cell_below hwb _ _ c2
        have HW1 := Lib.hid hw1
        rw [hw1] at hwb'
        clear hce hseq hbx hw1 hwb'
        by_cases hnm : MayName nm
        · have HNM := Lib.hid hnm
          clear hnm
          by_cases hi0 : id < 0
          · have hg : decide (id < 0) = true := by simpa using hi0
            have HF := Lib.hid (notMaySp_ok (T := T) hkS (fun h => by rw [HSK.out] at h; have := h.2.1; simp only at this; omega))
            go_wp2_with (fail)
            refine (rmayName_yes HNS.out HNM.out _).mono ?_
            rintro e w' ⟨rfl, rfl⟩
            rw [HW1.out]
            go_wp2_with (fail)
            go_ret
            exact ⟨⟨_, rfl, HF.out⟩, HB0.out.trans (HB1.out.mono HB0.out.size)⟩
          have hg0 : decide (id < 0) = false := by simpa using hi0
          by_cases hi1 : (tn : Int) ≤ id
          · have hg : decide ((tn : Int) ≤ id) = true := by simpa using hi1
            have HF := Lib.hid (notMaySp_ok (T := T) hkS (fun h => by rw [HSK.out] at h; have := h.2.2.1; have := hlen.out; simp only at *; omega))
            go_wp2_with (fail)
            refine (rmayName_yes HNS.out HNM.out _).mono ?_
            rintro e w' ⟨rfl, rfl⟩
            rw [HW1.out]
            go_wp2_with (fail)
            go_ret
            exact ⟨⟨_, rfl, HF.out⟩, HB0.out.trans (HB1.out.mono HB0.out.size)⟩
          have hg1 : decide ((tn : Int) ≤ id) = false := by simpa using hi1
          obtain ⟨q, rfl⟩ := Int.eq_ofNat_of_zero_le (Int.not_lt.1 hi0)
          have hqT : q < T.length := by have := hlen.out; omega
          obtain ⟨bt, ot, hao, hct⟩ := SlS.cell HT1.out (tk_eq hqT)
          subst hao
          have gq : (q : Int) < (tn : Int) := by omega
          have gq2 : decide ((tn : Int) ≤ (q : Int)) = false := by simp; omega
          have gq3 : decide ((q : Int) < 0) = false := by simp
          have gq4 : decide (tn ≤ q) = false := by simp; omega
          clear hg0 hg1
          by_cases hz : (tk T q).size = 0
          · obtain ⟨e1, e2, e3⟩ := strE_yes hz
            have e4 : ((tk T q).toList != []) = false := by simp [e1]
            have HZ := Lib.hid hz
            clear hz
            have HOK : Hid (OkSp T (sp S k)) := Lib.hid (by rw [HSK.out]; exact ⟨HNM.out, by simp only; omega, by simp only; omega, HZ.out⟩)
            go_wp2_with (fail)
            refine (rmayName_yes HNS.out HNM.out _).mono ?_
            rintro e w' ⟨rfl, rfl⟩
            rw [HW1.out]
            go_wp2_with (fail)
            obtain ⟨wo, rfl⟩ : ∃ wo : World, wo = wr := ⟨_, rfl⟩
            clear e1 e2 e3 e4 hct
            go_loopw [5] (fun i wq => ∃ (p j : Nat), p ≤ k ∧ i = .int .i64 p ∧ Hid (SpTo S k p) ∧ wq = w1.drewN j) (fun i _ => k - (intOf i).toNat)
            case atStart => exact ⟨0, 0, Nat.zero_le _, rfl, Lib.hid (SpTo.zero S k), rfl⟩
            case round =>
              obtain ⟨p, j, hp, rfl, HP, rfl⟩ := hrel
              by_cases hlp : p < k
              · obtain ⟨⟨pn, pid⟩, hpeq⟩ : ∃ m, sp S p = m := ⟨_, rfl⟩
                obtain ⟨bp, op, hao, hcp⟩ := (HSS.out.below HB1.out).elem Sp.enc_len (by omega) (sp_eq (S := S) (i := p) (by omega))
                simp at hao
                obtain ⟨rfl, rfl⟩ := hao
                rw [hpeq] at hcp
                have p0 := hcp 0 _ rfl
                have p1 := hcp 1 _ rfl
                rw [Nat.add_zero] at p0
                simp only at p0 p1
                have HPEQ := Lib.hid hpeq
                have gp : (p : Int) < (sn : Int) := by omega
                clear hcp hpeq
                cases hbl : Op.bytesLess pn.toList nm.toList with
                | false =>
                  have HF := Lib.hid (notMaySp_rise (T := T) hlp hkS (by rw [HPEQ.out, HSK.out]; exact hbl))
                  go_wp2_with (fail)
                  go_quiet (fail)
                  go_wp2_with (fail)
                  go_ret
                  exact ⟨⟨_, rfl, HF.out⟩, HB0.out.trans ((below_drewN (below_drewN HB1.out _) _).mono HB0.out.size)⟩
                | true =>
                  by_cases hid : pid = (q : Int)
                  · have q1 : (pid == (q : Int)) = true := by simpa using hid
                    have HF := Lib.hid (notMaySp_id (T := T) hlp hkS (by rw [HPEQ.out, HSK.out]; exact hid))
                    clear hid
                    go_wp2_with (fail)
                    go_quiet (fail)
                    go_wp2_with (fail)
                    go_ret
                    exact ⟨⟨_, rfl, HF.out⟩, HB0.out.trans ((below_drewN (below_drewN HB1.out _) _).mono HB0.out.size)⟩
                  · have q1 : (pid == (q : Int)) = false := by simpa using hid
                    have HPn := Lib.hid (HP.out.next (by rw [HPEQ.out, HSK.out]; exact hbl) (by rw [HPEQ.out, HSK.out]; exact hid))
                    clear hid
                    go_wp2_with (fail)
                    go_quiet (fail)
                    go_wp2_with (fail)
                    go_roundw
                    case rel => exact ⟨p + 1, _, by omega, by go_num, HPn, rfl⟩
                    case measure => simp [intOf]; omega
              · have HGn := Lib.hid (HG.out.next HOK.out HP.out hp hlp)
                have HBn := Lib.hid (below_drewN HB1.out j)
                go_wp2_with (fail)
                go_roundw
                case rel => exact ⟨k + 1, by omega, by go_num, HGn, HBn.out⟩
                case measure => simp [intOf]; omega
          · obtain ⟨e1, e2, e3⟩ := strE_no hz
            have e4 : ((tk T q).toList != []) = true := by simp [e1]
            have HF := Lib.hid (notMaySp_ok (T := T) hkS (fun h => by rw [HSK.out] at h; exact hz h.2.2.2))
            clear hz
            go_wp2_with (fail)
            refine (rmayName_yes HNS.out HNM.out _).mono ?_
            rintro e w' ⟨rfl, rfl⟩
            rw [HW1.out]
            go_wp2_with (fail)
            go_ret
            exact ⟨⟨_, rfl, HF.out⟩, HB0.out.trans (HB1.out.mono HB0.out.size)⟩
        · have HNM := Lib.hid hnm
          have HF := Lib.hid (notMaySp_ok (T := T) hkS (fun h => by rw [HSK.out] at h; exact hnm h.1))
          clear hnm
          go_wp2_with (fail)
          refine (rmayName_no HNS.out HNM.out _).mono ?_
          rintro e w' ⟨rfl, rfl⟩
          rw [HW1.out]
          go_wp2_with (fail)
          go_ret
          exact ⟨⟨_, rfl, HF.out⟩, HB0.out.trans (HB1.out.mono HB0.out.size)⟩
      · have HF := Lib.hid (HG.out.all hlenS.out hk hlt (by omega))
        go_wp2_with (fail)
        go_ret
        exact ⟨⟨_, rfl, (fun _ => HF.out), (fun _ => rfl)⟩, HB0.out.trans (HB.out.mono HB0.out.size)⟩

end Go.Proofs.YtnadelmbkaoeeaaGreatDoor

/- Walks: may a vocabulary be? (Printed by gMay.py.) -/
namespace Go.Proofs.YtnadelmbkaoeeaaGreatDoor
open Go.RowKit
set_option linter.unusedVariables false

def VOk (V : Vc) : Prop := (∀ s ∈ V.tokens, s.size ≤ maxLen) ∧ Sized V.specials ∧ V.specials.length ≤ 1048576
def MayPost (V : Vc) (w : World) (e : Ending) (w' : World) : Prop := (∃ b, e = .returned (.bool b) ∧ (b = true ↔ May V)) ∧ Below w.heap.size w w'
theorem notMay1 {V : Vc} (h : ¬ MayTok V.tokens) : (false = true ↔ May V) := ⟨(fun h => by cases h), fun h2 => absurd h2.1 h⟩
theorem notMay2 {V : Vc} (h : ¬ MayMg V.tokens V.merges) : (false = true ↔ May V) := ⟨(fun h => by cases h), fun h2 => absurd h2.2.1 h⟩
theorem notMay3 {V : Vc} (h : ¬ MayMade V.tokens V.merges) : (false = true ↔ May V) := ⟨(fun h => by cases h), fun h2 => absurd h2.2.2.1 h⟩
theorem may4 {V : Vc} {b : Bool} (h1 : MayTok V.tokens) (h2 : MayMg V.tokens V.merges) (h3 : MayMade V.tokens V.merges) (h : b = true ↔ MaySp V.tokens V.specials) : (b = true ↔ May V) := by
  rw [h]; exact ⟨fun h4 => ⟨h1, h2, h3, h4⟩, fun h4 => h4.2.2.2⟩
theorem no_of {b : Bool} {P : Prop} (h : b = true ↔ P) (hb : b = false) : ¬ P := fun hp => by rw [h.2 hp] at hb; cases hb

set_option maxHeartbeats 2000000 in
theorem may_calls {V : Vc} {dd : Vd} (w : World) (hV : VocR w dd V) (hok : VOk V) :
    Calls Tryz.prog 92 #[dd.val] w (MayPost V w) := by
  have hspn := hV.spc.count Sp.enc_len (by omega)
  obtain ⟨ta, tn, tc, ma, mn, mc, sa, sn, sc⟩ := dd
  simp only at hspn ⊢
  obtain ⟨w0, hw0⟩ : ∃ w0, w.alloc (.cells #[.slice ta tn tc, .slice ma mn mc, .slice sa sn sc] 26) = w0 := ⟨_, rfl⟩
  have hb0 : Below w.heap.size w w0 := hw0 ▸ below_alloc w _
  have hx0 : w0.heap[w.heap.size]? = some (.cells #[.slice ta tn tc, .slice ma mn mc, .slice sa sn sc] 26) := by rw [← hw0]; exact heap_alloc_new w _
  have hs0 : w.heap.size < w0.heap.size := by rw [← hw0]; simp
  obtain ⟨c0, c1, c2⟩ := box3v hx0
  have HV := Lib.hid (hV.below hb0)
  have HX0 := Lib.hid hx0
  have HB0 := Lib.hid hb0
  have HOK := Lib.hid hok
  have HW0 := Lib.hid hw0
  have HSN := Lib.hid hspn
  clear hV hok hb0 hx0 hw0 hspn
  go_enter Tryz.func92, Tryz.ntmps92
  go_wp2_with (fail)
  rw [HW0.out]
  refine (mayTokens_calls w0 HV.out.tok HOK.out.1).mono ?_
  rintro e w1 ⟨⟨b1, rfl, hi1⟩, hb1⟩
  have HB1 := Lib.hid hb1
  have HI1 := Lib.hid hi1
  clear c0 c1 c2
  obtain ⟨c0, c1, c2⟩ := box3v ((hb1.block w.heap.size hs0).trans HX0.out)
  clear hb1 hi1
  cases b1 with
  | false =>
    have HF := Lib.hid (notMay1 (no_of HI1.out rfl))
    go_wp2_with (fail)
    go_ret
    exact ⟨⟨_, rfl, HF.out⟩, HB0.out.trans (HB1.out.mono HB0.out.size)⟩
  | true =>
    have HT := Lib.hid (HI1.out.1 rfl)
    go_wp2_with (fail)
    refine (mayMerges_calls w1 (HV.out.below HB1.out).tok (HV.out.below HB1.out).mrg HT.out).mono ?_
    rintro e w2 ⟨⟨b2, rfl, hi2⟩, hb2⟩
    have HB2 := Lib.hid (HB1.out.trans (hb2.mono HB1.out.size))
    have HI2 := Lib.hid hi2
    clear c0 c1 c2
    obtain ⟨c0, c1, c2⟩ := box3v ((HB2.out.block w.heap.size hs0).trans HX0.out)
    clear hb2 hi2
    cases b2 with
    | false =>
      have HF := Lib.hid (notMay2 (no_of HI2.out rfl))
      go_wp2_with (fail)
      go_ret
      exact ⟨⟨_, rfl, HF.out⟩, HB0.out.trans (HB2.out.mono HB0.out.size)⟩
    | true =>
      have HM := Lib.hid (HI2.out.1 rfl)
      go_wp2_with (fail)
      refine (mayMade_calls (V := V) (dd := ⟨ta, tn, tc, ma, mn, mc, sa, sn, sc⟩) w2 (HV.out.below HB2.out) HT.out HM.out).mono ?_
      rintro e w3 ⟨⟨b3, rfl, hi3⟩, hb3⟩
      have HB3 := Lib.hid (HB2.out.trans (hb3.mono HB2.out.size))
      have HI3 := Lib.hid hi3
      clear c0 c1 c2
      obtain ⟨c0, c1, c2⟩ := box3v ((HB3.out.block w.heap.size hs0).trans HX0.out)
      clear hb3 hi3
      cases b3 with
      | false =>
        have HF := Lib.hid (notMay3 (no_of HI3.out rfl))
        go_wp2_with (fail)
        go_ret
        exact ⟨⟨_, rfl, HF.out⟩, HB0.out.trans (HB3.out.mono HB0.out.size)⟩
      | true =>
        have HD := Lib.hid (HI3.out.1 rfl)
        go_wp2_with (fail)
        refine (maySpecials_calls w3 (HV.out.below HB3.out).tok (HV.out.below HB3.out).spc HOK.out.2.1 (by have h1 := HOK.out.2.2; have h2 : V.specials.length = sn := HSN.out; show sn ≤ 1048576; omega)).mono ?_
        rintro e w4 ⟨⟨b4, rfl, hi4⟩, hb4⟩
        have HB4 := Lib.hid (HB3.out.trans (hb4.mono HB3.out.size))
        have HF := Lib.hid (may4 HT.out HM.out HD.out hi4)
        clear hb4 hi4
        go_wp2_with (fail)
        go_ret
        exact ⟨⟨_, rfl, HF.out⟩, HB0.out.trans (HB4.out.mono HB0.out.size)⟩

set_option maxHeartbeats 2000000 in
theorem rmay_calls {V : Vc} {dd : Vd} (w : World) (hV : VocR w dd V) (hok : VOk V) :
    Calls Tryz.prog 39 #[dd.val] w (MayPost V w) := by
  have hspn := hV.spc.count Sp.enc_len (by omega)
  obtain ⟨ta, tn, tc, ma, mn, mc, sa, sn, sc⟩ := dd
  simp only at hspn ⊢
  obtain ⟨w0, hw0⟩ : ∃ w0, w.alloc (.cells #[.slice ta tn tc, .slice ma mn mc, .slice sa sn sc] 26) = w0 := ⟨_, rfl⟩
  have hb0 : Below w.heap.size w w0 := hw0 ▸ below_alloc w _
  have hx0 : w0.heap[w.heap.size]? = some (.cells #[.slice ta tn tc, .slice ma mn mc, .slice sa sn sc] 26) := by rw [← hw0]; exact heap_alloc_new w _
  have hs0 : w.heap.size < w0.heap.size := by rw [← hw0]; simp
  obtain ⟨c0, c1, c2⟩ := box3v hx0
  have HV := Lib.hid (hV.below hb0)
  have HX0 := Lib.hid hx0
  have HB0 := Lib.hid hb0
  have HOK := Lib.hid hok
  have HW0 := Lib.hid hw0
  have HSN := Lib.hid hspn
  clear hV hok hb0 hx0 hw0 hspn
  go_enter Tryz.func39, Tryz.ntmps39
  go_wp2_with (fail)
  rw [HW0.out]
  refine (rmayTokens_calls w0 HV.out.tok HOK.out.1).mono ?_
  rintro e w1 ⟨⟨b1, rfl, hi1⟩, hb1⟩
  have HB1 := Lib.hid hb1
  have HI1 := Lib.hid hi1
  clear c0 c1 c2
  obtain ⟨c0, c1, c2⟩ := box3v ((hb1.block w.heap.size hs0).trans HX0.out)
  clear hb1 hi1
  cases b1 with
  | false =>
    have HF := Lib.hid (notMay1 (no_of HI1.out rfl))
    go_wp2_with (fail)
    go_ret
    exact ⟨⟨_, rfl, HF.out⟩, HB0.out.trans (HB1.out.mono HB0.out.size)⟩
  | true =>
    have HT := Lib.hid (HI1.out.1 rfl)
    go_wp2_with (fail)
    refine (rmayMerges_calls (V := V) (dd := ⟨ta, tn, tc, ma, mn, mc, sa, sn, sc⟩) w1 (HV.out.below HB1.out) HT.out).mono ?_
    rintro e w2 ⟨⟨b2, rfl, hi2⟩, hb2⟩
    have HB2 := Lib.hid (HB1.out.trans (hb2.mono HB1.out.size))
    have HI2 := Lib.hid hi2
    clear c0 c1 c2
    obtain ⟨c0, c1, c2⟩ := box3v ((HB2.out.block w.heap.size hs0).trans HX0.out)
    clear hb2 hi2
    cases b2 with
    | false =>
      have HF := Lib.hid (notMay2 (no_of HI2.out rfl))
      go_wp2_with (fail)
      go_ret
      exact ⟨⟨_, rfl, HF.out⟩, HB0.out.trans (HB2.out.mono HB0.out.size)⟩
    | true =>
      have HM := Lib.hid (HI2.out.1 rfl)
      go_wp2_with (fail)
      refine (rmayMade_calls (V := V) (dd := ⟨ta, tn, tc, ma, mn, mc, sa, sn, sc⟩) w2 (HV.out.below HB2.out) HT.out).mono ?_
      rintro e w3 ⟨⟨b3, rfl, hi3⟩, hb3⟩
      have HB3 := Lib.hid (HB2.out.trans (hb3.mono HB2.out.size))
      have HI3 := Lib.hid hi3
      clear c0 c1 c2
      obtain ⟨c0, c1, c2⟩ := box3v ((HB3.out.block w.heap.size hs0).trans HX0.out)
      clear hb3 hi3
      cases b3 with
      | false =>
        have HF := Lib.hid (notMay3 (no_of HI3.out rfl))
        go_wp2_with (fail)
        go_ret
        exact ⟨⟨_, rfl, HF.out⟩, HB0.out.trans (HB3.out.mono HB0.out.size)⟩
      | true =>
        have HD := Lib.hid (HI3.out.1 rfl)
        go_wp2_with (fail)
        refine (rmaySpecials_calls (V := V) (dd := ⟨ta, tn, tc, ma, mn, mc, sa, sn, sc⟩) w3 (HV.out.below HB3.out) HOK.out.2.1).mono ?_
        rintro e w4 ⟨⟨b4, rfl, hi4⟩, hb4⟩
        have HB4 := Lib.hid (HB3.out.trans (hb4.mono HB3.out.size))
        have HF := Lib.hid (may4 HT.out HM.out HD.out hi4)
        clear hb4 hi4
        go_wp2_with (fail)
        go_ret
        exact ⟨⟨_, rfl, HF.out⟩, HB0.out.trans (HB4.out.mono HB0.out.size)⟩

end Go.Proofs.YtnadelmbkaoeeaaGreatDoor

/- Plain laws: the tokens of rows, one row after another; rows of strings that the call made. -/
namespace Go.Proofs.YtnadelmbkaoeeaaGreatDoor
open Go.RowKit
set_option linter.unusedVariables false

def Rw.enc (r : Rw) : List Value := [.string r.token, .int .i64 r.rank]
theorem Rw.enc_len (r : Rw) : r.enc.length = 2 := rfl
def rw' (R : List Rw) (i : Nat) : Rw := R.getD i ⟨ByteArray.empty, 0⟩
theorem rw_eq {R : List Rw} {i : Nat} (h : i < R.length) : R[i]? = some (rw' R i) := by simp [rw', List.getD, h]
theorem rw_get {R : List Rw} {i : Nat} (h : i < R.length) : R[i] = rw' R i := by simp [rw', List.getD, h]

/-- One more than the greatest number among the first k specials; and among the first k rows, too. -/
def topS (S : List Sp) (k : Nat) : Int := ((S.take k).map (·.id + 1)).foldl max 0
def topR (R : List Rw) (S : List Sp) (k : Nat) : Int := ((R.take k).map (·.rank + 1)).foldl max (topS S S.length)
theorem topS_zero (S : List Sp) : topS S 0 = 0 := rfl
theorem topS_succ {S : List Sp} {k : Nat} (h : k < S.length) : topS S (k + 1) = max (topS S k) ((sp S k).id + 1) := by
  unfold topS; rw [List.take_add_one, sp_eq h]; simp [List.foldl_append]
theorem topR_zero (R : List Rw) (S : List Sp) : topR R S 0 = topS S S.length := rfl
theorem topR_succ {R : List Rw} {S : List Sp} {k : Nat} (h : k < R.length) : topR R S (k + 1) = max (topR R S k) ((rw' R k).rank + 1) := by
  unfold topR; rw [List.take_add_one, rw_eq h]; simp [List.foldl_append]
theorem topR_all (R : List Rw) (S : List Sp) : topR R S R.length = top R S := by
  unfold topR topS top; rw [List.take_length, List.take_length]

def OkS (S : List Sp) (k : Nat) : Prop := ∀ j, j < k → 0 ≤ (sp S j).id ∧ (sp S j).id < 4096
def OkR (R : List Rw) (k : Nat) : Prop := ∀ j, j < k → 0 ≤ (rw' R j).rank ∧ (rw' R j).rank < 4096
def ApR (R : List Rw) (k : Nat) : Prop := ∀ i j, i < j → j < k → (rw' R i).rank ≠ (rw' R j).rank
theorem topS_bd {S : List Sp} {k : Nat} (h : OkS S k) (hk : k ≤ S.length) : 0 ≤ topS S k ∧ topS S k ≤ 4096 := by
  induction k with
  | zero => exact ⟨by rw [topS_zero]; omega, by rw [topS_zero]; omega⟩
  | succ k ih =>
    have := ih (fun j hj => h j (by omega)) (by omega)
    have h1 := h k (by omega)
    rw [topS_succ (by omega)]
    omega
theorem topR_bd {R : List Rw} {S : List Sp} {k : Nat} (hS : OkS S S.length) (h : OkR R k) (hk : k ≤ R.length) : 0 ≤ topR R S k ∧ topR R S k ≤ 4096 := by
  induction k with
  | zero => rw [topR_zero]; exact topS_bd hS (Nat.le_refl _)
  | succ k ih =>
    have := ih (fun j hj => h j (by omega)) (by omega)
    have h1 := h k (by omega)
    rw [topR_succ (by omega)]
    omega
theorem topR_lt {R : List Rw} {S : List Sp} {k j : Nat} (hk : k ≤ R.length) (hj : j < k) : (rw' R j).rank < topR R S k := by
  induction k with
  | zero => omega
  | succ k ih =>
    rw [topR_succ (by omega)]
    by_cases e : j = k
    · subst e; omega
    · have := ih (by omega) (by omega); omega

theorem OkRows.of {R : List Rw} {S : List Sp} (h1 : OkS S S.length) (h2 : OkR R R.length) (h3 : ApR R R.length) : OkRows R S := by
  refine ⟨fun s hs => ?_, fun r hr => ?_, ?_⟩
  · obtain ⟨j, hj, rfl⟩ := List.getElem_of_mem hs
    rw [sp_get hj]; exact h1 j hj
  · obtain ⟨j, hj, rfl⟩ := List.getElem_of_mem hr
    rw [rw_get hj]; exact h2 j hj
  · rw [List.pairwise_iff_getElem]
    intro i j hi hj hij
    rw [rw_get hi, rw_get hj]; exact h3 i j hij hj
theorem notOk_s {R : List Rw} {S : List Sp} {k : Nat} (hk : k < S.length) (h : ¬ (0 ≤ (sp S k).id ∧ (sp S k).id < 4096)) : ¬ OkRows R S := fun ho => h (by
  have := ho.1 _ (List.mem_of_getElem? (sp_eq hk)); exact this)
theorem notOk_r {R : List Rw} {S : List Sp} {k : Nat} (hk : k < R.length) (h : ¬ (0 ≤ (rw' R k).rank ∧ (rw' R k).rank < 4096)) : ¬ OkRows R S := fun ho => h (by
  have := ho.2.1 _ (List.mem_of_getElem? (rw_eq hk)); exact this)
theorem notOk_a {R : List Rw} {S : List Sp} {i k : Nat} (hi : i < k) (hk : k < R.length) (h : (rw' R i).rank = (rw' R k).rank) : ¬ OkRows R S := fun ho => by
  have := (List.pairwise_iff_getElem.1 ho.2.2) i k (by omega) hk hi
  rw [rw_get hk, rw_get (by omega)] at this
  exact this h

/-- The first k rows' tokens stand in L, and A tells where. -/
structure LaidR (R : List Rw) (k n : Nat) (L : List ByteArray) (A : List Int) : Prop where
  len : L.length = n
  alen : A.length = n
  tok : ∀ i, i < n → tk L i = tokAt (R.take k) i
  hit : ∀ i, i < n → (ix A i = 0 ∧ ∀ j, j < k → (rw' R j).rank ≠ (i : Int)) ∨ (ix A i = 1 ∧ ∃ j, j < k ∧ (rw' R j).rank = (i : Int))

theorem tokAt_none {R : List Rw} {i : Nat} (h : ∀ r ∈ R, r.rank ≠ (i : Int)) : tokAt R i = ByteArray.empty := by
  unfold tokAt
  have : R.find? (fun r => decide (r.rank = (i : Int))) = none := by
    rw [List.find?_eq_none]; intro r hr; simpa using h r hr
  rw [this]
theorem tokAt_snoc {R : List Rw} {i : Nat} (h : ∀ r ∈ R, r.rank ≠ (i : Int)) (r : Rw) : tokAt (R ++ [r]) i = if r.rank = (i : Int) then r.token else ByteArray.empty := by
  unfold tokAt
  have : R.find? (fun r => decide (r.rank = (i : Int))) = none := by
    rw [List.find?_eq_none]; intro r hr; simpa using h r hr
  rw [List.find?_append, this]
  by_cases e : r.rank = (i : Int)
  · simp [List.find?, e]
  · simp [List.find?, e]
theorem tokAt_snoc_other {R : List Rw} {i : Nat} {r : Rw} (h : r.rank ≠ (i : Int)) : tokAt (R ++ [r]) i = tokAt R i := by
  unfold tokAt
  rw [List.find?_append]
  cases R.find? (fun r => decide (r.rank = (i : Int))) with
  | some x => simp
  | none => simp [List.find?, h]

theorem mem_take_rw {R : List Rw} {k : Nat} {r : Rw} (h : r ∈ R.take k) : ∃ j, j < k ∧ j < R.length ∧ rw' R j = r := by
  obtain ⟨j, hj, rfl⟩ := List.getElem_of_mem h
  have h1 : j < k := by rw [List.length_take] at hj; omega
  have h2 : j < R.length := by rw [List.length_take] at hj; omega
  refine ⟨j, h1, h2, ?_⟩
  rw [List.getElem_take, rw_get h2]

theorem LaidR.zero (R : List Rw) (n : Nat) : LaidR R 0 n (List.replicate n ByteArray.empty) (List.replicate n 0) := by
  refine ⟨by simp, by simp, fun i hi => ?_, fun i hi => .inl ⟨by simp [ix, List.getD, hi], fun j hj => by omega⟩⟩
  have : tokAt (R.take 0) i = ByteArray.empty := tokAt_none (by simp)
  rw [this]
  simp [tk, List.getD, hi]

theorem LaidR.next {R : List Rw} {k n : Nat} {L : List ByteArray} {A : List Int} (h : LaidR R k n L A) (hk : k < R.length) {r : Nat} (hr : (rw' R k).rank = (r : Int)) (hrn : r < n) (h0 : ix A r = 0) :
    LaidR R (k + 1) n (L.set r (rw' R k).token) (A.set r 1) := by
  have hno : ∀ j, j < k → (rw' R j).rank ≠ (r : Int) := by
    rcases h.hit r hrn with ⟨_, h2⟩ | ⟨h1, _⟩
    · exact h2
    · omega
  have htk : R.take (k + 1) = R.take k ++ [rw' R k] := by rw [List.take_add_one, rw_eq hk]; rfl
  refine ⟨by rw [List.length_set]; exact h.len, by rw [List.length_set]; exact h.alen, fun i hi => ?_, fun i hi => ?_⟩
  · rw [htk]
    by_cases e : i = r
    · subst e
      rw [tokAt_snoc (fun x hx => by obtain ⟨j, hj, _, rfl⟩ := mem_take_rw hx; exact hno j hj), if_pos hr]
      simp [tk, List.getD, h.len, hi]
    · rw [tokAt_snoc_other (by rw [hr]; omega), ← h.tok i hi]
      simp [tk, List.getD, Ne.symm e]
  · by_cases e : i = r
    · subst e
      right
      exact ⟨by simp [ix, List.getD, h.alen, hi], k, by omega, hr⟩
    · have e1 : ix (A.set r 1) i = ix A i := by simp [ix, List.getD, Ne.symm e]
      rw [e1]
      rcases h.hit i hi with ⟨h1, h2⟩ | ⟨h1, j, hj, h2⟩
      · left
        refine ⟨h1, fun j hj => ?_⟩
        by_cases ej : j = k
        · subst ej; rw [hr]; omega
        · exact h2 j (by omega)
      · exact .inr ⟨h1, j, by omega, h2⟩

theorem LaidR.apart {R : List Rw} {k n : Nat} {L : List ByteArray} {A : List Int} (h : LaidR R k n L A) {r : Nat} (hr : (rw' R k).rank = (r : Int)) (hrn : r < n) (h0 : ix A r = 0) (ha : ApR R k) : ApR R (k + 1) := fun i j h1 h2 => by
  by_cases e : j = k
  · subst e
    rcases h.hit r hrn with ⟨_, h3⟩ | ⟨h3, _⟩
    · rw [hr]; exact h3 i h1
    · omega
  · exact ha i j h1 (by omega)

theorem LaidR.all {R : List Rw} {S : List Sp} {k n rn : Nat} {L : List ByteArray} {A : List Int} (h : LaidR R k n L A) (hl : R.length = rn) (hk : k ≤ rn) (hk2 : ¬ k < rn) (hn : (n : Int) = top R S) : L = toksOf R S := by
  obtain rfl : k = rn := by omega
  have hn2 : (top R S).toNat = n := by omega
  unfold toksOf
  rw [hn2]
  apply List.ext_getElem?
  intro i
  by_cases hi : i < n
  · rw [tk_eq (by rw [h.len]; exact hi), h.tok i hi, ← hl, List.take_length]
    simp [hi]
  · rw [List.getElem?_eq_none (by rw [h.len]; omega), List.getElem?_eq_none (by simp; omega)]

/-- A row that the call made stays where its block stays. -/
theorem own_stay {w w' : World} {base : Nat} {e : TypeId} {s n : Nat} {v : Value} {xs : List Value} (h : w.ownsRow base e s v n xs) (hb : ∀ g, v.ownBlock = some g → w'.heap[g]? = w.heap[g]?) : w'.ownsRow base e s v n xs := by
  obtain ⟨h1, h2⟩ := h
  refine ⟨h1, ?_⟩
  rcases h2 with h2 | ⟨g, cap, cur, hv, hg, hh, r⟩
  · exact .inl h2
  · exact .inr ⟨g, cap, cur, hv, hg, by rw [hb g (by rw [hv]; rfl)]; exact hh, r⟩

end Go.Proofs.YtnadelmbkaoeeaaGreatDoor

/- Plain laws: the merges of rows. -/
namespace Go.Proofs.YtnadelmbkaoeeaaGreatDoor
set_option linter.unusedVariables false

def cutAt (T : List ByteArray) (i k : Nat) : Option Mg :=
  if 0 ≤ ofT T ((tk T i).extract 0 (k + 1)) ∧ 0 ≤ ofT T ((tk T i).extract (k + 1) (tk T i).size) then some ⟨ofT T ((tk T i).extract 0 (k + 1)), ofT T ((tk T i).extract (k + 1) (tk T i).size), i, i⟩ else none
def cutsTo (T : List ByteArray) (i m : Nat) : List Mg := (List.range m).filterMap (cutAt T i)
def mergesTo (T : List ByteArray) (k : Nat) : List Mg := (List.range k).flatMap (cutsOf T)

theorem cutsOf_eq (T : List ByteArray) (i : Nat) : cutsOf T i = cutsTo T i ((tk T i).size - 1) := rfl
theorem cutsTo_zero (T : List ByteArray) (i : Nat) : cutsTo T i 0 = [] := rfl
theorem cutsTo_some {T : List ByteArray} {i k : Nat} {m : Mg} (h : cutAt T i k = some m) : cutsTo T i (k + 1) = cutsTo T i k ++ [m] := by
  unfold cutsTo; rw [List.range_succ, List.filterMap_append]; simp [h]
theorem cutsTo_none {T : List ByteArray} {i k : Nat} (h : cutAt T i k = none) : cutsTo T i (k + 1) = cutsTo T i k := by
  unfold cutsTo; rw [List.range_succ, List.filterMap_append]; simp [h]
theorem cutsTo_len (T : List ByteArray) (i m : Nat) : (cutsTo T i m).length ≤ m := by
  unfold cutsTo; exact Nat.le_trans (List.length_filterMap_le _ _) (by simp)
theorem mergesTo_zero (T : List ByteArray) : mergesTo T 0 = [] := rfl
theorem mergesTo_succ (T : List ByteArray) (k : Nat) : mergesTo T (k + 1) = mergesTo T k ++ cutsOf T k := by
  unfold mergesTo; rw [List.range_succ, List.flatMap_append]; simp
theorem mergesTo_all (T : List ByteArray) : mergesTo T T.length = mergesOf T := rfl
theorem mergesTo_len {T : List ByteArray} (h : ∀ s ∈ T, s.size ≤ 64) {k : Nat} (hk : k ≤ T.length) : (mergesTo T k).length ≤ k * 64 := by
  induction k with
  | zero => simp [mergesTo_zero]
  | succ k ih =>
    rw [mergesTo_succ, List.length_append, cutsOf_eq]
    have h1 := cutsTo_len T k ((tk T k).size - 1)
    have h2 := h (tk T k) (tk_mem (by omega))
    have h3 := ih (by omega)
    omega
theorem toks_sized {R : List Rw} {S : List Sp} {b : Nat} (h : ∀ r ∈ R, r.token.size ≤ b) : ∀ s ∈ toksOf R S, s.size ≤ b := by
  intro s hs
  unfold toksOf at hs
  obtain ⟨i, _, rfl⟩ := List.mem_map.1 hs
  unfold tokAt
  cases hf : R.find? (fun r => decide (r.rank = (i : Int))) with
  | none => exact Nat.zero_le _
  | some r => exact h r (List.mem_of_find?_eq_some hf)

/-- A vocabulary of rows. -/
def vocOf (R : List Rw) (S : List Sp) : Vc := ⟨toksOf R S, sortMg (mergesOf (toksOf R S)), sortSp S⟩

end Go.Proofs.YtnadelmbkaoeeaaGreatDoor

/- Plain laws: in which order rows and specials stand plays no part; what stands where; one more in a sorted row. -/
namespace Go.Proofs.YtnadelmbkaoeeaaGreatDoor
set_option linter.unusedVariables false

theorem foldl_max_perm {l l' : List Int} (h : l.Perm l') : ∀ a : Int, l.foldl max a = l'.foldl max a := by
  induction h with
  | nil => intro a; rfl
  | cons x _ ih => intro a; simp only [List.foldl_cons]; exact ih _
  | swap x y l => intro a; simp only [List.foldl_cons]; rw [show max (max a y) x = max (max a x) y by omega]
  | trans _ _ ih1 ih2 => intro a; rw [ih1, ih2]
theorem top_perm {R R' : List Rw} {S S' : List Sp} (hR : R.Perm R') (hS : S.Perm S') : top R S = top R' S' := by
  unfold top; rw [foldl_max_perm (hS.map _), foldl_max_perm (hR.map _)]
theorem ok_perm {R R' : List Rw} {S S' : List Sp} (hR : R.Perm R') (hS : S.Perm S') (h : OkRows R S) : OkRows R' S' :=
  ⟨fun s hs => h.1 s (hS.mem_iff.2 hs), fun r hr => h.2.1 r (hR.mem_iff.2 hr), (hR.pairwise_iff (fun e => Ne.symm e)).1 h.2.2⟩
theorem pairwise_uniq {α : Type} {R : α → α → Prop} {l : List α} (h : l.Pairwise R) {a b : α} (ha : a ∈ l) (hb : b ∈ l) (h1 : ¬ R a b) (h2 : ¬ R b a) : a = b := by
  rw [List.pairwise_iff_getElem] at h
  obtain ⟨i, hi, rfl⟩ := List.getElem_of_mem ha
  obtain ⟨j, hj, rfl⟩ := List.getElem_of_mem hb
  rcases Nat.lt_trichotomy i j with h3 | h3 | h3
  · exact absurd (h i j hi hj h3) h1
  · subst h3; rfl
  · exact absurd (h j i hj hi h3) h2
theorem find_uniq {α : Type} {l : List α} {p : α → Bool} {x : α} (hx : x ∈ l) (hp : p x = true) (hu : ∀ y, y ∈ l → p y = true → y = x) : l.find? p = some x := by
  cases h : l.find? p with
  | none => rw [List.find?_eq_none] at h; exact absurd hp (h x hx)
  | some y => rw [hu y (List.mem_of_find?_eq_some h) (List.find?_some h)]
theorem tokAt_mem {R : List Rw} (hp : R.Pairwise (fun a b => a.rank ≠ b.rank)) {r : Rw} (hr : r ∈ R) {i : Nat} (e : r.rank = (i : Int)) : tokAt R i = r.token := by
  unfold tokAt
  rw [find_uniq hr (p := fun r => decide (r.rank = (i : Int))) (by simpa using e) (fun y hy h => by
    have h : y.rank = (i : Int) := by simpa using h
    exact pairwise_uniq hp hy hr (fun g => g (by omega)) (fun g => g (by omega)))]
theorem tok_perm {R R' : List Rw} (hR : R.Perm R') (hp : R.Pairwise (fun a b => a.rank ≠ b.rank)) (i : Nat) : tokAt R i = tokAt R' i := by
  by_cases h : ∃ r, r ∈ R ∧ r.rank = (i : Int)
  · obtain ⟨r, hr, e⟩ := h
    rw [tokAt_mem hp hr e, tokAt_mem ((hR.pairwise_iff (fun e => Ne.symm e)).1 hp) (hR.mem_iff.1 hr) e]
  · rw [tokAt_none (fun r hr e => h ⟨r, hr, e⟩), tokAt_none (fun r hr e => h ⟨r, hR.mem_iff.2 hr, e⟩)]
theorem toks_perm {R R' : List Rw} {S S' : List Sp} (hR : R.Perm R') (hS : S.Perm S') (h : OkRows R S) : toksOf R' S' = toksOf R S := by
  unfold toksOf
  rw [top_perm hR hS]
  exact List.map_congr_left fun i _ => (tok_perm hR h.2.2 i).symm
theorem voc_perm {R R' : List Rw} {S S' : List Sp} (hR : R.Perm R') (hS : S.Perm S') (h : OkRows R S ∧ May (vocOf R S)) : (OkRows R' S' ∧ May (vocOf R' S')) ∧ vocOf R' S' = vocOf R S := by
  have e : vocOf R' S' = vocOf R S := by
    unfold vocOf
    rw [toks_perm hR hS h.1]
    have : sortSp S' = sortSp S := sorted_sp (T := toksOf R S) ((sortSp_perm S').trans hS.symm) (sortSp_sorted S') (.inr h.2.2.2.2)
    rw [this]
  exact ⟨⟨ok_perm hR hS h.1, by rw [e]; exact h.2⟩, e⟩

theorem toks_len (R : List Rw) (S : List Sp) : (toksOf R S).length = (top R S).toNat := by unfold toksOf; simp
theorem toks_tk {R : List Rw} {S : List Sp} {i : Nat} (h : i < (top R S).toNat) : tk (toksOf R S) i = tokAt R i := by
  unfold toksOf tk
  simp [List.getD, h]
theorem row_lt {R : List Rw} {S : List Sp} {r : Rw} (hr : r ∈ R) : r.rank < top R S := by
  obtain ⟨j, hj, rfl⟩ := List.getElem_of_mem hr
  rw [rw_get hj, ← topR_all]
  exact topR_lt (Nat.le_refl _) hj
/-- A row's token stands at its rank. -/
theorem row_at {R : List Rw} {S : List Sp} (hok : OkRows R S) {r : Rw} (hr : r ∈ R) : ∃ i : Nat, r.rank = (i : Int) ∧ i < (toksOf R S).length ∧ tk (toksOf R S) i = r.token := by
  have h1 := hok.2.1 r hr
  have h2 := row_lt (S := S) hr
  refine ⟨r.rank.toNat, by omega, by rw [toks_len]; omega, ?_⟩
  rw [toks_tk (by omega), tokAt_mem hok.2.2 hr (by omega)]

/-- The first special of a number, of a name. -/
def spBy (S : List Sp) (id : Int) : Option Sp := S.find? (fun s => decide (s.id = id))
def spNamed (S : List Sp) (n : ByteArray) : Option Sp := S.find? (fun s => decide (s.name = n))
def nmOf : Option Sp → ByteArray
  | some s => s.name
  | none => ByteArray.empty
def idOf : Option Sp → Int
  | some s => s.id
  | none => -1
theorem spBy_mem {T : List ByteArray} {S : List Sp} (h : MaySp T S) {s : Sp} (hs : s ∈ S) : spBy S s.id = some s :=
  find_uniq hs (by simp) fun y hy e => pairwise_uniq h.2.2 hy hs (fun g => g.2 (by simpa using e)) (fun g => g.2 (by simpa using (Eq.symm (of_decide_eq_true e))))
theorem spNamed_mem {T : List ByteArray} {S : List Sp} (h : MaySp T S) {s : Sp} (hs : s ∈ S) : spNamed S s.name = some s :=
  find_uniq hs (by simp) fun y hy e => pairwise_uniq h.2.2 hy hs (fun g => by
    have := g.1
    rw [of_decide_eq_true e, sless_irrefl] at this
    cases this) (fun g => by
    have := g.1
    rw [of_decide_eq_true e, sless_irrefl] at this
    cases this)

/-- One more in a sorted row. -/
theorem ins_sorted {α : Type} {lt : α → α → Bool} (hn : ∀ a b c, lt a b = false → lt b c = false → lt a c = false) {l : List α} (hs : l.Pairwise (fun a b => lt b a = false)) {s : α} {at_ : Nat}
    (h1 : ∀ j x, j < at_ → l[j]? = some x → lt s x = false) (h2 : ∀ x, l[at_]? = some x → lt x s = false) : (l.take at_ ++ s :: l.drop at_).Pairwise (fun a b => lt b a = false) := by
  have h3 : ∀ x ∈ l.drop at_, lt x s = false := by
    intro x hx
    obtain ⟨j, hj, rfl⟩ := List.getElem_of_mem hx
    rw [List.length_drop] at hj
    rw [List.getElem_drop]
    have hk : at_ < l.length := by omega
    have hy := h2 _ (List.getElem?_eq_getElem hk)
    rcases Nat.eq_zero_or_pos j with e | e
    · subst e; exact hy
    · exact hn _ _ _ ((List.pairwise_iff_getElem.1 hs) at_ (at_ + j) hk (by omega) (by omega)) hy
  rw [List.pairwise_append]
  refine ⟨hs.sublist (List.take_sublist _ _), ?_, ?_⟩
  · rw [List.pairwise_cons]
    exact ⟨h3, hs.sublist (List.drop_sublist _ _)⟩
  · intro a ha b hb
    obtain ⟨j, hj, rfl⟩ := List.getElem_of_mem ha
    rw [List.length_take] at hj
    rw [List.getElem_take]
    rcases List.mem_cons.1 hb with rfl | hb
    · exact h1 j _ (by omega) (List.getElem?_eq_getElem (by omega))
    · obtain ⟨i, hi, rfl⟩ := List.getElem_of_mem hb
      rw [List.length_drop] at hi
      rw [List.getElem_drop]
      exact (List.pairwise_iff_getElem.1 hs) j (at_ + i) (by omega) (by omega) (by omega)
theorem ins_perm {α : Type} (l : List α) (s : α) (k : Nat) : (l.take k ++ s :: l.drop k).Perm (l ++ [s]) := by
  have h1 : (l.take k ++ s :: l.drop k).Perm (s :: (l.take k ++ l.drop k)) := List.perm_middle
  rw [List.take_append_drop] at h1
  exact h1.trans (List.perm_append_comm (l₁ := [s]) (l₂ := l))

end Go.Proofs.YtnadelmbkaoeeaaGreatDoor

/- What the document says of coders of texts, in plain Lean: no program here. -/
namespace Go.Proofs.YtnadelmbkaoeeaaGreatDoor
open Go
set_option linter.unusedVariables false

structure Rg where
  lo : Int
  hi : Int
  cls : Int
instance : Inhabited Rg := ⟨⟨0, 0, 0⟩⟩
def Rg.enc (r : Rg) : List Value := [.int .i64 r.lo, .int .i64 r.hi, .int .i64 r.cls]
theorem Rg.enc_len (r : Rg) : r.enc.length = 3 := rfl
theorem Rg.enc_one (x : Rg) : ∀ v ∈ x.enc, v.oneCell' = true := by
  intro v hv
  simp [Rg.enc] at hv
  rcases hv with rfl | rfl | rfl <;> rfl
def rg (t : List Rg) (i : Nat) : Rg := t.getD i ⟨0, 0, 0⟩
theorem rg_eq {t : List Rg} {i : Nat} (h : i < t.length) : t[i]? = some (rg t i) := by simp [rg, List.getD, h]
theorem rg_get {t : List Rg} {i : Nat} (h : i < t.length) : t[i] = rg t i := by simp [rg, List.getD, h]

/-- May names be? -/
def MayNames (N : List ByteArray) : Prop := N.length ≤ 16 ∧ (∀ s ∈ N, MayName s) ∧ N.Pairwise (fun a b => sless a b = true)
structure NamesTo (N : List ByteArray) (k : Nat) : Prop where
  ok : ∀ j, j < k → MayName (tk N j)
  rise : ∀ j, j + 1 < k → sless (tk N j) (tk N (j + 1)) = true
theorem NamesTo.zero (N : List ByteArray) : NamesTo N 0 := ⟨fun j h => by omega, fun j h => by omega⟩
theorem NamesTo.next {N : List ByteArray} {k : Nat} (h : NamesTo N k) (h1 : MayName (tk N k)) (h2 : 0 < k → sless (tk N (k - 1)) (tk N k) = true) : NamesTo N (k + 1) := by
  refine ⟨fun j hj => ?_, fun j hj => ?_⟩
  · by_cases e : j = k
    · subst e; exact h1
    · exact h.ok j (by omega)
  · by_cases e : j + 1 = k
    · subst e; exact h2 (by omega)
    · exact h.rise j (by omega)
theorem NamesTo.all {N : List ByteArray} {k : Nat} (h : NamesTo N k) (hk : N.length = k) (h16 : N.length ≤ 16) : MayNames N := by
  refine ⟨h16, fun s hs => ?_, ?_⟩
  · obtain ⟨j, hj, rfl⟩ := mem_tk hs
    exact h.ok j (by omega)
  · refine pairwise_of_next (R := fun a b => sless a b = true) (fun a b c h1 h2 => sless_trans h1 h2) (fun i a b ha hb => ?_)
    have hi := (List.getElem?_eq_some_iff.1 hb).1
    rw [tk_eq (by omega)] at ha
    rw [tk_eq hi] at hb
    simp only [Option.some.injEq] at ha hb
    subst ha hb
    exact h.rise i (by omega)
theorem notNames_name {N : List ByteArray} {k : Nat} (hk : k < N.length) (h : ¬ MayName (tk N k)) : (false = true ↔ MayNames N) := ⟨(fun h => by cases h), fun h2 => absurd (h2.2.1 _ (tk_mem hk)) h⟩
theorem notNames_rise {N : List ByteArray} {k : Nat} (h0 : 0 < k) (hk : k < N.length) (h : sless (tk N (k - 1)) (tk N k) = false) : (false = true ↔ MayNames N) := ⟨(fun h => by cases h), fun h2 => by
  have h3 := (List.pairwise_iff_getElem.1 h2.2.2) (k - 1) k (by omega) hk (by omega)
  have e1 : N[k - 1]'(by omega) = tk N (k - 1) := by simp [tk, List.getD, show k - 1 < N.length by omega]
  have e2 : N[k] = tk N k := by simp [tk, List.getD, hk]
  rw [e1, e2, h] at h3
  cases h3⟩
theorem notNames_len {N : List ByteArray} (h : ¬ N.length ≤ 16) : (false = true ↔ MayNames N) := ⟨(fun h => by cases h), fun h2 => absurd h2.1 h⟩

/-- May a table of classes be? -/
def OkRg (r : Rg) : Prop := 0 ≤ r.lo ∧ r.lo ≤ r.hi ∧ r.hi ≤ 1114111 ∧ 1 ≤ r.cls ∧ r.cls ≤ 4
def MayTab (t : List Rg) : Prop := t.length ≤ 200 ∧ (∀ r ∈ t, OkRg r) ∧ t.Pairwise (fun a b => a.hi < b.lo)
structure TabTo (t : List Rg) (k : Nat) : Prop where
  ok : ∀ j, j < k → OkRg (rg t j)
  rise : ∀ j, j + 1 < k → (rg t j).hi < (rg t (j + 1)).lo
theorem TabTo.zero (t : List Rg) : TabTo t 0 := ⟨fun j h => by omega, fun j h => by omega⟩
theorem TabTo.next {t : List Rg} {k : Nat} (h : TabTo t k) (h1 : OkRg (rg t k)) (h2 : 0 < k → (rg t (k - 1)).hi < (rg t k).lo) : TabTo t (k + 1) := by
  refine ⟨fun j hj => ?_, fun j hj => ?_⟩
  · by_cases e : j = k
    · subst e; exact h1
    · exact h.ok j (by omega)
  · by_cases e : j + 1 = k
    · subst e; exact h2 (by omega)
    · exact h.rise j (by omega)
theorem TabTo.all {t : List Rg} {k : Nat} (h : TabTo t k) (hk : t.length = k) (h2 : t.length ≤ 200) : MayTab t := by
  refine ⟨h2, fun r hr => ?_, ?_⟩
  · obtain ⟨j, hj, rfl⟩ := List.getElem_of_mem hr
    rw [rg_get hj]; exact h.ok j (by omega)
  · rw [List.pairwise_iff_getElem]
    intro i j hi hj hij
    rw [rg_get hi, rg_get hj]
    have key : ∀ d, i + 1 + d < t.length → (rg t i).hi < (rg t (i + 1 + d)).lo := by
      intro d
      induction d with
      | zero => intro hd; exact h.rise i (by omega)
      | succ d ih =>
        intro hd
        have h3 := ih (by omega)
        have h4 := h.rise (i + 1 + d) (by omega)
        have h5 := (h.ok (i + 1 + d) (by omega)).2.1
        rw [show i + 1 + (d + 1) = i + 1 + d + 1 by omega]
        omega
    have := key (j - i - 1) (by omega)
    rwa [show i + 1 + (j - i - 1) = j by omega] at this
theorem notTab_ok {t : List Rg} {k : Nat} (hk : k < t.length) (h : ¬ OkRg (rg t k)) : (false = true ↔ MayTab t) := ⟨(fun h => by cases h), fun h2 => absurd (h2.2.1 _ (List.mem_of_getElem? (rg_eq hk))) h⟩
theorem notTab_rise {t : List Rg} {k : Nat} (h0 : 0 < k) (hk : k < t.length) (h : ¬ (rg t (k - 1)).hi < (rg t k).lo) : (false = true ↔ MayTab t) := ⟨(fun h => by cases h), fun h2 => by
  have h3 := (List.pairwise_iff_getElem.1 h2.2.2) (k - 1) k (by omega) hk (by omega)
  rw [rg_get (by omega), rg_get hk] at h3
  exact absurd h3 h⟩
theorem notTab_len {t : List Rg} (h : ¬ t.length ≤ 200) : (false = true ↔ MayTab t) := ⟨(fun h => by cases h), fun h2 => absurd h2.1 h⟩

/-- The error of a coder's kit; zero: there is a coder. -/
def OkKit (N : List ByteArray) (kind : Int) (t : List Rg) (room : Int) : Prop := MayNames N ∧ 0 ≤ kind ∧ kind ≤ 3 ∧ MayTab t ∧ 0 ≤ room ∧ room ≤ 1048576
open Classical in
noncomputable def kitErr (V : Vc) (N : List ByteArray) (kind : Int) (t : List Rg) (room : Int) : Int := if May V then (if OkKit N kind t room then 0 else 1) else 2

/-- The marks: the numbers of the names' specials; -1. -/
def marksOf (S : List Sp) (N : List ByteArray) : List Int := N.map (fun s => idOf (spNamed S s))

end Go.Proofs.YtnadelmbkaoeeaaGreatDoor

/- What the document says of tokens' symbols, in plain Lean. -/
namespace Go.Proofs.YtnadelmbkaoeeaaGreatDoor
open Go
set_option linter.unusedVariables false

def bytesI (s : ByteArray) : List Int := s.data.toList.map (fun b => (b.toNat : Int))
theorem bytesI_len (s : ByteArray) : (bytesI s).length = s.size := by simp [bytesI]
theorem bytesI_at {s : ByteArray} {i : Nat} (h : i < s.size) : (bytesI s)[i]? = some (s[i].toNat : Int) := by
  unfold bytesI
  rw [List.getElem?_map, Array.getElem?_toList, Array.getElem?_eq_getElem (by simpa using h)]
  rfl
theorem bytesI_succ {s : ByteArray} {k : Nat} (h : k < s.size) : (bytesI s).take (k + 1) = (bytesI s).take k ++ [(s[k].toNat : Int)] := by
  rw [List.take_add_one, bytesI_at h]; rfl
theorem bytesI_inj {s t : ByteArray} (h : bytesI s = bytesI t) : s = t := by
  unfold bytesI at h
  apply ByteArray.ext
  apply Array.toList_inj.1
  have hinj : Function.Injective (fun b : UInt8 => (b.toNat : Int)) := fun a b e => UInt8.toNat_inj.1 (by have e : (a.toNat : Int) = (b.toNat : Int) := e; omega)
  exact (List.map_inj_right (f := fun b : UInt8 => (b.toNat : Int)) (fun a b e => hinj e)).1 h
theorem bytesI_lt {s : ByteArray} : ∀ x ∈ bytesI s, 0 ≤ x ∧ x < 256 := by
  intro x hx
  unfold bytesI at hx
  obtain ⟨b, _, rfl⟩ := List.mem_map.1 hx
  have := b.toNat_lt
  exact ⟨by omega, by omega⟩

/-- The place of a name. -/
def nameAt (N : List ByteArray) (n : ByteArray) : Option Nat := N.findIdx? (fun x => decide (x = n))
theorem nameAt_some {N : List ByteArray} {n : ByteArray} {i : Nat} (hi : i < N.length) (he : tk N i = n) (hn : ∀ j, j < i → tk N j ≠ n) : nameAt N n = some i := by
  unfold nameAt
  rw [List.findIdx?_eq_some_iff_getElem]
  have ht : ∀ j (hj : j < N.length), N[j] = tk N j := fun j hj => by simp [tk, List.getD, hj]
  exact ⟨hi, by rw [ht i hi]; simpa using he, fun j hj => by rw [ht j (by omega)]; simpa using hn j hj⟩
theorem nameAt_none {N : List ByteArray} {n : ByteArray} (hn : ∀ j, j < N.length → tk N j ≠ n) : nameAt N n = none := by
  unfold nameAt
  rw [List.findIdx?_eq_none_iff]
  intro x hx
  obtain ⟨j, hj, rfl⟩ := mem_tk hx
  simpa using hn j hj

/-- A token's symbols, and the error. -/
def symsOf (V : Vc) (N : List ByteArray) (t : Int) : List Int × Int :=
  if isTk V.tokens t = true then (bytesI (tk V.tokens t.toNat), 0)
  else match spBy V.specials t with
    | none => ([], 3)
    | some s => match nameAt N s.name with
      | some k => ([256 + (k : Int)], 0)
      | none => ([], 4)

/-- Tokens' symbols, one behind the other, and the error. -/
def decTo (V : Vc) (N : List ByteArray) : List Int → List Int × Int
  | [] => ([], 0)
  | t :: l => if (symsOf V N t).2 = 0 then (if (decTo V N l).2 = 0 then ((symsOf V N t).1 ++ (decTo V N l).1, 0) else ([], (decTo V N l).2)) else ([], (symsOf V N t).2)

end Go.Proofs.YtnadelmbkaoeeaaGreatDoor

/- Plain laws of the index of tokens by their symbols. -/
namespace Go.Proofs.YtnadelmbkaoeeaaGreatDoor
open Go
set_option linter.unusedVariables false

/-- Two rows without repeats of the same members are one but for the order. -/
theorem perm_of_mem {α : Type} [DecidableEq α] : ∀ {l1 l2 : List α}, l1.Nodup → l2.Nodup → (∀ x, x ∈ l1 ↔ x ∈ l2) → l1.Perm l2
  | [], l2, _, _, h => by
    have : l2 = [] := by
      cases l2 with
      | nil => rfl
      | cons y l => exact absurd ((h y).2 (by simp)) (by simp)
    rw [this]
  | x :: l1, l2, h1, h2, h => by
    have hx : x ∈ l2 := (h x).1 (by simp)
    have h3 : l2.Perm (x :: l2.erase x) := List.perm_cons_erase hx
    refine List.Perm.trans (List.Perm.cons x ?_) h3.symm
    rw [List.nodup_cons] at h1
    refine perm_of_mem h1.2 (h2.erase x) fun y => ?_
    rw [h2.mem_erase_iff]
    constructor
    · intro hy
      exact ⟨fun e => h1.1 (by rw [← e]; exact hy), (h y).1 (by simp [hy])⟩
    · rintro ⟨hne, hy⟩
      have := (h y).2 hy
      rcases List.mem_cons.1 this with rfl | h4
      · exact absurd rfl hne
      · exact h4
/-- Rising rows of the same members are one. -/
theorem rising_unique : ∀ {l1 l2 : List Int}, l1.Pairwise (· < ·) → l2.Pairwise (· < ·) → (∀ x, x ∈ l1 ↔ x ∈ l2) → l1 = l2
  | [], [], _, _, _ => rfl
  | [], y :: l2, _, _, h => absurd ((h y).2 (by simp)) (by simp)
  | x :: l1, [], _, _, h => absurd ((h x).1 (by simp)) (by simp)
  | x :: l1, y :: l2, h1, h2, h => by
    rw [List.pairwise_cons] at h1 h2
    have hxy : x = y := by
      rcases List.mem_cons.1 ((h x).1 (by simp)) with e | e
      · exact e
      · rcases List.mem_cons.1 ((h y).2 (by simp)) with e2 | e2
        · exact e2.symm
        · have := h2.1 x e; have := h1.1 y e2; omega
    subst hxy
    congr 1
    refine rising_unique h1.2 h2.2 fun z => ?_
    constructor
    · intro hz
      rcases List.mem_cons.1 ((h z).1 (by simp [hz])) with e | e
      · subst e; have := h1.1 z hz; omega
      · exact e
    · intro hz
      rcases List.mem_cons.1 ((h z).2 (by simp [hz])) with e | e
      · subst e; have := h2.1 z hz; omega
      · exact e

/-- A row of the index: a token's symbols, and its number. -/
abbrev Fr := List Int × Int
def rowsF (V : Vc) (N : List ByteArray) : List Fr :=
  (List.range V.tokens.length).filterMap fun (i : Nat) => if (symsOf V N (i : Int)).2 = 0 then some ((symsOf V N (i : Int)).1, (i : Int)) else none
theorem rowsF_mem {V : Vc} {N : List ByteArray} {r : Fr} : r ∈ rowsF V N ↔ ∃ i : Nat, i < V.tokens.length ∧ (symsOf V N (i : Int)).2 = 0 ∧ r = ((symsOf V N (i : Int)).1, (i : Int)) := by
  unfold rowsF
  rw [List.mem_filterMap]
  constructor
  · rintro ⟨i, hi, he⟩
    split at he
    · next h => exact ⟨i, List.mem_range.1 hi, h, by simpa using he.symm⟩
    · cases he
  · rintro ⟨i, hi, he, rfl⟩
    exact ⟨i, List.mem_range.2 hi, by rw [if_pos he]⟩
theorem rowsF_rise (V : Vc) (N : List ByteArray) : (rowsF V N).Pairwise (fun a b => a.2 < b.2) := by
  unfold rowsF
  rw [List.pairwise_filterMap]
  refine List.pairwise_lt_range.imp ?_
  intro a b hab x hx y hy
  split at hx
  · split at hy
    · simp at hx hy; rw [← hx, ← hy]; simp only; omega
    · cases hy
  · cases hx

/-- What a token's symbols are, of a vocabulary that may be. -/
theorem symsOf_out {V : Vc} {N : List ByteArray} (h : May V) {t : Int} (ht : ¬ (0 ≤ t ∧ t < V.tokens.length)) : (symsOf V N t).2 ≠ 0 := by
  unfold symsOf
  have h1 : isTk V.tokens t = false := by
    cases h2 : isTk V.tokens t with
    | false => rfl
    | true => have := isTk_iff.1 h2; exact absurd ⟨this.1, this.2.1⟩ ht
  rw [h1]
  simp only [Bool.false_eq_true, if_false]
  cases h2 : spBy V.specials t with
  | none => simp
  | some s =>
    exfalso
    have h3 := List.find?_some h2
    have h4 := List.mem_of_find?_eq_some h2
    have h5 := h.2.2.2.2.1 s h4
    have h6 : s.id = t := by simpa using h3
    exact ht ⟨by rw [← h6]; exact h5.2.1, by rw [← h6]; exact h5.2.2.1⟩
theorem symsOf_tok {V : Vc} {N : List ByteArray} {t : Int} (h : isTk V.tokens t = true) : symsOf V N t = (bytesI (tk V.tokens t.toNat), 0) := by
  unfold symsOf; rw [if_pos h]
theorem symsOf_sp {V : Vc} {N : List ByteArray} {t : Int} (h : isTk V.tokens t ≠ true) (h0 : (symsOf V N t).2 = 0) : ∃ s k, spBy V.specials t = some s ∧ nameAt N s.name = some k ∧ symsOf V N t = ([256 + (k : Int)], 0) := by
  unfold symsOf at h0 ⊢
  rw [if_neg h] at h0 ⊢
  cases h2 : spBy V.specials t with
  | none => rw [h2] at h0; simp at h0
  | some s =>
    rw [h2] at h0
    cases h3 : nameAt N s.name with
    | none => simp only [h3] at h0; simp at h0
    | some k => exact ⟨s, k, rfl, h3, by simp only [h3]⟩
theorem symsOf_len {V : Vc} {N : List ByteArray} (h : May V) {t : Int} (h0 : (symsOf V N t).2 = 0) : 1 ≤ (symsOf V N t).1.length ∧ (symsOf V N t).1.length ≤ 64 := by
  by_cases h1 : isTk V.tokens t = true
  · rw [symsOf_tok h1]
    obtain ⟨a, b, c⟩ := isTk_iff.1 h1
    have h2 := h.1.2.1 _ (tk_mem (T := V.tokens) (i := t.toNat) (by omega))
    simp only [bytesI_len]
    omega
  · obtain ⟨s, k, _, _, e⟩ := symsOf_sp h1 h0
    rw [e]
    simp
theorem symsOf_inj {V : Vc} {N : List ByteArray} (h : May V) {t u : Int} (ht : (symsOf V N t).2 = 0) (hu : (symsOf V N u).2 = 0) (he : (symsOf V N t).1 = (symsOf V N u).1) : t = u := by
  by_cases h1 : isTk V.tokens t = true
  · by_cases h2 : isTk V.tokens u = true
    · rw [symsOf_tok h1, symsOf_tok h2] at he
      have := bytesI_inj he
      obtain ⟨a, b, c⟩ := isTk_iff.1 h1
      obtain ⟨a', b', c'⟩ := isTk_iff.1 h2
      rcases Nat.lt_trichotomy t.toNat u.toNat with g | g | g
      · exact absurd (h.1.2.2.1 _ _ g (by omega) this) c
      · omega
      · exact absurd (h.1.2.2.1 _ _ g (by omega) this.symm) c'
    · obtain ⟨s, k, _, _, e⟩ := symsOf_sp h2 hu
      rw [symsOf_tok h1, e] at he
      have := bytesI_lt (s := tk V.tokens t.toNat) (256 + (k : Int)) (by simp only at he; rw [he]; simp)
      omega
  · obtain ⟨s, k, hs1, hs2, e⟩ := symsOf_sp h1 ht
    by_cases h2 : isTk V.tokens u = true
    · rw [symsOf_tok h2, e] at he
      have := bytesI_lt (s := tk V.tokens u.toNat) (256 + (k : Int)) (by simp only at he; rw [← he]; simp)
      omega
    · obtain ⟨s', k', hs1', hs2', e'⟩ := symsOf_sp h2 hu
      rw [e, e'] at he
      have hk : k = k' := by simp at he; omega
      subst hk
      have hn : s.name = s'.name := by
        unfold nameAt at hs2 hs2'
        obtain ⟨g1, g2, _⟩ := List.findIdx?_eq_some_iff_getElem.1 hs2
        obtain ⟨g1', g2', _⟩ := List.findIdx?_eq_some_iff_getElem.1 hs2'
        have a : N[k] = s.name := by simpa using g2
        have b : N[k] = s'.name := by simpa using g2'
        rw [← a, ← b]
      have m1 := List.mem_of_find?_eq_some hs1
      have m2 := List.mem_of_find?_eq_some hs1'
      have f1 : spNamed V.specials s.name = some s := spNamed_mem h.2.2.2 m1
      have f2 : spNamed V.specials s'.name = some s' := spNamed_mem h.2.2.2 m2
      rw [← hn, f1] at f2
      have hss : s = s' := by simpa using f2
      have i1 : s.id = t := by simpa using List.find?_some hs1
      have i2 : s'.id = u := by simpa using List.find?_some hs1'
      rw [← i1, ← i2, hss]

end Go.Proofs.YtnadelmbkaoeeaaGreatDoor

/- Plain laws: which rows of the index begin with symbols, or are a first part of them. -/
namespace Go.Proofs.YtnadelmbkaoeeaaGreatDoor
open Go
set_option linter.unusedVariables false

def lexLt (a b : List Int) : Bool := decide (a < b)
def cmpL (a b : List Int) : Int := if a < b then -1 else if a = b then 0 else 1
theorem cmpL_lt {a b : List Int} : cmpL a b < 0 ↔ a < b := by
  unfold cmpL
  split
  · simp_all
  · split <;> simp_all
theorem cmpL_zero {a b : List Int} : cmpL a b = 0 ↔ a = b := by
  unfold cmpL
  split
  · next h => constructor
              · intro h2; omega
              · intro h2; subst h2; exact absurd h (List.lt_irrefl a)
  · split <;> simp_all

def begins (a b : List Int) : Bool := b.isPrefixOf a
theorem begins_iff {a b : List Int} : begins a b = true ↔ b <+: a := by unfold begins; rw [List.isPrefixOf_iff_prefix]
theorem begins_take {a b : List Int} : begins a b = true ↔ b.length ≤ a.length ∧ a.take b.length = b := by
  rw [begins_iff]
  constructor
  · intro h
    exact ⟨h.length_le, (List.prefix_iff_eq_take.1 h).symm⟩
  · rintro ⟨_, h⟩
    rw [← h]
    exact List.take_prefix _ _

/-- The allowed tokens, by the document. -/
def allowedF (rows : List Fr) (s : List Int) : List Int := if s = [] then [] else (rows.filter (fun r => begins r.1 s || begins s r.1)).map (·.2)
/-- The tokens of the first parts of symbols, of n numbers at the most; and of the rows that begin with them. -/
def exactF (rows : List Fr) (s : List Int) : List Int := (rows.find? (fun r => decide (r.1 = s))).toList.map (·.2)
def partsF (rows : List Fr) (s : List Int) (k : Nat) : List Int := (List.range k).flatMap (fun i => exactF rows (s.take (i + 1)))
def spanF (rows : List Fr) (s : List Int) : List Int := (rows.filter (fun r => begins r.1 s)).map (·.2)

theorem exactF_mem {rows : List Fr} (hu : ∀ a ∈ rows, ∀ b ∈ rows, a.1 = b.1 → a = b) {s : List Int} {x : Int} : x ∈ exactF rows s ↔ (s, x) ∈ rows := by
  unfold exactF
  cases h : rows.find? (fun r => decide (r.1 = s)) with
  | none =>
    rw [List.find?_eq_none] at h
    simp only [Option.toList_none, List.map_nil, List.not_mem_nil, false_iff]
    intro h2
    exact absurd (h _ h2) (by simp)
  | some r =>
    have h1 : r.1 = s := by simpa using List.find?_some h
    have h2 := List.mem_of_find?_eq_some h
    simp only [Option.toList_some, List.map_cons, List.map_nil, List.mem_singleton]
    constructor
    · rintro rfl
      rw [← h1]; exact h2
    · intro h3
      have := hu r h2 _ h3 (by simpa using h1)
      rw [this]
theorem exactF_nodup (rows : List Fr) (s : List Int) : (exactF rows s).Nodup := by
  unfold exactF
  cases rows.find? (fun r => decide (r.1 = s)) <;> simp

structure GoodF (rows : List Fr) : Prop where
  uniq : ∀ a ∈ rows, ∀ b ∈ rows, a.1 = b.1 → a = b
  ids : ∀ a ∈ rows, ∀ b ∈ rows, a.2 = b.2 → a = b
  len : ∀ a ∈ rows, 1 ≤ a.1.length ∧ a.1.length ≤ 64
theorem goodF {V : Vc} {N : List ByteArray} (h : May V) : GoodF (rowsF V N) := by
  refine ⟨fun a ha b hb e => ?_, fun a ha b hb e => ?_, fun a ha => ?_⟩
  · obtain ⟨i, _, hi, rfl⟩ := rowsF_mem.1 ha
    obtain ⟨j, _, hj, rfl⟩ := rowsF_mem.1 hb
    have := symsOf_inj h hi hj e
    rw [this]
  · obtain ⟨i, _, hi, rfl⟩ := rowsF_mem.1 ha
    obtain ⟨j, _, hj, rfl⟩ := rowsF_mem.1 hb
    simp only at e
    rw [e]
  · obtain ⟨i, _, hi, rfl⟩ := rowsF_mem.1 ha
    exact symsOf_len h hi

theorem partsF_mem {rows : List Fr} (hg : GoodF rows) {s : List Int} {k : Nat} {x : Int} : x ∈ partsF rows s k ↔ ∃ i, i < k ∧ (s.take (i + 1), x) ∈ rows := by
  unfold partsF
  rw [List.mem_flatMap]
  constructor
  · rintro ⟨i, hi, hx⟩
    exact ⟨i, List.mem_range.1 hi, (exactF_mem hg.uniq).1 hx⟩
  · rintro ⟨i, hi, hx⟩
    exact ⟨i, List.mem_range.2 hi, (exactF_mem hg.uniq).2 hx⟩
theorem partsF_nodup {rows : List Fr} (hg : GoodF rows) {s : List Int} : ∀ {k : Nat}, k ≤ s.length → (partsF rows s k).Nodup
  | 0, _ => by simp [partsF]
  | k + 1, hk => by
    have e : partsF rows s (k + 1) = partsF rows s k ++ exactF rows (s.take (k + 1)) := by
      unfold partsF; rw [List.range_succ, List.flatMap_append]; simp
    rw [e, List.nodup_append]
    refine ⟨partsF_nodup hg (by omega), exactF_nodup _ _, fun a ha b hb hab => ?_⟩
    subst hab
    obtain ⟨i, hi, h1⟩ := (partsF_mem hg).1 ha
    have h2 := (exactF_mem hg.uniq).1 hb
    have h3 := hg.ids _ h1 _ h2 rfl
    have h4 : (s.take (i + 1)).length = (s.take (k + 1)).length := by
      have : s.take (i + 1) = s.take (k + 1) := by simpa using h3
      rw [this]
    rw [List.length_take, List.length_take] at h4
    omega
theorem spanF_mem {rows : List Fr} {s : List Int} {x : Int} : x ∈ spanF rows s ↔ ∃ r ∈ rows, begins r.1 s = true ∧ r.2 = x := by
  unfold spanF
  simp only [List.mem_map, List.mem_filter]
  constructor
  · rintro ⟨r, ⟨h1, h2⟩, h3⟩; exact ⟨r, h1, h2, h3⟩
  · rintro ⟨r, h1, h2, h3⟩; exact ⟨r, ⟨h1, h2⟩, h3⟩

/-- What the program gathers has the members that the document allows. -/
theorem gather_mem {rows : List Fr} (hg : GoodF rows) {s : List Int} (hs : s ≠ []) {x : Int} : x ∈ partsF rows s (min (s.length - 1) 64) ++ spanF rows s ↔ x ∈ allowedF rows s := by
  have hpos : 0 < s.length := List.length_pos_iff.2 hs
  unfold allowedF
  rw [if_neg hs, List.mem_append, partsF_mem hg, spanF_mem]
  simp only [List.mem_map, List.mem_filter, Bool.or_eq_true]
  constructor
  · rintro (⟨i, hi, h⟩ | ⟨r, h1, h2, h3⟩)
    · refine ⟨_, ⟨h, .inr ?_⟩, rfl⟩
      rw [begins_iff]
      exact List.take_prefix _ _
    · exact ⟨r, ⟨h1, .inl h2⟩, h3⟩
  · rintro ⟨r, ⟨h1, h2 | h2⟩, h3⟩
    · exact .inr ⟨r, h1, h2, h3⟩
    · have h4 := begins_take.1 h2
      have h5 := hg.len r h1
      rcases Nat.lt_or_ge r.1.length s.length with h6 | h6
      · left
        refine ⟨r.1.length - 1, by omega, ?_⟩
        rw [show r.1.length - 1 + 1 = r.1.length by omega, h4.2, ← h3]
        exact h1
      · right
        refine ⟨r, h1, ?_, h3⟩
        have h7 : r.1.length = s.length := by omega
        have h8 := h4.2
        rw [h7, List.take_length] at h8
        rw [← h8, begins_iff]
        exact List.prefix_refl _
theorem gather_nodup {rows : List Fr} (hg : GoodF rows) (hn : rows.Nodup) {s : List Int} (hs : s ≠ []) : (partsF rows s (min (s.length - 1) 64) ++ spanF rows s).Nodup := by
  have hpos : 0 < s.length := List.length_pos_iff.2 hs
  rw [List.nodup_append]
  refine ⟨partsF_nodup hg (by omega), ?_, fun a ha b hb hab => ?_⟩
  · unfold spanF
    unfold List.Nodup
    rw [List.pairwise_map]
    have h0 := hn.sublist (List.filter_sublist (p := fun r : Fr => begins r.1 s) (l := rows))
    refine List.Pairwise.imp_of_mem ?_ h0
    intro a b ha hb hne e
    exact hne (hg.ids a (List.mem_filter.1 ha).1 b (List.mem_filter.1 hb).1 e)
  · subst hab
    obtain ⟨i, hi, h1⟩ := (partsF_mem hg).1 ha
    obtain ⟨r, h2, h3, h4⟩ := spanF_mem.1 hb
    have h5 := hg.ids _ h1 r h2 h4.symm
    have h6 := (begins_take.1 h3).1
    rw [← h5] at h6
    simp only [List.length_take] at h6
    omega
/-- Sorted, they are the document's. -/
theorem gather_sorted {V : Vc} {N : List ByteArray} (h : May V) {rows : List Fr} (hp : rows.Perm (rowsF V N)) {s : List Int} (hs : s ≠ []) {out : List Int}
    (ho : out.Perm (partsF rows s (min (s.length - 1) 64) ++ spanF rows s)) (hso : out.Pairwise (· ≤ ·)) : out = allowedF (rowsF V N) s := by
  have hg0 : GoodF (rowsF V N) := goodF h
  have hg : GoodF rows := ⟨fun a ha b hb => hg0.uniq a (hp.mem_iff.1 ha) b (hp.mem_iff.1 hb), fun a ha b hb => hg0.ids a (hp.mem_iff.1 ha) b (hp.mem_iff.1 hb), fun a ha => hg0.len a (hp.mem_iff.1 ha)⟩
  have hnr : (rowsF V N).Nodup := (rowsF_rise V N).imp fun {a b} e h2 => by rw [h2] at e; omega
  have hn := gather_nodup hg (hp.nodup_iff.2 hnr) hs
  have hno := ho.nodup_iff.2 hn
  refine rising_unique ?_ ?_ fun x => ?_
  · have h2 : out.Pairwise (fun a b => a ≤ b ∧ a ≠ b) := hso.and hno
    exact h2.imp fun {a b} e => by omega
  · unfold allowedF
    rw [if_neg hs, List.pairwise_map]
    exact (rowsF_rise V N).sublist List.filter_sublist
  · rw [ho.mem_iff, gather_mem hg hs]
    unfold allowedF
    rw [if_neg hs, if_neg hs]
    simp only [List.mem_map, List.mem_filter]
    constructor
    · rintro ⟨r, ⟨h1, h2⟩, h3⟩; exact ⟨r, ⟨hp.mem_iff.1 h1, h2⟩, h3⟩
    · rintro ⟨r, ⟨h1, h2⟩, h3⟩; exact ⟨r, ⟨hp.mem_iff.2 h1, h2⟩, h3⟩

end Go.Proofs.YtnadelmbkaoeeaaGreatDoor

/- Plain laws: the longest token; the places of a sorted index. -/
namespace Go.Proofs.YtnadelmbkaoeeaaGreatDoor
open Go
set_option linter.unusedVariables false

/-- The number of the row of the longest first part, of n numbers at the most; -1. -/
def longTo (rows : List Fr) (s : List Int) : Nat → Int
  | 0 => -1
  | n + 1 => match rows.find? (fun r => decide (r.1 = s.take (n + 1))) with
    | some r => r.2
    | none => longTo rows s n
theorem longTo_cases (rows : List Fr) (s : List Int) : ∀ k, (longTo rows s k = -1 ∧ ∀ n, n < k → ∀ x, (s.take (n + 1), x) ∉ rows) ∨ ∃ n, n < k ∧ (s.take (n + 1), longTo rows s k) ∈ rows ∧ ∀ m, n < m → m < k → ∀ x, (s.take (m + 1), x) ∉ rows
  | 0 => .inl ⟨rfl, fun n h => by omega⟩
  | k + 1 => by
    cases h : rows.find? (fun r => decide (r.1 = s.take (k + 1))) with
    | some r =>
      right
      have h1 : r.1 = s.take (k + 1) := by simpa using List.find?_some h
      have h2 := List.mem_of_find?_eq_some h
      refine ⟨k, by omega, ?_, fun m h3 h4 => by omega⟩
      have : longTo rows s (k + 1) = r.2 := by simp only [longTo, h]
      rw [this, ← h1]
      exact h2
    | none =>
      rw [List.find?_eq_none] at h
      have e : longTo rows s (k + 1) = longTo rows s k := by
        simp only [longTo]
        rw [List.find?_eq_none.2 h]
      have hk : ∀ x, (s.take (k + 1), x) ∉ rows := fun x hx => absurd (h _ hx) (by simp)
      rcases longTo_cases rows s k with ⟨h1, h2⟩ | ⟨n, h1, h2, h3⟩
      · left
        refine ⟨by rw [e]; exact h1, fun n hn => ?_⟩
        by_cases g : n = k
        · subst g; exact hk
        · exact h2 n (by omega)
      · right
        refine ⟨n, by omega, by rw [e]; exact h2, fun m g1 g2 => ?_⟩
        by_cases g : m = k
        · subst g; exact hk
        · exact h3 m g1 (by omega)

/-- What the document's loop has, rows having been seen. -/
def BestOf (seen : List Fr) (s : List Int) (best most : Int) : Prop :=
  (best = -1 ∧ most = 0 ∧ ∀ r ∈ seen, begins s r.1 = false) ∨ ∃ r ∈ seen, begins s r.1 = true ∧ best = r.2 ∧ most = (r.1.length : Int) ∧ ∀ q ∈ seen, begins s q.1 = true → q.1.length ≤ r.1.length
theorem BestOf.zero (s : List Int) : BestOf [] s (-1) 0 := .inl ⟨rfl, rfl, by simp⟩
theorem BestOf.all {rows rows' : List Fr} (hg : GoodF rows) (hp : rows'.Perm rows) {s : List Int} {best most : Int} (h : BestOf rows s best most) : best = longTo rows' s (min s.length 64) := by
  have hg' : ∀ {q : List Int} {x : Int}, (q, x) ∈ rows' → (q, x) ∈ rows := fun h => hp.mem_iff.1 h
  rcases h with ⟨h1, _, h3⟩ | ⟨r, h1, h2, h3, _, h5⟩
  · rcases longTo_cases rows' s (min s.length 64) with ⟨e, _⟩ | ⟨n, _, e2, _⟩
    · rw [h1, e]
    · have := h3 _ (hg' e2)
      rw [show begins s (s.take (n + 1)) = true from begins_iff.2 (List.take_prefix _ _)] at this
      cases this
  · have hb := begins_take.1 h2
    have hl := hg.len r h1
    rcases longTo_cases rows' s (min s.length 64) with ⟨_, e2⟩ | ⟨n, e1, e2, e3⟩
    · exfalso
      refine e2 (r.1.length - 1) (by omega) r.2 ?_
      rw [show r.1.length - 1 + 1 = r.1.length by omega, hb.2]
      exact hp.mem_iff.2 h1
    · have h6 := h5 _ (hg' e2) (begins_iff.2 (List.take_prefix _ _))
      simp only [List.length_take] at h6
      have h7 : r.1.length = n + 1 := by
        rcases Nat.lt_or_ge (n + 1) r.1.length with g | g
        · exfalso
          refine e3 (r.1.length - 1) (by omega) (by omega) r.2 ?_
          rw [show r.1.length - 1 + 1 = r.1.length by omega, hb.2]
          exact hp.mem_iff.2 h1
        · omega
      have h8 := hg.uniq r h1 _ (hg' e2) (by simp only; rw [← h7]; exact hb.2.symm)
      rw [h3, h8]

/-- Where a word of sorted rows holds at the front alone. -/
theorem take_countP {α : Type} {p : α → Bool} : ∀ {l : List α}, l.Pairwise (fun a b => p b = true → p a = true) → l.take (l.countP p) = l.filter p ∧ l.drop (l.countP p) = l.filter (fun x => !p x)
  | [], _ => by simp
  | x :: l, h => by
    rw [List.pairwise_cons] at h
    cases hx : p x with
    | true =>
      have ih := take_countP h.2
      simp [hx, ih.1, ih.2]
    | false =>
      have h0 : l.filter p = [] := by
        rw [List.filter_eq_nil_iff]
        intro y hy hpy
        have := h.1 y hy hpy
        rw [hx] at this; cases this
      have h1 : l.countP p = 0 := by rw [List.countP_eq_length_filter, h0]; rfl
      have h2 : l.filter (fun x => !p x) = l := by
        rw [List.filter_eq_self]
        intro y hy
        cases hpy : p y with
        | false => rfl
        | true => have := h.1 y hy hpy; rw [hx] at this; cases this
      simp [hx, h1, h0, h2]

theorem lex_prefix : ∀ {s a : List Int}, s <+: a → ¬ a < s
  | [], a, _ => by simp
  | x :: s, [], h => by simp at h
  | x :: s, y :: a, h => by
    rw [List.cons_prefix_cons] at h
    obtain ⟨rfl, h2⟩ := h
    rw [List.cons_lt_cons_iff]
    rintro (h3 | ⟨_, h3⟩)
    · omega
    · exact lex_prefix h2 h3
theorem lex_between : ∀ {s a b : List Int}, ¬ b < a → s <+: b → ¬ a < s → s <+: a
  | [], a, b, _, _, _ => by simp
  | x :: s, a, [], _, h, _ => by simp at h
  | x :: s, [], y :: b, _, _, h => absurd (by simp : ([] : List Int) < x :: s) h
  | x :: s, y :: a, z :: b, h1, h2, h3 => by
    rw [List.cons_prefix_cons] at h2
    obtain ⟨rfl, h2⟩ := h2
    rw [List.cons_lt_cons_iff] at h1 h3
    have hxy : x = y := by
      rcases Int.lt_trichotomy x y with g | g | g
      · exact absurd (.inl g) h1
      · exact g
      · exact absurd (.inl g) h3
    subst hxy
    rw [List.cons_prefix_cons]
    exact ⟨rfl, lex_between (fun h => h1 (.inr ⟨rfl, h⟩)) h2 (fun h => h3 (.inr ⟨rfl, h⟩))⟩

/-- A sorted index. -/
def SortedF (L : List Fr) : Prop := L.Pairwise (fun a b => ¬ b.1 < a.1)
theorem SortedF.less {L : List Fr} (h : SortedF L) (s : List Int) : L.Pairwise (fun a b => decide (b.1 < s) = true → decide (a.1 < s) = true) :=
  h.imp fun {a b} h1 h2 => by
    simp only [decide_eq_true_eq] at h2 ⊢
    exact List.lt_of_le_of_lt (List.not_lt.1 h1) h2
theorem begins_less {a s : List Int} (h : begins a s = true) : ¬ a < s := lex_prefix (begins_iff.1 h)
/-- The rows that begin with symbols: from the first one that is no less. -/
theorem SortedF.span {L : List Fr} (h : SortedF L) (s : List Int) {from_ n : Nat} (hf : from_ = L.countP (fun r => decide (r.1 < s))) (hn : n = (L.drop from_).countP (fun r => begins r.1 s)) :
    (L.drop from_).take n = L.filter (fun r => begins r.1 s) := by
  have h1 := take_countP (h.less s)
  rw [← hf] at h1
  rw [h1.2] at hn ⊢
  have h2 : (L.filter (fun r => !decide (r.1 < s))).Pairwise (fun a b => begins b.1 s = true → begins a.1 s = true) := by
    refine List.Pairwise.imp_of_mem ?_ (h.sublist List.filter_sublist)
    intro a b ha hb h3 h4
    have h5 := (List.mem_filter.1 ha).2
    simp only [Bool.not_eq_true', decide_eq_false_iff_not] at h5
    exact begins_iff.2 (lex_between h3 (begins_iff.1 h4) h5)
  have h3 := (take_countP h2).1
  rw [hn, h3, List.filter_filter]
  refine List.filter_congr fun r _ => ?_
  cases hb : begins r.1 s with
  | false => simp
  | true => simp; exact List.not_lt.1 (begins_less hb)
/-- The row of just these symbols. -/
theorem SortedF.exact {L : List Fr} (h : SortedF L) (hu : ∀ a ∈ L, ∀ b ∈ L, a.1 = b.1 → a = b) (s : List Int) {i : Nat} (hi : i = L.countP (fun r => decide (r.1 < s))) :
    (∃ r, L[i]? = some r ∧ r.1 = s ∧ L.find? (fun r => decide (r.1 = s)) = some r) ∨ ((∀ r, L[i]? = some r → r.1 ≠ s) ∧ L.find? (fun r => decide (r.1 = s)) = none) := by
  have h1 := take_countP (h.less s)
  rw [← hi] at h1
  cases hf : L.find? (fun r => decide (r.1 = s)) with
  | none =>
    right
    rw [List.find?_eq_none] at hf
    exact ⟨fun r hr e => absurd (hf r (List.mem_of_getElem? hr)) (by simp [e]), rfl⟩
  | some r =>
    left
    have h2 : r.1 = s := by simpa using List.find?_some hf
    have h3 := List.mem_of_find?_eq_some hf
    have h4 : r ∈ L.drop i := by
      rw [h1.2, List.mem_filter]
      refine ⟨h3, ?_⟩
      simp only [Bool.not_eq_true', decide_eq_false_iff_not, h2]
      exact List.lt_irrefl s
    cases hd : L.drop i with
    | nil => rw [hd] at h4; simp at h4
    | cons q rest =>
      have h5 : L[i]? = some q := by
        have := congrArg List.head? hd
        rw [List.head?_drop] at this
        simpa using this
      have h6 : q ∈ L := List.mem_of_getElem? h5
      have h7 : ¬ q.1 < s := by
        have : q ∈ L.drop i := by rw [hd]; simp
        rw [h1.2, List.mem_filter] at this
        simpa using this.2
      have h8 : q.1 = s := by
        rw [hd] at h4
        rcases List.mem_cons.1 h4 with e | e
        · rw [← e]; exact h2
        · have h9 : SortedF (q :: rest) := by rw [← hd]; exact h.sublist (List.drop_sublist _ _)
          have h10 := (List.pairwise_cons.1 h9).1 r e
          rw [h2] at h10
          exact (List.le_antisymm (List.not_lt.1 h10) (List.not_lt.1 h7))
      have h11 := hu q h6 r h3 (by rw [h8, h2])
      exact ⟨r, by rw [← h11]; exact h5, h2, rfl⟩

end Go.Proofs.YtnadelmbkaoeeaaGreatDoor
