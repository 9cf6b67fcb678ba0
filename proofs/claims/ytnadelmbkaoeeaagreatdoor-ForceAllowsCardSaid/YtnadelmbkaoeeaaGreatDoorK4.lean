/- Small words on vocabularies' boxes and rows; values of what makes a vocabulary of rows. Walks nothing. -/
import Derived.Test.YtnadelmbkaoeeaaGreatDoorK3
import Derived.RegionTactic
import Derived.Deep.DeepCutAuto
import Derived.Laws.ResultCell
import Derived.Test.YtnadelmbkaoeeaaGreatDoorK2
import Derived.Test.YtnadelmbkaoeeaaGreatDoorK1
import Derived.Lib.SmallJoins
import Derived.Deep.Matrix
import Derived.Deep.Slices
import Derived.Deep.Fields
import Derived.ChangeSame
import Derived.LaidMore
import Derived.Stop.Joined
import Derived.ProofKit
import Derived.DeepKeys4
import Derived.Maps.Own
namespace Go.Proofs.YtnadelmbkaoeeaaGreatDoor
open Go.RowKit
set_option linter.unusedVariables false

theorem infoStr9 : (Tryz.prog.info? 9).map (fun i => (i.zero, i.size, i.bytes)) = some (some (.string ByteArray.empty), 1, 16) := by kernel_rfl
theorem infoInt3 : (Tryz.prog.info? 3).map (fun i => (i.zero, i.size, i.bytes)) = some (some (.int .i64 0), 1, 8) := by kernel_rfl
abbrev OwnT (w : World) (base : Nat) (v : Value) (T : List ByteArray) : Prop := w.ownsRow base 9 1 v T.length (T.map .string)
theorem run_makeN {P : Program} (t e : TypeId) (i : TypeInfo) (z : Value) (ht : P.underlying t = some (.slice e)) (hi : P.info? e = some i) (hz : i.zero = some z) (hs : i.size = 1)
    (n : Nat) (hbytes : i.bytes * n ≤ 281474976710656) (h63 : n ≤ 9223372036854775807) (w : World) :
    (Instr.makeSlice t (.int .i64 (n : Int)) (.int .i64 (n : Int))).run P w = .ok (.slice (some ⟨w.heap.size, 0, none⟩) n n) (w.alloc (.cells (madeCells z.cells n) e)) := by
  have hb : (i.bytes : Int) * (n : Int) ≤ 281474976710656 := by
    have h : ((i.bytes * n : Nat) : Int) ≤ 281474976710656 := by omega
    rwa [Int.natCast_mul] at h
  have hr := run_make (P := P) w t e i z ht hi hz .i64 .i64 n n (by omega) (by omega) hb (by omega)
  simp only [Int.toNat_natCast, hs, Nat.mul_one] at hr
  exact hr
theorem ownT_made (w : World) (n : Nat) (hm : n ≤ maxLen) : OwnT (w.alloc (.cells (madeCells (Value.string ByteArray.empty).cells n) 9)) w.heap.size (.slice (some ⟨w.heap.size, 0, none⟩) n n) (List.replicate n ByteArray.empty) := by
  have e : (madeCells (Value.string ByteArray.empty).cells n) = (List.replicate n (Value.string ByteArray.empty)).toArray := by
    apply Array.ext'
    exact toList_madeCells_one _ n
  rw [e]
  refine ⟨by simp, .inr ⟨w.heap.size, n, _, by simp, Nat.le_refl _, heap_alloc_new w _, by simp, hm, by simp, ?_⟩⟩
  simp
theorem ownI_made (w : World) (n : Nat) (hm : n ≤ maxLen) : Own (w.alloc (.cells (madeCells (Value.int .i64 0).cells n) 3)) w.heap.size (.slice (some ⟨w.heap.size, 0, none⟩) n n) (List.replicate n 0) := by
  have e : (madeCells (Value.int .i64 0).cells n) = (List.replicate n (Value.int .i64 0)).toArray := by
    apply Array.ext'
    exact toList_madeCells_one _ n
  rw [e]
  refine ⟨by simp, .inr ⟨w.heap.size, n, _, by simp, Nat.le_refl _, heap_alloc_new w _, by simp, hm, by simp, ?_⟩⟩
  simp
theorem OwnT.mono {w : World} {base base' : Nat} {v : Value} {L : List ByteArray} (h : OwnT w base v L) (hb : base' ≤ base) : OwnT w base' v L := by
  obtain ⟨h1, h2⟩ := h
  refine ⟨h1, ?_⟩
  rcases h2 with h2 | ⟨g, cap, cur, hv, hg, r⟩
  · exact .inl h2
  · exact .inr ⟨g, cap, cur, hv, by omega, r⟩
theorem OwnT.below {w w' : World} {base : Nat} {v : Value} {L : List ByteArray} (h : OwnT w base v L) (hb : Below w.heap.size w w') : OwnT w' base v L :=
  own_stay h fun g hg => hb.block g (World.ownsRow.lt h g hg).2
theorem Mg.enc_one (x : Mg) : ∀ v ∈ x.enc, v.oneCell' = true := by
  intro v hv
  simp [Mg.enc] at hv
  rcases hv with rfl | rfl | rfl | rfl <;> rfl
theorem Sp.enc_one (x : Sp) : ∀ v ∈ x.enc, v.oneCell' = true := by
  intro v hv
  simp [Sp.enc] at hv
  rcases hv with rfl | rfl <;> rfl
theorem infoSp : (Tryz.prog.info? 82).map (fun i => (i.zero.map (·.cells.size), i.size, i.bytes)) = some (some 2, 2, 24) := by kernel_rfl
theorem infoMg : (Tryz.prog.info? 140).map (fun i => (i.zero.map (·.cells.size), i.size, i.bytes)) = some (some 4, 4, 32) := by kernel_rfl
theorem info_row {t : TypeId} {k m b : Nat} (h : (Tryz.prog.info? t).map (fun i => (i.zero.map (·.cells.size), i.size, i.bytes)) = some (some k, m, b)) : ∃ i z, Tryz.prog.info? t = some i ∧ i.zero = some z ∧ i.size = m ∧ i.bytes = b ∧ z.cells.size = k := by
  cases hi : Tryz.prog.info? t with
  | none => rw [hi] at h; cases h
  | some i =>
    rw [hi] at h
    simp only [Option.map_some, Option.some.injEq, Prod.mk.injEq] at h
    obtain ⟨h1, h2, h3⟩ := h
    cases hz : i.zero with
    | none => rw [hz] at h1; cases h1
    | some z => rw [hz] at h1; exact ⟨i, z, rfl, hz, h2, h3, by simpa using h1⟩
theorem ownF_slice {α : Type} {enc : α → List Value} {s : Nat} {t : TypeId} {w : World} {base n cap : Nat} {ao : Option Addr} {L : List α} (h : OwnF enc s t w base (.slice ao n cap) L) : SlF s w ao n cap (flat enc L) := by
  obtain ⟨a, c, e, hs⟩ := h.sl
  simp only [Value.slice.injEq] at e
  obtain ⟨rfl, h1, rfl⟩ := e
  rw [h1]; exact hs
theorem ownF_ltg {α : Type} {enc : α → List Value} {s : Nat} {t : TypeId} {w : World} {base : Nat} {v : Value} {L : List α} (h : OwnF enc s t w base v L) : ∀ k, v.ownBlock = some k → base ≤ k ∧ k < w.heap.size := World.ownsRow.lt h
theorem boxf {w : World} {g : Nat} {x y z : Value} {t : TypeId} (h : w.heap[g]? = some (.cells #[x, y, z] t)) : (∀ o, w.frozen? ⟨g, o, none⟩ = false) := by
  intro o
  simp [World.frozen?, h]
theorem heap_set3 (w : World) (g : Nat) (x y z : Value) {q : Nat} (h : q ≠ g) : (((w.setCell ⟨g, 0, none⟩ x).setCell ⟨g, 1, none⟩ y).setCell ⟨g, 2, none⟩ z).heap[q]? = w.heap[q]? := by
  simp [World.setCell, Array.getElem?_modify, Ne.symm h]
def noVd : Vd := ⟨none, 0, 0, none, 0, 0, none, 0, 0⟩
theorem ownT_slice {w : World} {base : Nat} {v : Value} {T : List ByteArray} (h : OwnT w base v T) : ∃ ao cap, v = .slice ao T.length cap ∧ SlS w ao T.length cap T := Sl.of_own h
def GoodVoc (R : List Rw) (S : List Sp) : Prop := OkRows R S ∧ May (vocOf R S)
def noVc : Vc := ⟨[], [], []⟩
open Classical in
noncomputable def fV (R : List Rw) (S : List Sp) : Vc := if GoodVoc R S then vocOf R S else noVc
open Classical in
noncomputable def fC (R : List Rw) (S : List Sp) : Int := if GoodVoc R S then 0 else 2
theorem fV_yes {R : List Rw} {S : List Sp} (h : GoodVoc R S) : fV R S = vocOf R S := by unfold fV; rw [if_pos h]
theorem fV_no {R : List Rw} {S : List Sp} (h : ¬ GoodVoc R S) : fV R S = noVc := by unfold fV; rw [if_neg h]
theorem fC_yes {R : List Rw} {S : List Sp} (h : GoodVoc R S) : fC R S = 0 := by unfold fC; rw [if_pos h]
theorem fC_no {R : List Rw} {S : List Sp} (h : ¬ GoodVoc R S) : fC R S = 2 := by unfold fC; rw [if_neg h]
theorem noVoc (w : World) : VocR w noVd noVc := ⟨Sl.none, SlF.nothing _, SlF.nothing _⟩

end Go.Proofs.YtnadelmbkaoeeaaGreatDoor

/- Walks: slices.Compare, slices.Equal of ints; the index's comparisons; what begins with what. -/
namespace Go.Proofs.YtnadelmbkaoeeaaGreatDoor
open Go.RowKit
set_option linter.unusedVariables false

theorem cmpL_cons (a : Int) (X Y : List Int) : cmpL (a :: X) (a :: Y) = cmpL X Y := by
  unfold cmpL
  simp
theorem cmpL_app (P X Y : List Int) : cmpL (P ++ X) (P ++ Y) = cmpL X Y := by
  induction P with
  | nil => rfl
  | cons a P ih => rw [List.cons_append, List.cons_append, cmpL_cons, ih]
theorem cmpL_at {A B : List Int} {k : Nat} (h : A.take k = B.take k) : cmpL A B = cmpL (A.drop k) (B.drop k) := by
  have e1 := List.take_append_drop k A
  have e2 := List.take_append_drop k B
  conv => lhs; rw [← e1, ← e2, h]
  exact cmpL_app _ _ _
theorem cmpL_head {a b : Int} (X Y : List Int) (h : a ≠ b) : cmpL (a :: X) (b :: Y) = cmpI a b := by
  unfold cmpL cmpI
  by_cases h1 : a < b
  · rw [if_pos h1, if_pos (List.cons_lt_cons_iff.2 (.inl h1))]
  · rw [if_neg h1, if_pos (show b < a by omega), if_neg (fun h2 => by rcases List.cons_lt_cons_iff.1 h2 with h3 | ⟨h3, _⟩ <;> omega), if_neg (fun h2 => by simp at h2; exact h h2.1)]
theorem drop_ix {A : List Int} {k : Nat} (h : k < A.length) : A.drop k = ix A k :: A.drop (k + 1) := by
  rw [List.drop_eq_getElem_cons h]
  congr 1
  have := ix_eq h
  rw [List.getElem?_eq_getElem h] at this
  exact Option.some.inj this
theorem take_ix {A B : List Int} {k : Nat} (h : A.take k = B.take k) (ha : k < A.length) (hb : k < B.length) (e : ix A k = ix B k) : A.take (k + 1) = B.take (k + 1) := by
  rw [← take_snoc ha, ← take_snoc hb, h, e]

set_option maxHeartbeats 1000000 in
set_option maxRecDepth 100000 in
theorem compareL_calls {A B : List Int} {ao bo : Option Addr} {n c m d : Nat} (w : World) (hA : SlI w ao n c A) (hB : SlI w bo m d B) :
    Calls Tryz.prog 49 #[.slice ao n c, .slice bo m d] w fun e w' => e = .returned (.int .i64 (cmpL A B)) ∧ w = w' := by
  have hm1 := Nat.le_trans (Sl.le hA) (Sl.max hA)
  have hm2 := Nat.le_trans (Sl.le hB) (Sl.max hB)
  unfold maxLen at hm1 hm2
  have HA := Lib.hid hA
  have HB := Lib.hid hB
  have HLA := Lib.hid hA.len
  have HLB := Lib.hid hB.len
  clear hA hB
  go_enter Tryz.func49, Tryz.ntmps49
  go_wp2_with (fail)
  go_loop [11] (fun i => ∃ k : Nat, k ≤ n ∧ k ≤ m ∧ i = .int .i64 k ∧ Hid (A.take k = B.take k)) (fun i => n - (intOf i).toNat)
  case atStart => exact ⟨0, Nat.zero_le _, Nat.zero_le _, rfl, Lib.hid (by simp)⟩
  case round =>
    obtain ⟨k, hk, hkm, rfl, HK⟩ := hrel
    by_cases hlt : k < n
    · obtain ⟨b1, o1, hao, hc1⟩ := HA.out.at_ hlt
      subst hao
      by_cases hlm : k < m
      · obtain ⟨b2, o2, hbo, hc2⟩ := HB.out.at_ hlm
        subst hbo
        obtain ⟨x, hx⟩ : ∃ x, ix A k = x := ⟨_, rfl⟩
        obtain ⟨y, hy⟩ : ∃ y, ix B k = y := ⟨_, rfl⟩
        rw [hx] at hc1
        rw [hy] at hc2
        have HX := Lib.hid hx
        have HY := Lib.hid hy
        clear hx hy
        by_cases hxy : x = y
        · have hcx : cmpI x y = 0 := by rw [hxy]; exact cmpI_eq y
          have HK2 : Hid (A.take (k + 1) = B.take (k + 1)) := Lib.hid (take_ix HK.out (by have := HLA.out; omega) (by have := HLB.out; omega) (by rw [HX.out, HY.out]; exact hxy))
          have hcmp := compareI_calls x y w
          rw [hcx] at hcmp
          clear hxy hcx
          go_wp2_with (fail)
          refine hcmp.mono ?_
          rintro e w' ⟨rfl, rfl⟩
          clear hcmp
          go_wp2_with (fail)
          go_round
          case rel => exact ⟨k + 1, by omega, by omega, by go_num, HK2⟩
          case measure => simp [intOf]; omega
        · have HF : Hid (cmpL A B = cmpI x y) := Lib.hid (by
            rw [cmpL_at HK.out, drop_ix (A := A) (k := k) (by have := HLA.out; omega), drop_ix (A := B) (k := k) (by have := HLB.out; omega), HX.out, HY.out]
            exact cmpL_head _ _ hxy)
          have hcne : cmpI x y ≠ 0 := by unfold cmpI; split <;> (try split) <;> omega
          obtain ⟨z, hz⟩ : ∃ z, cmpI x y = z := ⟨_, rfl⟩
          have hcmp := compareI_calls x y w
          rw [hz] at hcmp HF hcne
          have hzn : (z != 0) = true := by simpa using hcne
          clear hxy hz hcne
          go_wp2_with (fail)
          refine hcmp.mono ?_
          rintro e w' ⟨rfl, rfl⟩
          clear hcmp
          go_wp2_with (fail)
          go_ret
          exact ⟨ret_i64 HF.out.symm, rfl⟩
      · obtain rfl : k = m := by omega
        have HF : Hid (cmpL A B = 1) := Lib.hid (by
          rw [cmpL_at HK.out, drop_ix (by have := HLA.out; omega), List.drop_eq_nil_of_le (show B.length ≤ k by have := HLB.out; omega)]
          unfold cmpL
          simp)
        go_wp2_with (fail)
        go_ret
        exact ⟨ret_i64 HF.out.symm, rfl⟩
    · obtain rfl : k = n := by omega
      by_cases hlm : k < m
      · have HF : Hid (cmpL A B = -1) := Lib.hid (by
          rw [cmpL_at HK.out, drop_ix (A := B) (by have := HLB.out; omega), List.drop_eq_nil_of_le (show A.length ≤ k by have := HLA.out; omega)]
          unfold cmpL
          simp)
        have hlm2 : (k : Int) < (m : Int) := by omega
        go_wp2_with (fail)
        go_ret
        exact ⟨ret_i64 HF.out.symm, rfl⟩
      · obtain rfl : k = m := by omega
        have HF : Hid (cmpL A B = 0) := Lib.hid (by
          rw [cmpL_at HK.out, List.drop_eq_nil_of_le (show A.length ≤ k by have := HLA.out; omega), List.drop_eq_nil_of_le (show B.length ≤ k by have := HLB.out; omega)]
          unfold cmpL
          simp)
        go_wp2_with (fail)
        go_ret
        exact ⟨ret_i64 HF.out.symm, rfl⟩

set_option maxHeartbeats 1000000 in
set_option maxRecDepth 100000 in
theorem equalL_calls {A B : List Int} {ao bo : Option Addr} {n c m d : Nat} (w : World) (hA : SlI w ao n c A) (hB : SlI w bo m d B) :
    Calls Tryz.prog 110 #[.slice ao n c, .slice bo m d] w fun e w' => e = .returned (.bool (decide (A = B))) ∧ ∃ q, w' = w.drewN q := by
  have hm1 := Nat.le_trans (Sl.le hA) (Sl.max hA)
  have hm2 := Nat.le_trans (Sl.le hB) (Sl.max hB)
  unfold maxLen at hm1 hm2
  have HA := Lib.hid hA
  have HB := Lib.hid hB
  have HLA := Lib.hid hA.len
  have HLB := Lib.hid hB.len
  clear hA hB
  by_cases hnm : n = m
  · subst hnm
    go_enter Tryz.func110, Tryz.ntmps110
    go_wp2_with (fail)
    go_loopw [13] (fun i wr => ∃ k q : Nat, k ≤ n ∧ i = .int .i64 k ∧ Hid (A.take k = B.take k) ∧ wr = w.drewN q) (fun i _ => n - (intOf i).toNat)
    case atStart => exact ⟨0, 0, Nat.zero_le _, rfl, Lib.hid (by simp), rfl⟩
    case round =>
      obtain ⟨k, q, hk, rfl, HK, rfl⟩ := hrel
      by_cases hlt : k < n
      · obtain ⟨b1, o1, hao, hc1⟩ := HA.out.at_ hlt
        subst hao
        obtain ⟨b2, o2, hbo, hc2⟩ := HB.out.at_ hlt
        subst hbo
        obtain ⟨x, hx⟩ : ∃ x, ix A k = x := ⟨_, rfl⟩
        obtain ⟨y, hy⟩ : ∃ y, ix B k = y := ⟨_, rfl⟩
        rw [hx] at hc1
        rw [hy] at hc2
        have HX := Lib.hid hx
        have HY := Lib.hid hy
        have gk : (k : Int) < (n : Int) := by omega
        clear hx hy
        by_cases hxy : x = y
        · have hb : (x != y) = false := by simpa using hxy
          have hb2 : (x == y) = true := by simpa using hxy
          have HK2 : Hid (A.take (k + 1) = B.take (k + 1)) := Lib.hid (take_ix HK.out (by have := HLA.out; omega) (by have := HLB.out; omega) (by rw [HX.out, HY.out]; exact hxy))
          clear hxy
          go_wp2_with (fail)
          go_quiet (fail)
          go_wp2_with (fail)
          go_roundw
          case rel => exact ⟨k + 1, _, by omega, by go_num, HK2, rfl⟩
          case measure => simp [intOf]; omega
        · have hb : (x != y) = true := by simpa using hxy
          have hb2 : (x == y) = false := by simpa using hxy
          have HF : Hid (decide (A = B) = false) := Lib.hid (by
            rw [decide_eq_false_iff_not]
            intro e
            apply hxy
            rw [← HX.out, ← HY.out, e])
          clear hxy
          go_wp2_with (fail)
          go_quiet (fail)
          go_wp2_with (fail)
          go_ret
          exact ⟨ret_bool HF.out.symm, q + nq, by simp [World.drewN, Nat.add_assoc]⟩
      · obtain rfl : k = n := by omega
        have HF : Hid (decide (A = B) = true) := Lib.hid (by
          rw [decide_eq_true_iff]
          have h := HK.out
          rw [List.take_of_length_le (by have := HLA.out; omega), List.take_of_length_le (by have := HLB.out; omega)] at h
          exact h)
        go_wp2_with (fail)
        go_ret
        exact ⟨ret_bool HF.out.symm, _, rfl⟩
  · have HF : Hid (decide (A = B) = false) := Lib.hid (by
      rw [decide_eq_false_iff_not]
      intro e
      apply hnm
      rw [← HLA.out, ← HLB.out, e])
    have hn1 : ((n : Int) != (m : Int)) = true := by simp; omega
    have hn2 : (n != m) = true := by simpa using hnm
    have hn3 : (n == m) = false := by simpa using hnm
    clear hnm
    go_enter Tryz.func110, Tryz.ntmps110
    go_wp2_with (fail)
    go_ret
    exact ⟨ret_bool HF.out.symm, 0, rfl⟩

set_option maxHeartbeats 1000000 in
set_option maxRecDepth 100000 in
theorem begins_calls {A B : List Int} {ao bo : Option Addr} {n c m d : Nat} (w : World) (hA : SlI w ao n c A) (hB : SlI w bo m d B) :
    Calls Tryz.prog 81 #[.slice ao n c, .slice bo m d] w fun e w' => e = .returned (.bool (begins A B)) ∧ ∃ q, w' = w.drewN q := by
  have hm1 := Nat.le_trans (Sl.le hA) (Sl.max hA)
  have hm2 := Nat.le_trans (Sl.le hB) (Sl.max hB)
  unfold maxLen at hm1 hm2
  have hll := hA.len
  have hlb := hB.len
  by_cases h : m ≤ n
  · have HAm : SlI w ao m c (A.take m) := hA.take h
    have heq := equalL_calls w HAm hB
    have HF : Hid (decide (A.take m = B) = begins A B) := Lib.hid (by
      cases hb : begins A B with
      | true =>
        have := begins_take.1 hb
        rw [hlb] at this
        simpa using this.2
      | false =>
        rw [decide_eq_false_iff_not]
        intro e
        have : begins A B = true := begins_take.2 ⟨by omega, by rw [hlb]; exact e⟩
        rw [hb] at this; cases this)
    rw [HF.out] at heq
    obtain ⟨i0, hi, hz0, hz1, hz2⟩ := info_parts infoInt3
    have HAA := Lib.hid hA
    have hmn : (m : Int) ≤ (n : Int) := by omega
    have hmc : m ≤ c := by have := Sl.le hA; omega
    have hmc2 : (m : Int) ≤ (c : Int) := by omega
    have hmn2 : ¬ (n : Int) < (m : Int) := by omega
    clear hll hlb hA hB HAm
    go_enter Tryz.func81, Tryz.ntmps81
    go_wp2_with (fail)
    refine heq.mono ?_
    rintro e w' ⟨rfl, q, rfl⟩
    clear heq
    go_wp2_with (fail)
    go_ret
    exact ⟨rfl, q, rfl⟩
  · have HF : Hid (begins A B = false) := Lib.hid (by
      cases hb : begins A B with
      | false => rfl
      | true => have := (begins_take.1 hb).1; omega)
    have hmn : ¬ (m : Int) ≤ (n : Int) := by omega
    have hmn2 : (n : Int) < (m : Int) := by omega
    clear hll hlb hA hB
    go_enter Tryz.func81, Tryz.ntmps81
    go_wp2_with (fail)
    go_ret
    exact ⟨ret_bool HF.out.symm, 0, rfl⟩

end Go.Proofs.YtnadelmbkaoeeaaGreatDoor

/- What came in, opened: rows of integers, edits, rows of rows. -/
namespace Go.Proofs.YtnadelmbkaoeeaaGreatDoor
open Go.ChangeShapes Go.WideShapes Go.ChangeAt Go.RowKit Go.Joins Go.Deep
set_option linter.unusedVariables false

/-- An int64. -/
def I64 (x : Int) : Prop := -9223372036854775808 ≤ x ∧ x ≤ 9223372036854775807

theorem I64.of_wf {x : Int} (h : (Lit.int .i64 x).wf = true) : I64 x := by
  simp [Lit.wf, IntKind.min, IntKind.max, IntKind.signed, IntKind.bits] at h
  exact h

section
variable {H : Type} {enc : TypeId × Value → H} {P : Program} {W : World} {held : Bool}

theorem sli_of_trod {t e : TypeId} {fuel : Nat} {v : Value} {y : DataW H × List MemPlace} (ht : P.underlying t = some (.slice e)) (he : P.underlying e = some (.int .i64)) (hc : P.cellsOf e = 1)
    (h : DataW.trod enc P W 0 (fun _ => true) held fuel t [v] = some y) : ∃ ao n c A, v = .slice ao n c ∧ SlI W ao n c A ∧ ∀ x ∈ A, I64 x := by
  rcases open_ints ht he hc h with ⟨hcs, _⟩ | ⟨a, len, cap, zs, hcs, _, hl, hm, hz, _, hcell, hwz⟩
  · simp at hcs
    subst hcs
    exact ⟨none, 0, 0, [], rfl, Sl.none, by simp⟩
  · simp at hcs
    subst hcs
    have hz' : zs.length = cap := by simpa using hz
    refine ⟨some a, len, cap, zs.take len, rfl, ⟨by simp; omega, hl, hm, by simp, fun i u hu => ?_⟩, fun x hx => I64.of_wf (hwz x (List.mem_of_mem_take hx))⟩
    obtain ⟨b, o, sp⟩ := a
    have hi : i < len := by have := (List.getElem?_eq_some_iff.1 hu).1; simp at this; omega
    have h0 := hcell i (by omega)
    have hsp : sp = none ∨ i ≠ 0 := by
      rcases Nat.eq_zero_or_pos i with rfl | hp
      · left
        simpa [Addr.add] using World.cell?_spot h0
      · right; omega
    have hsp0 : sp = none := by
      have h00 := hcell 0 (by omega)
      simpa [Addr.add] using World.cell?_spot h00
    subst hsp0
    refine ⟨b, o, rfl, ?_⟩
    rw [Addr.add_lit] at h0
    rw [h0]
    rw [List.getElem?_map, List.getElem?_take, if_pos hi] at hu
    simp only [List.getD, Option.some.injEq]
    rw [List.getElem?_eq_getElem (by omega)] at hu ⊢
    simpa using hu

theorem sli_open {t e : TypeId} {v : Value} {d : DataW H} {p : List MemPlace} (ht : P.underlying t = some (.slice e)) (he : P.underlying e = some (.int .i64)) (hc : P.cellsOf e = 1)
    {r : Reach} {b0 : Nat} (hv : Value.okWide P W r b0 t v) (h : DataW.Trod enc P W 0 (fun _ => true) held t v d p) : ∃ ao n c A, v = .slice ao n c ∧ SlI W ao n c A ∧ ∀ x ∈ A, I64 x := by
  obtain ⟨a, n, c, rfl⟩ := okWide_slice ht hv
  obtain ⟨fuel, hf⟩ := h
  exact sli_of_trod ht he hc (by simpa [Value.cells] using hf)

theorem rows_open {t e q : TypeId} {v : Value} {d : DataW H} {p : List MemPlace} (ht : P.underlying t = some (.slice e)) (he : P.underlying e = some (.slice q)) (hq : P.underlying q = some (.int .i64))
    (ce : P.cellsOf e = 1) (cq : P.cellsOf q = 1) {r : Reach} {b0 : Nat} (hv : Value.okWide P W r b0 t v) (h : DataW.Trod enc P W 0 (fun _ => true) held t v d p) : ∃ ao n c R, v = .slice ao n c ∧ SlRows W ao n c R := by
  obtain ⟨a, n, c, rfl⟩ := okWide_slice ht hv
  obtain ⟨fuel, hf⟩ := h
  rcases open_int_rows ht he hq ce cq (by simpa [Value.cells] using hf) with ⟨hcs, _⟩ | ⟨a', len, cap, A, L, C, Z, hcs, _, hl, hm, _, hrow⟩
  · simp at hcs
    obtain ⟨rfl, rfl, rfl⟩ := hcs
    exact ⟨_, _, _, [], rfl, rfl, Nat.le_refl _, by unfold maxLen; omega, fun _ => rfl, fun i hi => by omega⟩
  · simp at hcs
    obtain ⟨rfl, rfl, rfl⟩ := hcs
    refine ⟨_, _, _, (List.range n).map fun r => (Z r).take (L r), rfl, by simp, hl, hm, by simp, fun i hi => ?_⟩
    obtain ⟨b, o, sp⟩ := a'
    have hsp0 : sp = none := by
      have h00 := (hrow 0 (by omega)).1
      simpa [Addr.add] using World.cell?_spot h00
    subst hsp0
    obtain ⟨h1, h2, h3, h4, h5, h6, h7⟩ := hrow i (by omega)
    have hrx : rx ((List.range n).map fun r => (Z r).take (L r)) i = (Z i).take (L i) := by simp [rx, List.getD, hi]
    have hlen : ((Z i).take (L i)).length = L i := by simp; omega
    rw [hrx, hlen]
    refine ⟨b, o, A i, C i, rfl, by rw [← h1, Addr.add_lit], ?_⟩
    refine ⟨by simp; omega, h2, h3, h6, fun j u hu => ?_⟩
    have hj : j < L i := by have := (List.getElem?_eq_some_iff.1 hu).1; simp at this; omega
    cases hA : A i with
    | none => have := h6 hA; omega
    | some a2 =>
      obtain ⟨b2, o2, sp2⟩ := a2
      have hc := (h7 _ hA).2
      have hsp2 : sp2 = none := by
        have h00 := hc 0 (by omega)
        simpa [Addr.add] using World.cell?_spot h00
      subst hsp2
      refine ⟨b2, o2, rfl, ?_⟩
      have := hc j (by omega)
      rw [Addr.add_lit] at this
      rw [this]
      rw [List.getElem?_map, List.getElem?_take, if_pos hj] at hu
      simp only [List.getD, Option.some.injEq]
      rw [List.getElem?_eq_getElem (by omega)] at hu ⊢
      simpa using hu

end

theorem cellsInt : Tryz.prog.cellsOf 3 = 1 := by kernel_rfl


end Go.Proofs.YtnadelmbkaoeeaaGreatDoor

/- A slice of structs that came in, opened to a list. Plain lemmas over any program. -/
namespace Go.Proofs.YtnadelmbkaoeeaaGreatDoor
open Go.ChangeShapes Go.WideShapes Go.Deep Go.RowKit
set_option linter.unusedVariables false

section
variable {H : Type} {enc : TypeId × Value → H} {P : Program} {w : World} {base : Nat} {spare : Nat → Bool} {held : Bool}
theorem open_slice_fields {t e : TypeId} {fs : Array Field} {fuel : Nat} {cs : List Value} {x : DataW H × List MemPlace} (ht : P.underlying t = some (.slice e)) (he : P.underlying e = some (.struct fs))
    (hone : oneCellFields P fs = true) (hC : P.cellsOf e = fs.size) (h : DataW.trod enc P w base spare held fuel t cs = some x) :
    (cs = [.slice none 0 0] ∧ x = (.nil, [])) ∨
    ∃ (a : Addr) (len cap m : Nat) (D : Nat → DataW H) (Pl : Nat → List MemPlace), cs = [.slice (some a) len cap] ∧ base ≤ a.block ∧ len ≤ cap ∧ cap ≤ maxLen ∧ m = (if spare a.block then cap else len) ∧
      x = (.slice ((List.range len).map D) ((List.range (m - len)).map fun j => D (len + j)), MemPlace.row a (m * fs.size) ++ (List.range m).flatMap Pl) ∧
      ∀ i, i < m → ∃ (ys : List (DataW H × List MemPlace)) (n : Nat), D i = .agg (ys.map (·.1)) ∧ Pl i = ys.flatMap (·.2) ∧ ys.length = fs.size ∧
        ∀ (j : Nat) (f : Field), fs[j]? = some f → ∃ (v : Value) (y : DataW H × List MemPlace), w.cell? (a.add (i * fs.size + j)) = some v ∧ ys[j]? = some y ∧ DataW.trod enc P w base spare held n f.type [v] = some y := by
  rcases open_slice ht h with h0 | ⟨a, len, cap, m, n, D, Pl, hcs, hb, hl, hm, hmm, hx, hi⟩
  · exact .inl h0
  · refine .inr ⟨a, len, cap, m, D, Pl, hcs, hb, hl, hm, hmm, by rw [hC] at hx; exact hx, fun i him => ?_⟩
    obtain ⟨cs', hc, ht'⟩ := hi i him
    rw [hC] at hc
    obtain ⟨ys, n', hn', hy, hlen, hyl, hf⟩ := DataW.trod_struct he ht'
    obtain ⟨_, hcl, hat⟩ := World.cells?_some hc
    simp only [Prod.mk.injEq] at hy
    refine ⟨ys, n', hy.1, hy.2, hyl, fun j f hj => ?_⟩
    obtain ⟨ho, hk⟩ := hone_of hone j f hj
    have hjl : j < fs.size := (Array.getElem?_eq_some_iff.1 hj).1
    have hcell := hat j hjl
    have hv : cs'[j]? = some (cs'[j]'(by omega)) := List.getElem?_eq_getElem (by omega)
    have h1 := hf j f hj
    rw [ho, hk] at h1
    have hone' : (cs'.drop j).take 1 = [cs'[j]'(by omega)] := by
      rw [List.drop_eq_getElem_cons (by omega)]
      rfl
    rw [hone'] at h1
    have hys : ys[j]? = some (ys[j]'(by omega)) := List.getElem?_eq_getElem (by omega)
    refine ⟨_, _, ?_, hys, h1.trans hys⟩
    rw [← Go.Deep.add_add, hcell, hv]
end

theorem slF_mk {α : Type} {enc : α → List Value} {s n cap : Nat} {w : World} {a : Addr} {R : α → Prop} (hs : ∀ x, (enc x).length = s) (h0 : 0 < s) (hle : n ≤ cap) (hmax : cap ≤ maxLen)
    (h : ∀ i, i < n → ∃ x : α, (∀ j u, (enc x)[j]? = some u → w.cell? (a.add (i * s + j)) = some u) ∧ R x) :
    ∃ L : List α, SlF s w (some a) n cap (flat enc L) ∧ ∀ x ∈ L, R x := by
  classical
  have key : ∀ m, m ≤ n → ∃ L : List α, L.length = m ∧ (∀ i x, L[i]? = some x → ∀ j u, (enc x)[j]? = some u → w.cell? (a.add (i * s + j)) = some u) ∧ ∀ x ∈ L, R x := by
    intro m
    induction m with
    | zero => exact fun _ => ⟨[], rfl, fun i x hx => by simp at hx, fun x hx => by simp at hx⟩
    | succ m ih =>
      intro hm
      obtain ⟨L, hl, h1, h2⟩ := ih (by omega)
      obtain ⟨x, hx1, hx2⟩ := h m (by omega)
      refine ⟨L ++ [x], by simp [hl], fun i y hy => ?_, fun y hy => ?_⟩
      · rcases Nat.lt_or_ge i L.length with h' | h'
        · rw [List.getElem?_append_left h'] at hy
          exact h1 i y hy
        · rw [List.getElem?_append_right h'] at hy
          have : i - L.length = 0 := by
            have := (List.getElem?_eq_some_iff.1 hy).1
            simp at this
            omega
          rw [this] at hy
          simp at hy
          subst hy
          obtain rfl : i = m := by omega
          exact hx1
      · rcases List.mem_append.1 hy with h' | h'
        · exact h2 y h'
        · simp at h'
          subst h'
          exact hx2
  obtain ⟨L, hl, h1, h2⟩ := key n (Nat.le_refl _)
  refine ⟨L, ⟨by rw [flat_len hs, hl], hle, hmax, by simp, fun i u hu => ?_⟩, h2⟩
  have hi : i < n * s := by have := (List.getElem?_eq_some_iff.1 hu).1; rw [flat_len hs, hl] at this; exact this
  have hd : i = i / s * s + i % s := by rw [Nat.mul_comm]; exact (Nat.div_add_mod i s).symm
  have hlt : i / s < n := Nat.div_lt_of_lt_mul (by rw [Nat.mul_comm]; exact hi)
  obtain ⟨x, hx⟩ : ∃ x, L[i / s]? = some x := ⟨L[i / s]'(by rw [hl]; exact hlt), List.getElem?_eq_getElem _⟩
  have hm := Nat.mod_lt i h0
  rw [hd, flat_at hs hx hm] at hu
  have hc := h1 _ x hx _ u hu
  rw [← hd] at hc
  have hsp : a.spot = none := by
    obtain ⟨x0, hx0⟩ : ∃ x, L[0]? = some x := ⟨L[0]'(by have h9 := Nat.lt_of_le_of_lt (Nat.zero_le _) hlt; rw [hl]; exact h9), List.getElem?_eq_getElem _⟩
    obtain ⟨u0, hu0⟩ : ∃ u, (enc x0)[0]? = some u := ⟨(enc x0)[0]'(by rw [hs]; exact h0), List.getElem?_eq_getElem _⟩
    have h00 := h1 0 x0 hx0 0 u0 hu0
    have := World.cell?_spot h00
    simpa [Addr.add] using this
  obtain ⟨b, o, sp⟩ := a
  simp at hsp
  subst hsp
  refine ⟨b, o, rfl, ?_⟩
  rw [Addr.add_lit] at hc
  exact hc

end Go.Proofs.YtnadelmbkaoeeaaGreatDoor

/- How vocabularies, rows, pairs, specials come in. -/
namespace Go.Proofs.YtnadelmbkaoeeaaGreatDoor
open Go.ChangeShapes Go.WideShapes Go.ChangeAt Go.RowKit Go.Joins Go.Deep
set_option linter.unusedVariables false

theorem cellsStr : Tryz.prog.cellsOf 9 = 1 := by kernel_rfl

section
variable {H : Type} {enc : TypeId × Value → H} {W : World} {held : Bool}

theorem flat_str (T : List ByteArray) : flat (fun s : ByteArray => [Value.string s]) T = T.map .string := by
  induction T with
  | nil => rfl
  | cons x T ih => rw [flat_cons, ih]; rfl

theorem sls_of_trod {fuel : Nat} {v : Value} {y : DataW H × List MemPlace} (h : DataW.trod enc Tryz.prog W 0 (fun _ => true) held fuel 22 [v] = some y) :
    ∃ ao n c T, v = .slice ao n c ∧ SlS W ao n c T ∧ ∀ s ∈ T, s.size ≤ maxLen := by
  rcases open_slice1 Tryz.underlying22 cellsStr h with ⟨hcs, _⟩ | ⟨a, len, cap, m, n, V, D, Pl, hcs, _, hl, hm, hmm, _, hi⟩
  · simp at hcs
    subst hcs
    exact ⟨none, 0, 0, [], rfl, Sl.none, by simp⟩
  · simp at hcs
    subst hcs
    simp at hmm
    subst hmm
    obtain ⟨T, hT, hR⟩ := slF_mk (enc := fun s : ByteArray => [Value.string s]) (s := 1) (n := len) (cap := m) (w := W) (a := a) (R := fun s => s.size ≤ maxLen) (fun _ => rfl) (by omega) hl hm (by
      intro i hi2
      obtain ⟨hc, ht⟩ := hi i (by omega)
      obtain ⟨s, es, _, hs⟩ := DataW.trod_string Tryz.underlying9 ht
      simp at es
      refine ⟨s, fun j u hu => ?_, hs⟩
      match j, hu with
      | 0, hu => simp at hu; subst hu; rw [Nat.mul_one, Nat.add_zero, hc, es]
      | j + 1, hu => simp at hu)
    rw [flat_str] at hT
    exact ⟨some a, len, m, T, rfl, ⟨by have := hT.len; omega, hT.le, hT.max, hT.nil, hT.at_⟩, hR⟩

theorem spStruct : ∃ f0 f1 : Field, Tryz.prog.underlying 82 = some (.struct #[f0, f1]) ∧ f0.type = 9 ∧ f1.type = 3 ∧ oneCellFields Tryz.prog #[f0, f1] = true :=
  ⟨_, _, Tryz.underlying82, rfl, rfl, by kernel_rfl⟩
theorem cellsSp : Tryz.prog.cellsOf 82 = 2 := by kernel_rfl
theorem rwStruct : ∃ f0 f1 : Field, Tryz.prog.underlying 104 = some (.struct #[f0, f1]) ∧ f0.type = 9 ∧ f1.type = 3 ∧ oneCellFields Tryz.prog #[f0, f1] = true :=
  ⟨_, _, Tryz.underlying104, rfl, rfl, by kernel_rfl⟩
theorem cellsRw : Tryz.prog.cellsOf 104 = 2 := by kernel_rfl
theorem mgStruct : ∃ f0 f1 f2 f3 : Field, Tryz.prog.underlying 140 = some (.struct #[f0, f1, f2, f3]) ∧ f0.type = 3 ∧ f1.type = 3 ∧ f2.type = 3 ∧ f3.type = 3 ∧ oneCellFields Tryz.prog #[f0, f1, f2, f3] = true :=
  ⟨_, _, _, _, Tryz.underlying140, rfl, rfl, rfl, rfl, by kernel_rfl⟩
theorem cellsMg : Tryz.prog.cellsOf 140 = 4 := by kernel_rfl

theorem sps_of_trod {fuel : Nat} {v : Value} {y : DataW H × List MemPlace} (h : DataW.trod enc Tryz.prog W 0 (fun _ => true) held fuel 24 [v] = some y) :
    ∃ ao n c S, v = .slice ao n c ∧ SlF 2 W ao n c (flat Sp.enc S) ∧ ∀ s ∈ S, s.name.size ≤ maxLen := by
  obtain ⟨f0, f1, hu, e0, e1, hone⟩ := spStruct
  rcases open_slice_fields Tryz.underlying24 hu hone (by rw [cellsSp]; rfl) h with ⟨hcs, _⟩ | ⟨a, len, cap, m, D, Pl, hcs, _, hl, hm, hmm, _, hrow⟩
  · simp at hcs
    subst hcs
    exact ⟨_, _, _, [], rfl, SlF.nothing _, by simp⟩
  · simp at hcs
    subst hcs
    simp at hmm
    subst hmm
    obtain ⟨S, hS, hR⟩ := slF_mk (enc := Sp.enc) (s := 2) (n := len) (cap := m) (w := W) (a := a) (R := fun x => x.name.size ≤ maxLen) Sp.enc_len (by omega) hl hm (by
      intro i hi
      obtain ⟨ys, n', _, _, _, hf⟩ := hrow i (by omega)
      obtain ⟨u0, y0, c0, _, t0⟩ := hf 0 f0 rfl
      obtain ⟨u1, y1, c1, _, t1⟩ := hf 1 f1 rfl
      rw [e0] at t0
      rw [e1] at t1
      obtain ⟨s, es, _, hs⟩ := DataW.trod_string Tryz.underlying9 t0
      obtain ⟨z, ez, _, _⟩ := DataW.trod_int Tryz.underlying3 t1
      simp at es ez
      subst es ez
      refine ⟨⟨s, z⟩, fun j u hu => ?_, hs⟩
      match j, hu with
      | 0, hu => simp [Sp.enc] at hu; subst hu; exact c0
      | 1, hu => simp [Sp.enc] at hu; subst hu; exact c1
      | j + 2, hu => simp [Sp.enc] at hu)
    exact ⟨_, _, _, S, rfl, hS, hR⟩

theorem rws_of_trod {fuel : Nat} {v : Value} {y : DataW H × List MemPlace} (h : DataW.trod enc Tryz.prog W 0 (fun _ => true) held fuel 101 [v] = some y) :
    ∃ ao n c R, v = .slice ao n c ∧ SlF 2 W ao n c (flat Rw.enc R) ∧ ∀ r ∈ R, r.token.size ≤ maxLen := by
  obtain ⟨f0, f1, hu, e0, e1, hone⟩ := rwStruct
  rcases open_slice_fields Tryz.underlying101 hu hone (by rw [cellsRw]; rfl) h with ⟨hcs, _⟩ | ⟨a, len, cap, m, D, Pl, hcs, _, hl, hm, hmm, _, hrow⟩
  · simp at hcs
    subst hcs
    exact ⟨_, _, _, [], rfl, SlF.nothing _, by simp⟩
  · simp at hcs
    subst hcs
    simp at hmm
    subst hmm
    obtain ⟨S, hS, hR⟩ := slF_mk (enc := Rw.enc) (s := 2) (n := len) (cap := m) (w := W) (a := a) (R := fun x => x.token.size ≤ maxLen) Rw.enc_len (by omega) hl hm (by
      intro i hi
      obtain ⟨ys, n', _, _, _, hf⟩ := hrow i (by omega)
      obtain ⟨u0, y0, c0, _, t0⟩ := hf 0 f0 rfl
      obtain ⟨u1, y1, c1, _, t1⟩ := hf 1 f1 rfl
      rw [e0] at t0
      rw [e1] at t1
      obtain ⟨s, es, _, hs⟩ := DataW.trod_string Tryz.underlying9 t0
      obtain ⟨z, ez, _, _⟩ := DataW.trod_int Tryz.underlying3 t1
      simp at es ez
      subst es ez
      refine ⟨⟨s, z⟩, fun j u hu => ?_, hs⟩
      match j, hu with
      | 0, hu => simp [Rw.enc] at hu; subst hu; exact c0
      | 1, hu => simp [Rw.enc] at hu; subst hu; exact c1
      | j + 2, hu => simp [Rw.enc] at hu)
    exact ⟨_, _, _, S, rfl, hS, hR⟩

theorem mgs_of_trod {fuel : Nat} {v : Value} {y : DataW H × List MemPlace} (h : DataW.trod enc Tryz.prog W 0 (fun _ => true) held fuel 23 [v] = some y) :
    ∃ ao n c M, v = .slice ao n c ∧ SlF 4 W ao n c (flat Mg.enc M) := by
  obtain ⟨f0, f1, f2, f3, hu, e0, e1, e2, e3, hone⟩ := mgStruct
  rcases open_slice_fields Tryz.underlying23 hu hone (by rw [cellsMg]; rfl) h with ⟨hcs, _⟩ | ⟨a, len, cap, m, D, Pl, hcs, _, hl, hm, hmm, _, hrow⟩
  · simp at hcs
    subst hcs
    exact ⟨_, _, _, [], rfl, SlF.nothing _⟩
  · simp at hcs
    subst hcs
    simp at hmm
    subst hmm
    obtain ⟨M, hM, _⟩ := slF_mk (enc := Mg.enc) (s := 4) (n := len) (cap := m) (w := W) (a := a) (R := fun _ => True) Mg.enc_len (by omega) hl hm (by
      intro i hi
      obtain ⟨ys, n', _, _, _, hf⟩ := hrow i (by omega)
      obtain ⟨u0, y0, c0, _, t0⟩ := hf 0 f0 rfl
      obtain ⟨u1, y1, c1, _, t1⟩ := hf 1 f1 rfl
      obtain ⟨u2, y2, c2, _, t2⟩ := hf 2 f2 rfl
      obtain ⟨u3, y3, c3, _, t3⟩ := hf 3 f3 rfl
      rw [e0] at t0
      rw [e1] at t1
      rw [e2] at t2
      rw [e3] at t3
      obtain ⟨z0, ez0, _, _⟩ := DataW.trod_int Tryz.underlying3 t0
      obtain ⟨z1, ez1, _, _⟩ := DataW.trod_int Tryz.underlying3 t1
      obtain ⟨z2, ez2, _, _⟩ := DataW.trod_int Tryz.underlying3 t2
      obtain ⟨z3, ez3, _, _⟩ := DataW.trod_int Tryz.underlying3 t3
      simp at ez0 ez1 ez2 ez3
      subst ez0 ez1 ez2 ez3
      refine ⟨⟨z0, z1, z2, z3⟩, fun j u hu => ?_, trivial⟩
      match j, hu with
      | 0, hu => simp [Mg.enc] at hu; subst hu; exact c0
      | 1, hu => simp [Mg.enc] at hu; subst hu; exact c1
      | 2, hu => simp [Mg.enc] at hu; subst hu; exact c2
      | 3, hu => simp [Mg.enc] at hu; subst hu; exact c3
      | j + 4, hu => simp [Mg.enc] at hu)
    exact ⟨_, _, _, M, rfl, hM⟩

theorem cellsVoc : Tryz.prog.cellsOf 26 = 3 := by kernel_rfl

set_option maxRecDepth 100000 in
theorem voc_open {v : Value} {d : DataW H} {p : List MemPlace} {r : Reach} {b0 : Nat}
    (hv : Value.okWide Tryz.prog W r b0 26 v) (h : DataW.Trod enc Tryz.prog W 0 (fun _ => true) held 26 v d p) :
    ∃ dd V, v = Vd.val dd ∧ VocR W dd V ∧ (∀ s ∈ V.tokens, s.size ≤ maxLen) ∧ (∀ s ∈ V.specials, s.name.size ≤ maxLen) := by
  obtain ⟨v0, v1, v2, y0, y1, y2, n, rfl, _, _, h0, h1, h2⟩ := open_agg3 Tryz.underlying26 (by kernel_rfl) cellsVoc hv h
  obtain ⟨ta, tn, tc, T, rfl, hT, hsT⟩ := sls_of_trod h0
  obtain ⟨ma, mn, mc, M, rfl, hM⟩ := mgs_of_trod h1
  obtain ⟨sa, sn, sc, S, rfl, hS, hsS⟩ := sps_of_trod h2
  exact ⟨⟨ta, tn, tc, ma, mn, mc, sa, sn, sc⟩, ⟨T, M, S⟩, rfl, ⟨hT, hM, hS⟩, hsT, hsS⟩

set_option maxRecDepth 100000 in
theorem rws_open {v : Value} {d : DataW H} {p : List MemPlace} {r : Reach} {b0 : Nat}
    (hv : Value.okWide Tryz.prog W r b0 101 v) (h : DataW.Trod enc Tryz.prog W 0 (fun _ => true) held 101 v d p) :
    ∃ ao n c R, v = .slice ao n c ∧ SlF 2 W ao n c (flat Rw.enc R) ∧ ∀ r ∈ R, r.token.size ≤ maxLen := by
  obtain ⟨a, n, c, rfl⟩ := okWide_slice Tryz.underlying101 hv
  obtain ⟨fuel, hf⟩ := h
  exact rws_of_trod (by simpa [Value.cells] using hf)
set_option maxRecDepth 100000 in
theorem sps_open {v : Value} {d : DataW H} {p : List MemPlace} {r : Reach} {b0 : Nat}
    (hv : Value.okWide Tryz.prog W r b0 24 v) (h : DataW.Trod enc Tryz.prog W 0 (fun _ => true) held 24 v d p) :
    ∃ ao n c S, v = .slice ao n c ∧ SlF 2 W ao n c (flat Sp.enc S) ∧ ∀ s ∈ S, s.name.size ≤ maxLen := by
  obtain ⟨a, n, c, rfl⟩ := okWide_slice Tryz.underlying24 hv
  obtain ⟨fuel, hf⟩ := h
  exact sps_of_trod (by simpa [Value.cells] using hf)
end

end Go.Proofs.YtnadelmbkaoeeaaGreatDoor

/- Walks: slices.Clone at strings, merges, ranges. (Printed by gClone.py.) -/
namespace Go.Proofs.YtnadelmbkaoeeaaGreatDoor
open Go.RowKit
set_option linter.unusedVariables false

theorem infoRg : (Tryz.prog.info? 72).map (fun i => (i.zero.map (·.cells.size), i.size, i.bytes)) = some (some 3, 3, 24) := by kernel_rfl
theorem infoSt : (Tryz.prog.info? 9).map (fun i => (i.zero.map (·.cells.size), i.size, i.bytes)) = some (some 1, 1, 16) := by kernel_rfl
def encS (s : ByteArray) : List Value := [.string s]
theorem encS_len (s : ByteArray) : (encS s).length = 1 := rfl
theorem encS_one (x : ByteArray) : ∀ v ∈ encS x, v.oneCell' = true := by
  intro v hv; simp [encS] at hv; subst hv; rfl
theorem flat_encS (T : List ByteArray) : flat encS T = T.map .string := flat_str T
theorem SlS.flat {w : World} {ao : Option Addr} {n c : Nat} {T : List ByteArray} (h : SlS w ao n c T) : SlF 1 w ao n c (flat encS T) :=
  ⟨by rw [flat_encS, List.length_map, h.count]; omega, Sl.le h, Sl.max h, Sl.nil h, fun i u hu => by rw [flat_encS] at hu; exact Sl.at_ h i u hu⟩
theorem SlF.strs {w : World} {ao : Option Addr} {n c : Nat} {T : List ByteArray} (h : SlF 1 w ao n c (Go.Proofs.YtnadelmbkaoeeaaGreatDoor.flat encS T)) : SlS w ao n c T :=
  ⟨by have := h.count encS_len (by omega); rw [List.length_map]; exact this, h.le, h.max, h.nil, fun i u hu => by rw [← flat_encS] at hu; exact h.at_ i u hu⟩

set_option maxHeartbeats 400000 in
theorem cloneStr_nil (c : Nat) (w : World) :
    Calls Tryz.prog 31 #[.slice none 0 c] w fun e w' => ∃ v, e = .returned v ∧ OwnF encS 1 9 w' w.heap.size v [] ∧ Below w.heap.size w w' := by
  have hsn := fun w => Lib.run_eql_slice_nil (P := Tryz.prog) w 22 9 none 0 c 0 0 Tryz.underlying22
  go_enter Tryz.func31, Tryz.ntmps31
  go_wp2
  go_ret
  exact ⟨_, rfl, OwnF.nil _ _, Below.refl _ _⟩
set_option maxHeartbeats 400000 in
theorem cloneStr_some {S : List ByteArray} {ad : Addr} {n c : Nat} (w : World) (hS : SlF 1 w (some ad) n c (flat encS S)) (hn : n ≤ 1048576) :
    Calls Tryz.prog 31 #[.slice (some ad) n c] w fun e w' => ∃ v, e = .returned v ∧ OwnF encS 1 9 w' w.heap.size v S ∧ Below w.heap.size w w' := by
  obtain ⟨i0, z0, hi, hz0, hz1, hz2, hz3⟩ := info_row infoSt
  have hsn := fun w => Lib.run_eql_slice_nil (P := Tryz.prog) w 22 9 (some ad) n c 0 0 Tryz.underlying22
  have hown : OwnF encS 1 9 (w.alloc (.cells #[] 9)) w.heap.size (.slice (some ⟨w.heap.size, 0, .none⟩) 0 0) [] := OwnF.made0 w
  have hA2 := hS.alloc (.cells #[] 9)
  go_enter Tryz.func31, Tryz.ntmps31
  go_wp2_with (at_builtin; go_loud (refine wpList_flat_app rfl _ _ 22 rfl i0 z0 16 Tryz.underlying22 hi hz0 hz1 hz2 hz3 encS_len (by omega) encS_one rfl hown rfl hA2 (by unfold maxLen; simp only [List.length_nil]; omega) (by simp only [List.length_nil]; omega) (by simp) ?_))
  intro v' w' ho hg hb
  go_wp2
  go_ret
  exact ⟨_, rfl, by simpa using ho, (below_alloc w _).trans hb⟩
theorem cloneStr_calls {S : List ByteArray} {ao : Option Addr} {n c : Nat} (w : World) (hS : SlF 1 w ao n c (flat encS S)) (hn : n ≤ 1048576) :
    Calls Tryz.prog 31 #[.slice ao n c] w fun e w' => ∃ v, e = .returned v ∧ OwnF encS 1 9 w' w.heap.size v S ∧ Below w.heap.size w w' := by
  cases ao with
  | some ad => exact cloneStr_some w hS hn
  | none =>
    have hc := hS.nil rfl
    have h0 : n = 0 := by have := hS.le; omega
    subst h0
    have : S = [] := List.eq_nil_of_length_eq_zero (hS.count encS_len (by omega))
    subst this
    exact cloneStr_nil c w

set_option maxHeartbeats 400000 in
theorem cloneMg_nil (c : Nat) (w : World) :
    Calls Tryz.prog 93 #[.slice none 0 c] w fun e w' => ∃ v, e = .returned v ∧ OwnF Mg.enc 4 140 w' w.heap.size v [] ∧ Below w.heap.size w w' := by
  have hsn := fun w => Lib.run_eql_slice_nil (P := Tryz.prog) w 23 140 none 0 c 0 0 Tryz.underlying23
  go_enter Tryz.func93, Tryz.ntmps93
  go_wp2
  go_ret
  exact ⟨_, rfl, OwnF.nil _ _, Below.refl _ _⟩
set_option maxHeartbeats 400000 in
theorem cloneMg_some {S : List Mg} {ad : Addr} {n c : Nat} (w : World) (hS : SlF 4 w (some ad) n c (flat Mg.enc S)) (hn : n ≤ 1048576) :
    Calls Tryz.prog 93 #[.slice (some ad) n c] w fun e w' => ∃ v, e = .returned v ∧ OwnF Mg.enc 4 140 w' w.heap.size v S ∧ Below w.heap.size w w' := by
  obtain ⟨i0, z0, hi, hz0, hz1, hz2, hz3⟩ := info_row infoMg
  have hsn := fun w => Lib.run_eql_slice_nil (P := Tryz.prog) w 23 140 (some ad) n c 0 0 Tryz.underlying23
  have hown : OwnF Mg.enc 4 140 (w.alloc (.cells #[] 140)) w.heap.size (.slice (some ⟨w.heap.size, 0, .none⟩) 0 0) [] := OwnF.made0 w
  have hA2 := hS.alloc (.cells #[] 140)
  go_enter Tryz.func93, Tryz.ntmps93
  go_wp2_with (at_builtin; go_loud (refine wpList_flat_app rfl _ _ 23 rfl i0 z0 32 Tryz.underlying23 hi hz0 hz1 hz2 hz3 Mg.enc_len (by omega) Mg.enc_one rfl hown rfl hA2 (by unfold maxLen; simp only [List.length_nil]; omega) (by simp only [List.length_nil]; omega) (by simp) ?_))
  intro v' w' ho hg hb
  go_wp2
  go_ret
  exact ⟨_, rfl, by simpa using ho, (below_alloc w _).trans hb⟩
theorem cloneMg_calls {S : List Mg} {ao : Option Addr} {n c : Nat} (w : World) (hS : SlF 4 w ao n c (flat Mg.enc S)) (hn : n ≤ 1048576) :
    Calls Tryz.prog 93 #[.slice ao n c] w fun e w' => ∃ v, e = .returned v ∧ OwnF Mg.enc 4 140 w' w.heap.size v S ∧ Below w.heap.size w w' := by
  cases ao with
  | some ad => exact cloneMg_some w hS hn
  | none =>
    have hc := hS.nil rfl
    have h0 : n = 0 := by have := hS.le; omega
    subst h0
    have : S = [] := List.eq_nil_of_length_eq_zero (hS.count Mg.enc_len (by omega))
    subst this
    exact cloneMg_nil c w

set_option maxHeartbeats 400000 in
theorem cloneRg_nil (c : Nat) (w : World) :
    Calls Tryz.prog 32 #[.slice none 0 c] w fun e w' => ∃ v, e = .returned v ∧ OwnF Rg.enc 3 72 w' w.heap.size v [] ∧ Below w.heap.size w w' := by
  have hsn := fun w => Lib.run_eql_slice_nil (P := Tryz.prog) w 27 72 none 0 c 0 0 Tryz.underlying27
  go_enter Tryz.func32, Tryz.ntmps32
  go_wp2
  go_ret
  exact ⟨_, rfl, OwnF.nil _ _, Below.refl _ _⟩
set_option maxHeartbeats 400000 in
theorem cloneRg_some {S : List Rg} {ad : Addr} {n c : Nat} (w : World) (hS : SlF 3 w (some ad) n c (flat Rg.enc S)) (hn : n ≤ 1048576) :
    Calls Tryz.prog 32 #[.slice (some ad) n c] w fun e w' => ∃ v, e = .returned v ∧ OwnF Rg.enc 3 72 w' w.heap.size v S ∧ Below w.heap.size w w' := by
  obtain ⟨i0, z0, hi, hz0, hz1, hz2, hz3⟩ := info_row infoRg
  have hsn := fun w => Lib.run_eql_slice_nil (P := Tryz.prog) w 27 72 (some ad) n c 0 0 Tryz.underlying27
  have hown : OwnF Rg.enc 3 72 (w.alloc (.cells #[] 72)) w.heap.size (.slice (some ⟨w.heap.size, 0, .none⟩) 0 0) [] := OwnF.made0 w
  have hA2 := hS.alloc (.cells #[] 72)
  go_enter Tryz.func32, Tryz.ntmps32
  go_wp2_with (at_builtin; go_loud (refine wpList_flat_app rfl _ _ 27 rfl i0 z0 24 Tryz.underlying27 hi hz0 hz1 hz2 hz3 Rg.enc_len (by omega) Rg.enc_one rfl hown rfl hA2 (by unfold maxLen; simp only [List.length_nil]; omega) (by simp only [List.length_nil]; omega) (by simp) ?_))
  intro v' w' ho hg hb
  go_wp2
  go_ret
  exact ⟨_, rfl, by simpa using ho, (below_alloc w _).trans hb⟩
theorem cloneRg_calls {S : List Rg} {ao : Option Addr} {n c : Nat} (w : World) (hS : SlF 3 w ao n c (flat Rg.enc S)) (hn : n ≤ 1048576) :
    Calls Tryz.prog 32 #[.slice ao n c] w fun e w' => ∃ v, e = .returned v ∧ OwnF Rg.enc 3 72 w' w.heap.size v S ∧ Below w.heap.size w w' := by
  cases ao with
  | some ad => exact cloneRg_some w hS hn
  | none =>
    have hc := hS.nil rfl
    have h0 : n = 0 := by have := hS.le; omega
    subst h0
    have : S = [] := List.eq_nil_of_length_eq_zero (hS.count Rg.enc_len (by omega))
    subst this
    exact cloneRg_nil c w

set_option maxHeartbeats 400000 in
theorem cloneSp_nil (c : Nat) (w : World) :
    Calls Tryz.prog 37 #[.slice none 0 c] w fun e w' => ∃ v, e = .returned v ∧ OwnF Sp.enc 2 82 w' w.heap.size v [] ∧ Below w.heap.size w w' := by
  have hsn := fun w => Lib.run_eql_slice_nil (P := Tryz.prog) w 24 82 none 0 c 0 0 Tryz.underlying24
  go_enter Tryz.func37, Tryz.ntmps37
  go_wp2
  go_ret
  exact ⟨_, rfl, OwnF.nil _ _, Below.refl _ _⟩
set_option maxHeartbeats 400000 in
theorem cloneSp_some {S : List Sp} {ad : Addr} {n c : Nat} (w : World) (hS : SlF 2 w (some ad) n c (flat Sp.enc S)) (hn : n ≤ 1048576) :
    Calls Tryz.prog 37 #[.slice (some ad) n c] w fun e w' => ∃ v, e = .returned v ∧ OwnF Sp.enc 2 82 w' w.heap.size v S ∧ Below w.heap.size w w' := by
  obtain ⟨i0, z0, hi, hz0, hz1, hz2, hz3⟩ := info_row infoSp
  have hsn := fun w => Lib.run_eql_slice_nil (P := Tryz.prog) w 24 82 (some ad) n c 0 0 Tryz.underlying24
  have hown : OwnF Sp.enc 2 82 (w.alloc (.cells #[] 82)) w.heap.size (.slice (some ⟨w.heap.size, 0, .none⟩) 0 0) [] := OwnF.made0 w
  have hA2 := hS.alloc (.cells #[] 82)
  go_enter Tryz.func37, Tryz.ntmps37
  go_wp2_with (at_builtin; go_loud (refine wpList_flat_app rfl _ _ 24 rfl i0 z0 24 Tryz.underlying24 hi hz0 hz1 hz2 hz3 Sp.enc_len (by omega) Sp.enc_one rfl hown rfl hA2 (by unfold maxLen; simp only [List.length_nil]; omega) (by simp only [List.length_nil]; omega) (by simp) ?_))
  intro v' w' ho hg hb
  go_wp2
  go_ret
  exact ⟨_, rfl, by simpa using ho, (below_alloc w _).trans hb⟩
theorem cloneSp_calls {S : List Sp} {ao : Option Addr} {n c : Nat} (w : World) (hS : SlF 2 w ao n c (flat Sp.enc S)) (hn : n ≤ 1048576) :
    Calls Tryz.prog 37 #[.slice ao n c] w fun e w' => ∃ v, e = .returned v ∧ OwnF Sp.enc 2 82 w' w.heap.size v S ∧ Below w.heap.size w w' := by
  cases ao with
  | some ad => exact cloneSp_some w hS hn
  | none =>
    have hc := hS.nil rfl
    have h0 : n = 0 := by have := hS.le; omega
    subst h0
    have : S = [] := List.eq_nil_of_length_eq_zero (hS.count Sp.enc_len (by omega))
    subst this
    exact cloneSp_nil c w

end Go.Proofs.YtnadelmbkaoeeaaGreatDoor

/- How a coder's kit comes in. -/
namespace Go.Proofs.YtnadelmbkaoeeaaGreatDoor
open Go.ChangeShapes Go.WideShapes Go.ChangeAt Go.RowKit Go.Joins Go.Deep
set_option linter.unusedVariables false

theorem rgStruct : ∃ f0 f1 f2 : Field, Tryz.prog.underlying 72 = some (.struct #[f0, f1, f2]) ∧ f0.type = 3 ∧ f1.type = 3 ∧ f2.type = 3 ∧ oneCellFields Tryz.prog #[f0, f1, f2] = true :=
  ⟨_, _, _, Tryz.underlying72, rfl, rfl, rfl, by kernel_rfl⟩
theorem cellsRg : Tryz.prog.cellsOf 72 = 3 := by kernel_rfl
theorem vocStruct : ∃ f0 f1 f2 : Field, Tryz.prog.underlying 26 = some (.struct #[f0, f1, f2]) ∧ (f0.type = 22 ∧ f0.offset = 0) ∧ (f1.type = 23 ∧ f1.offset = 1) ∧ (f2.type = 24 ∧ f2.offset = 2) :=
  ⟨_, _, _, Tryz.underlying26, ⟨rfl, rfl⟩, ⟨rfl, rfl⟩, ⟨rfl, rfl⟩⟩
theorem kitStruct : ∃ f0 f1 f2 f3 f4 : Field, Tryz.prog.underlying 29 = some (.struct #[f0, f1, f2, f3, f4]) ∧ (f0.type = 26 ∧ f0.offset = 0) ∧ (f1.type = 22 ∧ f1.offset = 3) ∧ (f2.type = 3 ∧ f2.offset = 4) ∧ (f3.type = 27 ∧ f3.offset = 5) ∧ (f4.type = 3 ∧ f4.offset = 6) :=
  ⟨_, _, _, _, _, Tryz.underlying29, ⟨rfl, rfl⟩, ⟨rfl, rfl⟩, ⟨rfl, rfl⟩, ⟨rfl, rfl⟩, ⟨rfl, rfl⟩⟩
theorem cellsKit : Tryz.prog.cellsOf 29 = 7 := by kernel_rfl
theorem cellsSlS : Tryz.prog.cellsOf 22 = 1 := by kernel_rfl
theorem cellsSlM : Tryz.prog.cellsOf 23 = 1 := by kernel_rfl
theorem cellsSlP : Tryz.prog.cellsOf 24 = 1 := by kernel_rfl
theorem cellsSlR : Tryz.prog.cellsOf 27 = 1 := by kernel_rfl
theorem cellsI : Tryz.prog.cellsOf 3 = 1 := by kernel_rfl

section
variable {H : Type} {enc : TypeId × Value → H} {W : World} {held : Bool}

theorem rgs_of_trod {fuel : Nat} {v : Value} {y : DataW H × List MemPlace} (h : DataW.trod enc Tryz.prog W 0 (fun _ => true) held fuel 27 [v] = some y) :
    ∃ ao n c T, v = .slice ao n c ∧ SlF 3 W ao n c (flat Rg.enc T) := by
  obtain ⟨f0, f1, f2, hu, e0, e1, e2, hone⟩ := rgStruct
  rcases open_slice_fields Tryz.underlying27 hu hone (by rw [cellsRg]; rfl) h with ⟨hcs, _⟩ | ⟨a, len, cap, m, D, Pl, hcs, _, hl, hm, hmm, _, hrow⟩
  · simp at hcs
    subst hcs
    exact ⟨_, _, _, [], rfl, SlF.nothing _⟩
  · simp at hcs
    subst hcs
    simp at hmm
    subst hmm
    obtain ⟨M, hM, _⟩ := slF_mk (enc := Rg.enc) (s := 3) (n := len) (cap := m) (w := W) (a := a) (R := fun _ => True) Rg.enc_len (by omega) hl hm (by
      intro i hi
      obtain ⟨ys, n', _, _, _, hf⟩ := hrow i (by omega)
      obtain ⟨u0, y0, c0, _, t0⟩ := hf 0 f0 rfl
      obtain ⟨u1, y1, c1, _, t1⟩ := hf 1 f1 rfl
      obtain ⟨u2, y2, c2, _, t2⟩ := hf 2 f2 rfl
      rw [e0] at t0
      rw [e1] at t1
      rw [e2] at t2
      obtain ⟨z0, ez0, _, _⟩ := DataW.trod_int Tryz.underlying3 t0
      obtain ⟨z1, ez1, _, _⟩ := DataW.trod_int Tryz.underlying3 t1
      obtain ⟨z2, ez2, _, _⟩ := DataW.trod_int Tryz.underlying3 t2
      simp at ez0 ez1 ez2
      subst ez0 ez1 ez2
      refine ⟨⟨z0, z1, z2⟩, fun j u hu => ?_, trivial⟩
      match j, hu with
      | 0, hu => simp [Rg.enc] at hu; subst hu; exact c0
      | 1, hu => simp [Rg.enc] at hu; subst hu; exact c1
      | 2, hu => simp [Rg.enc] at hu; subst hu; exact c2
      | j + 3, hu => simp [Rg.enc] at hu)
    exact ⟨_, _, _, M, rfl, hM⟩

theorem array7 {α : Type} {cs : Array α} (h : cs.size = 7) : ∃ c0 c1 c2 c3 c4 c5 c6, cs = #[c0, c1, c2, c3, c4, c5, c6] := by
  obtain ⟨l⟩ := cs
  match l, h with
  | [c0, c1, c2, c3, c4, c5, c6], _ => exact ⟨c0, c1, c2, c3, c4, c5, c6, rfl⟩

set_option maxRecDepth 100000 in
theorem kit_open {v : Value} {d : DataW H} {p : List MemPlace} {r : Reach} {b0 : Nat}
    (hv : Value.okWide Tryz.prog W r b0 29 v) (h : DataW.Trod enc Tryz.prog W 0 (fun _ => true) held 29 v d p) :
    ∃ (dd : Vd) (V : Vc) (no : Option Addr) (nn nc : Nat) (N : List ByteArray) (kind : Int) (to_ : Option Addr) (tn tc : Nat) (T : List Rg) (room : Int),
      v = .agg #[.slice dd.ta dd.tn dd.tc, .slice dd.ma dd.mn dd.mc, .slice dd.sa dd.sn dd.sc, .slice no nn nc, .int .i64 kind, .slice to_ tn tc, .int .i64 room] ∧
      VocR W dd V ∧ (∀ s ∈ V.tokens, s.size ≤ maxLen) ∧ (∀ s ∈ V.specials, s.name.size ≤ maxLen) ∧ (SlS W no nn nc N ∧ ∀ s ∈ N, s.size ≤ maxLen) ∧ SlF 3 W to_ tn tc (flat Rg.enc T) := by
  obtain ⟨f0, f1, f2, f3, f4, hk, ⟨a0, b0'⟩, ⟨a1, b1⟩, ⟨a2, b2⟩, ⟨a3, b3⟩, ⟨a4, b4⟩⟩ := kitStruct
  obtain ⟨g0, g1, g2, hg, ⟨x0, y0⟩, ⟨x1, y1⟩, ⟨x2, y2⟩⟩ := vocStruct
  obtain ⟨cs, rfl, hsz⟩ := okWide_struct hk hv
  rw [cellsKit] at hsz
  obtain ⟨c0, c1, c2, c3, c4, c5, c6, rfl⟩ := array7 hsz
  obtain ⟨fuel, hf⟩ := h
  have hcells : (Value.cells (.agg #[c0, c1, c2, c3, c4, c5, c6])).toList = [c0, c1, c2, c3, c4, c5, c6] := by simp [Value.cells]
  rw [hcells] at hf
  obtain ⟨xs, n, _, _, _, hxl, hfs⟩ := DataW.trod_struct hk hf
  match xs, hxl, hfs with
  | [z0, z1, z2, z3, z4], _, hfs =>
    have t0 := hfs 0 f0 rfl
    have t1 := hfs 1 f1 rfl
    have t2 := hfs 2 f2 rfl
    have t3 := hfs 3 f3 rfl
    have t4 := hfs 4 f4 rfl
    rw [a0, b0', cellsVoc] at t0
    rw [a1, b1, cellsSlS] at t1
    rw [a2, b2, cellsI] at t2
    rw [a3, b3, cellsSlR] at t3
    rw [a4, b4, cellsI] at t4
    simp only [List.drop_zero, List.take_succ_cons, List.take_zero, List.drop_succ_cons, List.getElem?_cons_zero, List.getElem?_cons_succ] at t0 t1 t2 t3 t4
    obtain ⟨ys, m, _, _, _, hyl, hgs⟩ := DataW.trod_struct hg t0
    match ys, hyl, hgs with
    | [q0, q1, q2], _, hgs =>
      have r0 := hgs 0 g0 rfl
      have r1 := hgs 1 g1 rfl
      have r2 := hgs 2 g2 rfl
      rw [x0, y0, cellsSlS] at r0
      rw [x1, y1, cellsSlM] at r1
      rw [x2, y2, cellsSlP] at r2
      simp only [List.drop_zero, List.take_succ_cons, List.take_zero, List.drop_succ_cons, List.getElem?_cons_zero, List.getElem?_cons_succ] at r0 r1 r2
      obtain ⟨ta, tn', tc', T', rfl, hT, hsT⟩ := sls_of_trod r0
      obtain ⟨ma, mn, mc, M, rfl, hM⟩ := mgs_of_trod r1
      obtain ⟨sa, sn, sc, S, rfl, hS, hsS⟩ := sps_of_trod r2
      obtain ⟨no, nn, nc, N, rfl, hN, hsN⟩ := sls_of_trod t1
      obtain ⟨k, ek, _, _⟩ := DataW.trod_int Tryz.underlying3 t2
      obtain ⟨to_, tn, tc, T, rfl, hR⟩ := rgs_of_trod t3
      obtain ⟨ro, er, _, _⟩ := DataW.trod_int Tryz.underlying3 t4
      simp only [List.cons.injEq, and_true] at ek er
      subst ek er
      exact ⟨⟨ta, tn', tc', ma, mn, mc, sa, sn, sc⟩, ⟨T', M, S⟩, no, nn, nc, N, k, to_, tn, tc, T, ro, rfl, ⟨hT, hM, hS⟩, hsT, hsS, ⟨hN, hsN⟩, hR⟩
end

end Go.Proofs.YtnadelmbkaoeeaaGreatDoor

/- Walks: may names be, may a table of classes be? (Printed by gClass.py.) -/
namespace Go.Proofs.YtnadelmbkaoeeaaGreatDoor
open Go.RowKit
set_option linter.unusedVariables false

def TabPost1 (t : List Rg) (w : World) (e : Ending) (w' : World) : Prop := (∃ b, e = .returned (.bool b) ∧ (b = true ↔ MayTab t)) ∧ Below w.heap.size w w'
def NamesPost (N : List ByteArray) (w : World) (e : Ending) (w' : World) : Prop := (∃ b, e = .returned (.bool b) ∧ (b = true ↔ MayNames N)) ∧ Below w.heap.size w w'
theorem bx3 {w : World} {g : Nat} {x y z : Value} {t : TypeId} (h : w.heap[g]? = some (.cells #[x, y, z] t)) : w.cell? ⟨g, 0, none⟩ = some x ∧ w.cell? ⟨g, 1, none⟩ = some y ∧ w.cell? ⟨g, 2, none⟩ = some z := by
  simp [World.cell?, h]

set_option maxHeartbeats 2000000 in
theorem tmayName_calls (s : ByteArray) (hs : s.size ≤ maxLen) (w : World) : Calls Tryz.prog 60 #[.string s] w (NamePost s w) := by
  unfold maxLen at hs
  go_enter Tryz.func60, Tryz.ntmps60
  go_wp2_with (fail)
  go_loop [3, 7] (fun _ i => ∃ k : Nat, k ≤ s.size ∧ i = .int .i64 k ∧ Hid (SignTo s k)) (fun _ i => s.size - (intOf i).toNat)
  case atStart => exact ⟨0, Nat.zero_le _, rfl, Lib.hid (SignTo.zero s)⟩
  case round =>
    obtain ⟨k, hk, rfl, HS⟩ := hrel
    by_cases hlt : k < s.size
    · have hsd : sign s[k] = ((decide (97 ≤ s[k].toNat) && decide (s[k].toNat ≤ 122)) || (decide (48 ≤ s[k].toNat) && decide (s[k].toNat ≤ 57)) || decide (s[k].toNat = 95)) := rfl
      have HSD := Lib.hid hsd
      have hc256 := s[k].toNat_lt
      clear hsd
      by_cases r0 : (s[k].toNat : Int) < 48
      · have g0 : decide ((s[k].toNat : Int) < 97) = true := by simp; omega
        have g1 : decide ((122 : Int) < (s[k].toNat : Int)) = false := by simp; omega
        have g2 : decide ((s[k].toNat : Int) < 48) = true := by simp; omega
        have g3 : decide ((57 : Int) < (s[k].toNat : Int)) = false := by simp; omega
        have g4 : ((s[k].toNat : Int) != 95) = true := by simp; omega
        have HF := Lib.hid (notName_sign hlt (by rw [HSD.out]; simp; omega))
        clear r0
        go_wp2_with (fail)
        go_ret
        exact ⟨⟨_, rfl, HF.out⟩, rfl⟩
      by_cases r1 : (s[k].toNat : Int) ≤ 57
      · have g0 : decide ((s[k].toNat : Int) < 97) = true := by simp; omega
        have g1 : decide ((122 : Int) < (s[k].toNat : Int)) = false := by simp; omega
        have g2 : decide ((s[k].toNat : Int) < 48) = false := by simp; omega
        have g3 : decide ((57 : Int) < (s[k].toNat : Int)) = false := by simp; omega
        have g4 : ((s[k].toNat : Int) != 95) = true := by simp; omega
        have HS2 := Lib.hid (HS.out.next hlt (by rw [HSD.out]; simp; omega))
        clear r0 r1
        go_wp2_with (fail)
        go_round
        case rel => exact ⟨k + 1, by omega, by go_num, HS2⟩
        case measure => simp [intOf]; omega
      by_cases r2 : (s[k].toNat : Int) < 95
      · have g0 : decide ((s[k].toNat : Int) < 97) = true := by simp; omega
        have g1 : decide ((122 : Int) < (s[k].toNat : Int)) = false := by simp; omega
        have g2 : decide ((s[k].toNat : Int) < 48) = false := by simp; omega
        have g3 : decide ((57 : Int) < (s[k].toNat : Int)) = true := by simp; omega
        have g4 : ((s[k].toNat : Int) != 95) = true := by simp; omega
        have HF := Lib.hid (notName_sign hlt (by rw [HSD.out]; simp; omega))
        clear r0 r1 r2
        go_wp2_with (fail)
        go_ret
        exact ⟨⟨_, rfl, HF.out⟩, rfl⟩
      by_cases r3 : (s[k].toNat : Int) = 95
      · have g0 : decide ((s[k].toNat : Int) < 97) = true := by simp; omega
        have g1 : decide ((122 : Int) < (s[k].toNat : Int)) = false := by simp; omega
        have g2 : decide ((s[k].toNat : Int) < 48) = false := by simp; omega
        have g3 : decide ((57 : Int) < (s[k].toNat : Int)) = true := by simp; omega
        have g4 : ((s[k].toNat : Int) != 95) = false := by simp; omega
        have HS2 := Lib.hid (HS.out.next hlt (by rw [HSD.out]; simp; omega))
        clear r0 r1 r2 r3
        go_wp2_with (fail)
        go_round
        case rel => exact ⟨k + 1, by omega, by go_num, HS2⟩
        case measure => simp [intOf]; omega
      by_cases r4 : (s[k].toNat : Int) < 97
      · have g0 : decide ((s[k].toNat : Int) < 97) = true := by simp; omega
        have g1 : decide ((122 : Int) < (s[k].toNat : Int)) = false := by simp; omega
        have g2 : decide ((s[k].toNat : Int) < 48) = false := by simp; omega
        have g3 : decide ((57 : Int) < (s[k].toNat : Int)) = true := by simp; omega
        have g4 : ((s[k].toNat : Int) != 95) = true := by simp; omega
        have HF := Lib.hid (notName_sign hlt (by rw [HSD.out]; simp; omega))
        clear r0 r1 r2 r3 r4
        go_wp2_with (fail)
        go_ret
        exact ⟨⟨_, rfl, HF.out⟩, rfl⟩
      by_cases r5 : (s[k].toNat : Int) ≤ 122
      · have g0 : decide ((s[k].toNat : Int) < 97) = false := by simp; omega
        have g1 : decide ((122 : Int) < (s[k].toNat : Int)) = false := by simp; omega
        have g2 : decide ((s[k].toNat : Int) < 48) = false := by simp; omega
        have g3 : decide ((57 : Int) < (s[k].toNat : Int)) = true := by simp; omega
        have g4 : ((s[k].toNat : Int) != 95) = true := by simp; omega
        have HS2 := Lib.hid (HS.out.next hlt (by rw [HSD.out]; simp; omega))
        clear r0 r1 r2 r3 r4 r5
        go_wp2_with (fail)
        go_round
        case rel => exact ⟨k + 1, by omega, by go_num, HS2⟩
        case measure => simp [intOf]; omega
      have g0 : decide ((s[k].toNat : Int) < 97) = false := by simp; omega
      have g1 : decide ((122 : Int) < (s[k].toNat : Int)) = true := by simp; omega
      have g2 : decide ((s[k].toNat : Int) < 48) = false := by simp; omega
      have g3 : decide ((57 : Int) < (s[k].toNat : Int)) = true := by simp; omega
      have g4 : ((s[k].toNat : Int) != 95) = true := by simp; omega
      have HF := Lib.hid (notName_sign hlt (by rw [HSD.out]; simp; omega))
      clear r0 r1 r2 r3 r4 r5
      go_wp2_with (fail)
      go_ret
      exact ⟨⟨_, rfl, HF.out⟩, rfl⟩
    · have HA := Lib.hid (HS.out.all hlt)
      by_cases hz : s.size = 0
      · obtain ⟨e1, e2, e3⟩ := strE_yes hz
        have HF := Lib.hid (notName_size (s := s) (by omega))
        go_wp2_with (fail)
        go_ret
        exact ⟨⟨_, rfl, HF.out⟩, rfl⟩
      · obtain ⟨e1, e2, e3⟩ := strE_no hz
        by_cases h24 : (s.size : Int) ≤ 24
        · have HF : Hid (MayName s) := Lib.hid ⟨HA.out, by omega, by omega⟩
          have h24' : s.size ≤ 24 := by omega
          go_wp2_with (fail)
          go_ret
          exact ⟨⟨_, rfl, (fun _ => HF.out), (fun _ => by simp <;> omega)⟩, rfl⟩
        · have HF := Lib.hid (notName_size (s := s) (by omega))
          have h24' : ¬ s.size ≤ 24 := by omega
          go_wp2_with (fail)
          go_ret
          exact ⟨⟨_, rfl, by simpa [h24'] using HF.out⟩, rfl⟩

set_option maxHeartbeats 2000000 in
set_option maxRecDepth 100000 in
theorem classMay_calls {t : List Rg} {to_ : Option Addr} {tn tc : Nat} (w : World) (hR : SlF 3 w to_ tn tc (flat Rg.enc t)) :
    Calls Tryz.prog 35 #[.slice to_ tn tc] w (TabPost1 t w) := by
  have hm := Nat.le_trans hR.le hR.max
  unfold maxLen at hm
  have HL := Lib.hid (hR.count Rg.enc_len (by omega))
  have HR := Lib.hid hR
  clear hR
  go_enter Tryz.func35, Tryz.ntmps35
  go_wp2_with (fail)
  go_loopw [7] (fun i wr => ∃ k : Nat, k ≤ tn ∧ i = .int .i64 k ∧ Hid (TabTo t k) ∧ Below w.heap.size w wr) (fun i _ => tn - (intOf i).toNat)
  case atStart => exact ⟨0, Nat.zero_le _, rfl, Lib.hid (TabTo.zero t), Below.refl _ _⟩
  case round =>
    obtain ⟨k, hk, rfl, HT, hb⟩ := hrel
    have HB := Lib.hid hb
    clear hb
    by_cases hlt : k < tn
    · have hkT : k < t.length := by have := HL.out; omega
      obtain ⟨b, of, rfl, hce⟩ := (HR.out.below HB.out).elem Rg.enc_len (by omega) (rg_eq hkT)
      obtain ⟨⟨lo, hi, cl⟩, hseq⟩ : ∃ m, rg t k = m := ⟨_, rfl⟩
      rw [hseq] at hce
      have d0 := hce 0 _ rfl
      have d1 := hce 1 _ rfl
      have d2 := hce 2 _ rfl
      rw [Nat.add_zero] at d0
      simp only at d0 d1 d2
      have HRK := Lib.hid hseq
      obtain ⟨wx, hwx⟩ : ∃ wx, wr.alloc (.cells #[.int .i64 lo, .int .i64 hi, .int .i64 cl] 72) = wx := ⟨_, rfl⟩
      have HBX : Hid (Below w.heap.size w wx) := Lib.hid (by rw [← hwx]; exact HB.out.alloc HB.out.size _)
      have hxx : wx.heap[wr.heap.size]? = some (.cells #[.int .i64 lo, .int .i64 hi, .int .i64 cl] 72) := by rw [← hwx]; exact heap_alloc_new wr _
      obtain ⟨x0, x1, x2⟩ := bx3 hxx
      have HWX := Lib.hid hwx
      clear hce hseq hwx hxx
      by_cases r0 : lo < 0
      · have g0 : decide (lo < 0) = true := by simpa using r0
        have HF := Lib.hid (notTab_ok hkT (by rw [HRK.out]; unfold OkRg; simp only; omega))
        clear r0
        go_wp2_with (fail)
        rw [HWX.out]
        go_quiet (fail)
        go_wp2_with (fail)
        go_ret
        exact ⟨⟨_, rfl, HF.out⟩, below_drewN HBX.out _⟩
      have g0 : decide (lo < 0) = false := by simpa using r0
      by_cases r1 : hi < lo
      · have g1 : decide (hi < lo) = true := by simpa using r1
        have HF := Lib.hid (notTab_ok hkT (by rw [HRK.out]; unfold OkRg; simp only; omega))
        clear r0 r1
        go_wp2_with (fail)
        rw [HWX.out]
        go_quiet (fail)
        go_wp2_with (fail)
        go_ret
        exact ⟨⟨_, rfl, HF.out⟩, below_drewN HBX.out _⟩
      have g1 : decide (hi < lo) = false := by simpa using r1
      by_cases r2 : 1114111 < hi
      · have g2 : decide (1114111 < hi) = true := by simpa using r2
        have HF := Lib.hid (notTab_ok hkT (by rw [HRK.out]; unfold OkRg; simp only; omega))
        clear r0 r1 r2
        go_wp2_with (fail)
        rw [HWX.out]
        go_quiet (fail)
        go_wp2_with (fail)
        go_ret
        exact ⟨⟨_, rfl, HF.out⟩, below_drewN HBX.out _⟩
      have g2 : decide (1114111 < hi) = false := by simpa using r2
      by_cases r3 : cl < 1
      · have g3 : decide (cl < 1) = true := by simpa using r3
        have HF := Lib.hid (notTab_ok hkT (by rw [HRK.out]; unfold OkRg; simp only; omega))
        clear r0 r1 r2 r3
        go_wp2_with (fail)
        rw [HWX.out]
        go_quiet (fail)
        go_wp2_with (fail)
        go_ret
        exact ⟨⟨_, rfl, HF.out⟩, below_drewN HBX.out _⟩
      have g3 : decide (cl < 1) = false := by simpa using r3
      by_cases r4 : 4 < cl
      · have g4 : decide (4 < cl) = true := by simpa using r4
        have HF := Lib.hid (notTab_ok hkT (by rw [HRK.out]; unfold OkRg; simp only; omega))
        clear r0 r1 r2 r3 r4
        go_wp2_with (fail)
        rw [HWX.out]
        go_quiet (fail)
        go_wp2_with (fail)
        go_ret
        exact ⟨⟨_, rfl, HF.out⟩, below_drewN HBX.out _⟩
      have g4 : decide (4 < cl) = false := by simpa using r4
      have HOK : Hid (OkRg (rg t k)) := Lib.hid (by rw [HRK.out]; unfold OkRg; simp only; omega)
      clear r0 r1 r2 r3 r4
      by_cases hk0 : k = 0
      · have HT2 := Lib.hid (HT.out.next HOK.out (fun h => by omega))
        have q0 : decide ((0 : Int) < (k : Int)) = false := by simp; omega
        have q1 : decide (0 < k) = false := by simp; omega
        clear hk0
        go_wp2_with (fail)
        rw [HWX.out]
        go_quiet (fail)
        go_wp2_with (fail)
        go_roundw
        case rel => exact ⟨k + 1, by omega, by go_num, HT2, below_drewN HBX.out _⟩
        case measure => simp [intOf]; omega
      obtain ⟨q, rfl⟩ : ∃ q, k = q + 1 := ⟨k - 1, by omega⟩
      obtain ⟨b', of', hao, hcp⟩ := (HR.out.below HBX.out).elem Rg.enc_len (by omega) (rg_eq (t := t) (i := q) (by omega))
      simp only [Option.some.injEq, Addr.mk.injEq, and_true] at hao
      obtain ⟨rfl, rfl⟩ := hao
      obtain ⟨⟨plo, phi, pcl⟩, hpeq⟩ : ∃ m, rg t q = m := ⟨_, rfl⟩
      rw [hpeq] at hcp
      have p1 := hcp 1 _ rfl
      simp only at p1
      have HPK := Lib.hid hpeq
      have q0 : decide ((0 : Int) < ((q + 1 : Nat) : Int)) = true := by simp
      have q1 : decide (0 < q + 1) = true := by simp
      have q2 : IntKind.i64.wrap (((q + 1 : Nat) : Int) - 1) = (q : Int) := by rw [IntKind.wrap_i64]; omega
      have q3 : ((q + 1 : Nat) : Int) - 1 = (q : Int) := by omega
      have q4 : (q : Int) < (tn : Int) := by omega
      have q5 : ((q : Int) + 1 - 1).toNat = q := by omega
      have q6 : (q : Int) + 1 - 1 = (q : Int) := by omega
      clear hcp hpeq hk0
      by_cases hph : lo ≤ phi
      · have g9 : decide (lo ≤ phi) = true := by simpa using hph
        have HF := Lib.hid (notTab_rise (t := t) (k := q + 1) (by omega) hkT (by rw [HRK.out, show q + 1 - 1 = q by omega, HPK.out]; simp only; omega))
        clear hph
        go_wp2_with (fail)
        rw [HWX.out]
        go_quiet (fail)
        go_wp2_with (fail)
        go_ret
        exact ⟨⟨_, rfl, HF.out⟩, below_drewN HBX.out _⟩
      have g9 : decide (lo ≤ phi) = false := by simpa using hph
      have HT2 := Lib.hid (HT.out.next HOK.out (fun _ => by rw [HRK.out, show q + 1 - 1 = q by omega, HPK.out]; simp only; omega))
      clear hph
      go_wp2_with (fail)
      rw [HWX.out]
      go_quiet (fail)
      go_wp2_with (fail)
      go_roundw
      case rel => exact ⟨q + 1 + 1, by omega, by go_num, HT2, below_drewN HBX.out _⟩
      case measure => simp [intOf]; omega
    · by_cases h2 : (tn : Int) ≤ 200
      · have HF : Hid (MayTab t) := Lib.hid (HT.out.all (by have := HL.out; omega) (by have := HL.out; omega))
        have h2' : tn ≤ 200 := by omega
        go_wp2_with (fail)
        go_ret
        exact ⟨⟨_, rfl, (fun _ => HF.out), (fun _ => by simp <;> omega)⟩, HB.out⟩
      · have HF : Hid (¬ MayTab t) := Lib.hid (fun h => by have := h.1; have := HL.out; omega)
        have h2' : ¬ tn ≤ 200 := by omega
        go_wp2_with (fail)
        go_ret
        exact ⟨⟨false, by simp <;> omega, (fun h => by cases h), (fun h => absurd h HF.out)⟩, HB.out⟩

theorem bool_eq {b c : Bool} {p : Prop} (h1 : b = true ↔ p) (h2 : c = true ↔ p) : b = c := by
  cases b <;> cases c <;> simp_all
set_option maxHeartbeats 1000000 in
theorem tmayNames_calls {N : List ByteArray} {no : Option Addr} {nn nc : Nat} (w : World) (hN : SlS w no nn nc N) (hsz : ∀ s ∈ N, s.size ≤ maxLen) :
    Calls Tryz.prog 34 #[.slice no nn nc] w (NamesPost N w) := by
  have hm := Nat.le_trans (Sl.le hN) (Sl.max hN)
  unfold maxLen at hm
  have HL := Lib.hid hN.count
  have HN := Lib.hid hN
  have HSZ := Lib.hid hsz
  clear hN hsz
  go_enter Tryz.func34, Tryz.ntmps34
  go_wp2_with (fail)
  go_loop [7] (fun i => ∃ k : Nat, k ≤ nn ∧ i = .int .i64 k ∧ Hid (NamesTo N k)) (fun i => nn - (intOf i).toNat)
  case atStart => exact ⟨0, Nat.zero_le _, rfl, Lib.hid (NamesTo.zero N)⟩
  case round =>
    obtain ⟨k, hk, rfl, HT⟩ := hrel
    by_cases hlt : k < nn
    · have hkN : k < N.length := by have := HL.out; omega
      obtain ⟨b, o, rfl, hc⟩ := HN.out.cell (tk_eq hkN)
      have HS1 := Lib.hid (HSZ.out _ (tk_mem hkN))
      obtain ⟨s, hs⟩ : ∃ s, tk N k = s := ⟨_, rfl⟩
      rw [hs] at hc HS1
      have HSE := Lib.hid hs
      clear hs
      go_wp2_with (fail)
      refine (tmayName_calls s HS1.out w).mono ?_
      rintro e w' ⟨⟨bb, rfl, hbb⟩, rfl⟩
      cases bb with
      | false =>
        have HF := Lib.hid (notNames_name hkN (by rw [HSE.out]; intro h; have := hbb.2 h; cases this))
        clear hbb
        go_wp2_with (fail)
        go_ret
        exact ⟨⟨_, rfl, HF.out⟩, Below.refl _ _⟩
      | true =>
        have HM := Lib.hid (hbb.1 rfl)
        clear hbb
        by_cases hk0 : k = 0
        · have HT2 := Lib.hid (HT.out.next (by rw [HSE.out]; exact HM.out) (fun h => by omega))
          have q0 : decide ((0 : Int) < (k : Int)) = false := by simp; omega
          have q1 : decide (0 < k) = false := by simp; omega
          clear hk0
          go_wp2_with (fail)
          go_round
          case rel => exact ⟨k + 1, by omega, by go_num, HT2⟩
          case measure => simp [intOf]; omega
        obtain ⟨q, rfl⟩ : ∃ q, k = q + 1 := ⟨k - 1, by omega⟩
        obtain ⟨b', o', hao, hp⟩ := HN.out.cell (tk_eq (T := N) (i := q) (by omega))
        simp only [Option.some.injEq, Addr.mk.injEq, and_true] at hao
        obtain ⟨rfl, rfl⟩ := hao
        obtain ⟨p, hpq⟩ : ∃ p, tk N q = p := ⟨_, rfl⟩
        rw [hpq] at hp
        have HPE := Lib.hid hpq
        have q0 : decide ((0 : Int) < ((q + 1 : Nat) : Int)) = true := by simp
        have q1 : decide (0 < q + 1) = true := by simp
        have q2 : IntKind.i64.wrap (((q + 1 : Nat) : Int) - 1) = (q : Int) := by rw [IntKind.wrap_i64]; omega
        have q3 : ((q + 1 : Nat) : Int) - 1 = (q : Int) := by omega
        have q4 : (q : Int) < (nn : Int) := by omega
        have q6 : (q : Int) + 1 - 1 = (q : Int) := by omega
        clear hpq hk0
        cases hbl : Op.bytesLess p.toList s.toList with
        | false =>
          have HF := Lib.hid (notNames_rise (N := N) (k := q + 1) (by omega) hkN (by rw [HSE.out, show q + 1 - 1 = q by omega, HPE.out]; exact hbl))
          go_wp2_with (fail)
          go_ret
          exact ⟨⟨_, rfl, HF.out⟩, Below.refl _ _⟩
        | true =>
          have HT2 := Lib.hid (HT.out.next (by rw [HSE.out]; exact HM.out) (fun _ => by rw [HSE.out, show q + 1 - 1 = q by omega, HPE.out]; exact hbl))
          go_wp2_with (fail)
          go_round
          case rel => exact ⟨q + 1 + 1, by omega, by go_num, HT2⟩
          case measure => simp [intOf]; omega
    · by_cases h2 : (nn : Int) ≤ 16
      · have HF : Hid (MayNames N) := Lib.hid (HT.out.all (by have := HL.out; omega) (by have := HL.out; omega))
        have h2' : nn ≤ 16 := by omega
        go_wp2_with (fail)
        go_ret
        exact ⟨⟨_, rfl, (fun _ => HF.out), (fun _ => by simp <;> omega)⟩, Below.refl _ _⟩
      · have HF : Hid (¬ MayNames N) := Lib.hid (fun h => by have := h.1; have := HL.out; omega)
        have h2' : ¬ nn ≤ 16 := by omega
        go_wp2_with (fail)
        go_ret
        exact ⟨⟨false, by simp <;> omega, (fun h => by cases h), (fun h => absurd h HF.out)⟩, Below.refl _ _⟩

end Go.Proofs.YtnadelmbkaoeeaaGreatDoor

/- The frame for laws that read the table that the program lays: from what is laid to its cells; the law's lift. -/
namespace Go.Proofs.YtnadelmbkaoeeaaGreatDoor
open Go.ChangeShapes Go.WideShapes Go.ChangeAt Go.RowKit Go.Joins Go.Deep
set_option linter.unusedVariables false

/-- The usual table, as the program lays it. -/
def usR : List Rg := [⟨9, 9, 3⟩, ⟨10, 10, 4⟩, ⟨11, 12, 3⟩, ⟨13, 13, 4⟩, ⟨32, 32, 3⟩, ⟨48, 57, 2⟩, ⟨65, 90, 1⟩, ⟨97, 122, 1⟩, ⟨133, 133, 3⟩, ⟨160, 160, 3⟩, ⟨170, 170, 1⟩, ⟨178, 179, 2⟩, ⟨181, 181, 1⟩, ⟨185, 185, 2⟩, ⟨186, 186, 1⟩, ⟨188, 190, 2⟩, ⟨192, 214, 1⟩, ⟨216, 246, 1⟩, ⟨248, 705, 1⟩, ⟨880, 883, 1⟩, ⟨886, 887, 1⟩, ⟨891, 893, 1⟩, ⟨895, 895, 1⟩, ⟨902, 902, 1⟩, ⟨904, 1013, 1⟩, ⟨1015, 1153, 1⟩, ⟨1162, 1327, 1⟩, ⟨1329, 1366, 1⟩, ⟨1377, 1415, 1⟩, ⟨1488, 1514, 1⟩, ⟨1568, 1610, 1⟩, ⟨1632, 1641, 2⟩, ⟨2308, 2361, 1⟩, ⟨2406, 2415, 2⟩, ⟨3585, 3632, 1⟩, ⟨4256, 4351, 1⟩, ⟨4352, 4680, 1⟩, ⟨5760, 5760, 3⟩, ⟨7680, 8124, 1⟩, ⟨8192, 8202, 3⟩, ⟨8232, 8233, 3⟩, ⟨8239, 8239, 3⟩, ⟨8287, 8287, 3⟩, ⟨8544, 8584, 2⟩, ⟨12288, 12288, 3⟩, ⟨12353, 12438, 1⟩, ⟨12449, 12538, 1⟩, ⟨19968, 40959, 1⟩, ⟨44032, 55203, 1⟩, ⟨65296, 65305, 2⟩, ⟨131072, 173791, 1⟩]
def Rg.datum {H : Type} (r : Rg) : DataW H := .agg [.lit (.int .i64 r.lo), .lit (.int .i64 r.hi), .lit (.int .i64 r.cls)]
/-- The table that a coder goes by. -/
def tabOf (T : List Rg) : List Rg := if T = [] then usR else T
theorem usR_datum : (Rows.laid_footbridge_class_usual : DataW Unit) = .agg (usR.map Rg.datum) := rfl
def laidU : List (String × DataW Unit) := [("footbridge/class.usual", Rows.laid_footbridge_class_usual)]
theorem gUsual : Tryz.prog.globalNamed "footbridge/class.usual" = some 0 := by kernel_rfl
theorem tUsual : (Tryz.prog.globals[0]?).map (·.type) = some 122 := by kernel_rfl
theorem usR_len : usR.length = 51 := rfl

/-- The usual table's cells. -/
def Usu (w : World) : Prop := SlF 3 w (some ⟨0, 0, none⟩) 51 51 (flat Rg.enc usR)
theorem Usu.below {w w' : World} (h : Usu w) (hb : Below w.heap.size w w') : Usu w' := SlF.below h hb

theorem cell_take {l : List Value} {b j : Nat} {v : Value} (h : ((((l.drop b).take 3).drop j).take 1) = [v]) (hj : j < 3) : l[b + j]? = some v := by
  have := congrArg (·[0]?) h
  simp only [List.getElem?_take, List.getElem?_drop, List.getElem?_cons_zero] at this
  simpa [hj] using this

set_option maxRecDepth 100000 in
theorem of_laid {W : World} (h : laidMetH Tryz.prog laidU W) : Usu W := by
  rw [MakeChecks.laidMetH_plain _ _ _ (by kernel_rfl)] at h
  obtain ⟨ps, ⟨g0, t0, cs0, f0, p0, q0, hg0, ht0, hv0, hd0, _, _⟩, _, _⟩ := h
  obtain rfl := Option.some.inj (gUsual.symm.trans hg0)
  obtain rfl := Option.some.inj (tUsual.symm.trans ht0)
  obtain ⟨f0, f1, f2, hu, e0, e1, e2, hone⟩ := rgStruct
  obtain ⟨xs, m1, rfl, hx1, hlen, hn, hel⟩ := DataW.trod_array Tryz.underlying122 hd0
  rw [cellsRg] at hel
  simp only [Prod.mk.injEq] at hx1
  have hx2 : usR.map Rg.datum = xs.map (·.1) := by
    have := hx1.1
    rw [usR_datum] at this
    simpa using this
  have hc : ∀ i, W.cell? ⟨0, i, none⟩ = cs0[i]? := fun i => World.var?_cell gUsual hv0 i
  refine ⟨rfl, Nat.le_refl _, by unfold maxLen; omega, by simp, fun i u hi => ⟨_, _, rfl, ?_⟩⟩
  have hi1 := (List.getElem?_eq_some_iff.1 hi).1
  rw [flat_len Rg.enc_len, usR_len] at hi1
  rw [Nat.zero_add, hc]
  have hq : i / 3 < 51 := by omega
  have hr : usR[i / 3]? = some (rg usR (i / 3)) := rg_eq (by rw [usR_len]; exact hq)
  have hu2 : (Rg.enc (rg usR (i / 3)))[i % 3]? = some u := by
    rw [← flat_at Rg.enc_len hr (Nat.mod_lt _ (by omega)), Nat.div_add_mod' i 3]
    exact hi
  have hxi : xs[i / 3]? = some (xs[i / 3]'(by omega)) := List.getElem?_eq_getElem _
  have hd : (xs[i / 3]'(by omega)).1 = Rg.datum (rg usR (i / 3)) := by
    have := congrArg (·[i / 3]?) hx2
    simp only [List.getElem?_map, hr, hxi, Option.map_some, Option.some.injEq] at this
    exact this.symm
  have ht := hel (i / 3) hq
  rw [hxi] at ht
  obtain ⟨ys, n, _, hy, hyl, hysz, hfs⟩ := DataW.trod_struct hu ht
  rw [hy] at hd
  match ys, hysz, hfs, hd with
  | [y0, y1, y2], _, hfs, hd =>
    simp only [Rg.datum, List.map_cons, List.map_nil, DataW.agg.injEq, List.cons.injEq, and_true] at hd
    obtain ⟨d0, d1, d2⟩ := hd
    have r0 := hfs 0 f0 rfl
    have r1 := hfs 1 f1 rfl
    have r2 := hfs 2 f2 rfl
    obtain ⟨o0, n0⟩ := hone_of hone 0 f0 rfl
    obtain ⟨o1, n1⟩ := hone_of hone 1 f1 rfl
    obtain ⟨o2, n2⟩ := hone_of hone 2 f2 rfl
    rw [o0, n0, e0] at r0
    rw [o1, n1, e1] at r1
    rw [o2, n2, e2] at r2
    obtain ⟨k0, q0, rfl, _⟩ := DataW.trod_int Tryz.underlying3 (show DataW.trod _ _ _ _ _ _ _ _ _ = some y0 from r0)
    obtain ⟨k1, q1, rfl, _⟩ := DataW.trod_int Tryz.underlying3 (show DataW.trod _ _ _ _ _ _ _ _ _ = some y1 from r1)
    obtain ⟨k2, q2, rfl, _⟩ := DataW.trod_int Tryz.underlying3 (show DataW.trod _ _ _ _ _ _ _ _ _ = some y2 from r2)
    simp only [DataW.lit.injEq, Lit.int.injEq, true_and] at d0 d1 d2
    subst d0 d1 d2
    have s0 := cell_take q0
    have s1 := cell_take q1
    have s2 := cell_take q2
    have hi3 : i = i / 3 * 3 + i % 3 := (Nat.div_add_mod' i 3).symm
    have hm3 : i % 3 < 3 := Nat.mod_lt _ (by omega)
    rw [hi3]
    generalize i % 3 = j at *
    match j, hm3, hu2 with
    | 0, _, hu2 => simp [Rg.enc] at hu2; subst hu2; rw [← Array.getElem?_toList]; exact s0 (by omega)
    | 1, _, hu2 => simp [Rg.enc] at hu2; subst hu2; rw [← Array.getElem?_toList]; exact s1 (by omega)
    | 2, _, hu2 => simp [Rg.enc] at hu2; subst hu2; rw [← Array.getElem?_toList]; exact s2 (by omega)

theorem door_met (os : Os) (args : Array Value) : laidMetH Tryz.prog laidU ((World.doorLaid Tryz.prog 400 os).forCall (fun _ _ => 0) ⟨#[], args, []⟩).memory :=
  laidMetH_of_parts3 (fuel := 8) (laidMet_of_run' 8 (by kernel_rfl) (by kernel_rfl)) (by kernel_rfl) (by kernel_rfl)

section
variable {H : Type} {enc : TypeId × Value → H}
/-- A law that reads the laid table: its lift. -/
theorem law_laid {C : Checked} {os : Os} {f : FuncId} {fn : Func} {s : ChangeSpec} {tb : TypeId} {L : List (String × DataW Unit)} (own : ownKnob C.prog.godebug = none) (started : os.Started)
    (noInit : C.prog.inits.idxOf? f = none) (hfn : C.prog.funcs[f]? = some fn) (hl : laidOutB C.prog = true) (hp : ∀ t ∈ fn.params.toList, C.prog.readableRec t = true ∧ t < C.prog.types.size)
    (hr : fn.resultTypes = #[tb]) (hb : C.prog.underlying tb = some .bool) (hv : s.vars = [])
    (hs : ∀ ds : List (DataW H), ds.length = fn.params.size → s.fn H ds = { results := [.lit (.bool true)], args := ds })
    (witness : ∃ (w : World) (tape : Tape) (i : Input), w.os = os ∧ (w.forCall tape i).Shaped C.prog ∧ i.vars = [] ∧ Input.okWide C.prog (w.forCall tape i) .any w.heap.size f i ∧
      ((s.pre enc C.prog fn [] false (w.forCall tape i).memory i.args ∧ laidMetH C.prog L (w.forCall tape i).memory) ∧ sizedMet enc C.prog fn (OpenSpec.ofChange s) false (w.forCall tape i).memory i.args) ∧ ({} : Assume).holds C.prog (lone (Frame.enter C.prog f i.args .normal) [] (w.forCall tape i)))
    (walk : ∀ (W : World) (base : Nat) (args : Array Value) (ds : List (DataW H)) (p : List MemPlace), (∀ (j : Nat) t v, fn.params[j]? = some t → args[j]? = some v → Value.okWide C.prog W .any base t v) →
      DataW.TrodAll enc C.prog W 0 (fun _ => true) true fn.params.toList args.toList ds p → laidMetH C.prog L W → Frame.Law C.prog f args W) :
    ReturnsInHanded {} C os f .any (fun w args => (s.pre enc C.prog fn [] false w args ∧ laidMetH C.prog L w) ∧ sizedMet enc C.prog fn (OpenSpec.ofChange s) false w args) (s.post enc C.prog fn false true false false) := by
  refine returnsInHanded_of_change_and (C := C) (X := fun w _ => laidMetH C.prog L w) (fun _ _ _ hh h => h.of_heap hh) own started noInit hfn witness ?_
  intro W base args ds gs before hval hW _ _ hL _
  exact Frame.law_post hl hp hr hb hv hs hW (walk W base args ds _ hval hW.choose_spec.choose_spec.1 hL)
end

end Go.Proofs.YtnadelmbkaoeeaaGreatDoor

/- Pairs of numbers as the keys of the table of pairs. -/
namespace Go.Proofs.YtnadelmbkaoeeaaGreatDoor
open Go.RowKit Go.Maps Go.ChangeMaps Go.WideMaps Go.WideElems
set_option linter.unusedVariables false

theorem laidAllP : laidOutB Tryz.prog = true := by kernel_rfl
theorem rowTwoP : (153 : TypeId) < Tryz.prog.types.size := of_decide_eq_true (by kernel_rfl)
theorem wideTwoP : (match Tryz.prog.underlying 153 with | some (.array _ _) | some (.struct _) => true | _ => false) = true := by kernel_rfl
set_option maxRecDepth 100000 in
theorem keyedTwoP : Keyed Tryz.prog 153 := Keyed.of_law (deep_law_laid laidAllP (m := 2) (by omega) rowTwoP (by kernel_rfl) wideTwoP)
theorem keyTypeTwoP : Tryz.prog.keyType 153 = true := by kernel_rfl
theorem cellsTwoP : Tryz.prog.cellsOf 153 = 2 := by kernel_rfl

theorem keyOf_twoP {a b : Int} (ha : (Lit.int .i64 a).wf = true) (hb : (Lit.int .i64 b).wf = true) : (keyOf Tryz.prog 153 (.agg #[.int .i64 a, .int .i64 b])).isSome = true := by
  have hf : (Value.agg #[.int .i64 a, .int .i64 b]).formed Tryz.prog 153 = true := by
    simp [Value.formed, Tryz.underlying153, cellsTwoP]
  have hk : ∀ n, (Tryz.prog.keyLits (n + 2) 153 [.int .i64 a, .int .i64 b]).isSome = true := by
    intro n
    have h3 : Tryz.prog.cellsOf 3 = 1 := by kernel_rfl
    unfold Program.keyLits
    simp [Tryz.underlying153, cellsTwoP, h3, Program.keyLits, Tryz.underlying3, ha, hb]
  unfold keyOf
  rw [Tryz.underlying153]
  simp only [keyTypeTwoP, hf, Bool.and_self, if_true]
  obtain ⟨n, hn⟩ : ∃ n, Tryz.prog.types.size + 1 = n + 2 := ⟨Tryz.prog.types.size - 1, by
    have h : (0 : Nat) < Tryz.prog.types.size := Nat.lt_of_le_of_lt (Nat.zero_le _) rowTwoP
    omega⟩
  have h2 := hk n
  rw [← hn] at h2
  show (Option.map _ (Tryz.prog.keyLits (Tryz.prog.types.size + 1) _ [.int .i64 a, .int .i64 b])).isSome = true
  rw [Option.isSome_map]
  exact h2

noncomputable def twoViewP : KeyView Tryz.prog 153 (Int × Int) :=
  KeyView.of (fun p => .agg #[.int .i64 p.1, .int .i64 p.2]) (fun p => (Lit.int .i64 p.1).wf = true ∧ (Lit.int .i64 p.2).wf = true) (fun p h => keyOf_twoP h.1 h.2)
    (fun x y h => by simp at h; exact Prod.ext h.1 h.2) keyedTwoP

end Go.Proofs.YtnadelmbkaoeeaaGreatDoor

/- Walk: the document's put: one more merge in a sorted row. -/
namespace Go.Proofs.YtnadelmbkaoeeaaGreatDoor
open Go.RowKit Go.Sort
set_option linter.unusedVariables false

theorem flat_take {α : Type} {enc : α → List Value} {s : Nat} (hs : ∀ x, (enc x).length = s) : ∀ (L : List α) (k : Nat), flat enc (L.take k) = (flat enc L).take (k * s)
  | [], k => by simp [flat]
  | y :: L, 0 => by simp [flat]
  | y :: L, k + 1 => by
    rw [flat_cons, List.take_succ_cons, flat_cons, flat_take hs L k]
    have e : (k + 1) * s = (enc y).length + k * s := by rw [hs, Nat.add_mul]; omega
    rw [e, List.take_length_add_append]
theorem SlF.take {s : Nat} {w : World} {ao : Option Addr} {n cap : Nat} {xs : List Value} (h : SlF s w ao n cap xs) {k : Nat} (hk : k ≤ n) : SlF s w ao k cap (xs.take (k * s)) := by
  have hl := h.len
  refine ⟨by rw [List.length_take, hl]; exact Nat.min_eq_left (Nat.mul_le_mul_right s hk), by have := h.le; omega, h.max, h.nil, fun i u hu => ?_⟩
  rw [List.getElem?_take] at hu
  split at hu
  · exact h.at_ i u hu
  · cases hu
/-- 'x[:k]'. -/
theorem wpList_flat_high {α : Type} {enc : α → List Value} {s : Nat} {e : TypeId} {P : Program} {w : World} {ops : Array Oper} {rest : List Oper} {o : Oper} {a : Act} {Q : Exit → Act → World → Prop} (hgd : o.guard = .none) (t : TypeId) (x l : Operand)
    (ho : o.op = .slice t x .none (some l) .none) (i : TypeInfo) (ht : P.underlying t = some (.slice e)) (hi : P.info? e = some i) (hs : ∀ x, (enc x).length = s)
    {ao : Option Addr} {n cap : Nat} {L : List α} (hx : a.eval x = .slice ao n cap) (hS : SlF s w ao n cap (flat enc L)) {kl : IntKind} {K : Int} {k : Nat} (hl : a.eval l = .int kl K) (hL : K = (k : Int)) (hk : k ≤ n)
    (h : SlF s w ao k cap (flat enc (L.take k)) → wpList P ops Q rest (a.put o.dst (.slice ao k cap)) w) : wpList P ops Q (o :: rest) a w := by
  subst hL
  have hle := hS.le
  refine wpList_val hgd (v := .slice ao k cap) (w' := w) ?_ (h (by rw [flat_take hs]; exact hS.take hk))
  have hr := run_sliceAt_lh ht hi w ao n cap .none (some (.int kl k)) 0 k (fun w => by simp [Instr.sliceBounds, run_sliceBound, Nat.le_trans hk hle])
  simp only [execOp, ho, hx, hl, Option.map_some, Option.map_none, Sem.run_bind, hr, Result.andThen_ok, Sem.run_pure, Nat.zero_mul]
  congr 3
  cases ao <;> simp [Addr.add]

set_option maxHeartbeats 1000000 in
theorem ahead_g (a b : Mg) (w : World) :
    Calls Tryz.prog 96 #[.agg #[.int .i64 a.left, .int .i64 a.right, .int .i64 a.out, .int .i64 a.order], .agg #[.int .i64 b.left, .int .i64 b.right, .int .i64 b.out, .int .i64 b.order]] w
      fun e w' => e = .returned (.bool (ahead a b)) ∧ ∃ q os, w' = grow (w.drewN q) os := by
  obtain ⟨w1, hw1⟩ : ∃ w1, w.alloc (.cells #[.int .i64 a.left, .int .i64 a.right, .int .i64 a.out, .int .i64 a.order] 140) = w1 := ⟨_, rfl⟩
  obtain ⟨w2, hw2⟩ : ∃ w2, w1.alloc (.cells #[.int .i64 b.left, .int .i64 b.right, .int .i64 b.out, .int .i64 b.order] 140) = w2 := ⟨_, rfl⟩
  have hb1 : Below w.heap.size w w1 := hw1 ▸ below_alloc w _
  have hb2 : Below w1.heap.size w1 w2 := hw2 ▸ below_alloc w1 _
  have hs1 : w1.heap.size = w.heap.size + 1 := by rw [← hw1]; simp
  have ha1 : w1.heap[w.heap.size]? = some (.cells #[.int .i64 a.left, .int .i64 a.right, .int .i64 a.out, .int .i64 a.order] 140) := by rw [← hw1]; exact heap_alloc_new w _
  have ha2 := (hb2.block w.heap.size (by omega)).trans ha1
  have hbb : w2.heap[w1.heap.size]? = some (.cells #[.int .i64 b.left, .int .i64 b.right, .int .i64 b.out, .int .i64 b.order] 140) := by rw [← hw2]; exact heap_alloc_new w1 _
  obtain ⟨a0, a1, _, a3⟩ := box4 ha2
  obtain ⟨b0, b1, _, b3⟩ := box4 hbb
  have HG : Hid (∃ q os, w2 = grow (w.drewN q) os) := Lib.hid ⟨0, #[.cells #[.int .i64 a.left, .int .i64 a.right, .int .i64 a.out, .int .i64 a.order] 140, .cells #[.int .i64 b.left, .int .i64 b.right, .int .i64 b.out, .int .i64 b.order] 140], by
    rw [← hw2, ← hw1, alloc_eq_grow, alloc_eq_grow, grow_grow]; rfl⟩
  have H1 := Lib.hid hw1
  have H2 := Lib.hid hw2
  have hq : ahead a b = decide (a.order < b.order ∨ (a.order = b.order ∧ (a.left < b.left ∨ (a.left = b.left ∧ a.right < b.right)))) := rfl
  have HQ := Lib.hid hq
  rw [hs1] at b0 b1 b3
  clear hb1 hb2 hs1 ha1 ha2 hbb hw1 hw2 hq
  by_cases ho : a.order = b.order
  · have n1 : (a.order != b.order) = false := by simpa using ho
    by_cases hl : a.left = b.left
    · have n2 : (a.left != b.left) = false := by simpa using hl
      have HF : Hid (ahead a b = decide (a.right < b.right)) := Lib.hid (by rw [HQ.out]; simp [ho, hl])
      clear ho hl
      go_enter Tryz.func96, Tryz.ntmps96
      go_wp2_with (fail)
      rw [H1.out, H2.out]
      go_ret
      exact ⟨ret_bool HF.out.symm, HG.out⟩
    · have n2 : (a.left != b.left) = true := by simpa using hl
      have HF : Hid (ahead a b = decide (a.left < b.left)) := Lib.hid (by rw [HQ.out]; simp [ho, hl])
      clear ho hl
      go_enter Tryz.func96, Tryz.ntmps96
      go_wp2_with (fail)
      rw [H1.out, H2.out]
      go_ret
      exact ⟨ret_bool HF.out.symm, HG.out⟩
  · have n1 : (a.order != b.order) = true := by simpa using ho
    have HF : Hid (ahead a b = decide (a.order < b.order)) := Lib.hid (by rw [HQ.out]; simp [ho])
    clear ho
    go_enter Tryz.func96, Tryz.ntmps96
    go_wp2_with (fail)
    rw [H1.out, H2.out]
    go_ret
    exact ⟨ret_bool HF.out.symm, HG.out⟩

def SortedM (M : List Mg) : Prop := M.Pairwise (fun a b => ahead b a = false)
def PutPost (M : List Mg) (m : Mg) (w : World) (e : Ending) (w' : World) : Prop :=
  (∃ v M', e = .returned v ∧ OwnF Mg.enc 4 140 w' w.heap.size v M' ∧ M'.Perm (M ++ [m]) ∧ (SortedM M → SortedM M')) ∧ Below w.heap.size w w'
theorem putM_sorted {M : List Mg} {m : Mg} {k : Nat} (h1 : ∀ j, j < k → ahead (mg M j) m = true) (hk : k ≤ M.length) (h2 : k = M.length ∨ ahead (mg M k) m = false) (hs : SortedM M) : SortedM (M.take k ++ m :: M.drop k) := by
  refine ins_sorted (lt := ahead) (fun a b c => ahead_ntrans) hs (fun j x hj hx => ?_) (fun x hx => ?_)
  · rw [mg_eq (by omega)] at hx
    simp only [Option.some.injEq] at hx
    subst hx
    exact ahead_asym _ _ (h1 j hj)
  · rcases h2 with rfl | h2
    · rw [List.getElem?_eq_none (Nat.le_refl _)] at hx; cases hx
    · have hlt := (List.getElem?_eq_some_iff.1 hx).1
      rw [mg_eq hlt] at hx
      simp only [Option.some.injEq] at hx
      subst hx
      exact h2

set_option maxHeartbeats 4000000 in
set_option maxRecDepth 100000 in
theorem rput_calls {M : List Mg} {mo : Option Addr} {mn mc : Nat} (l r o d : Int) (w : World) (hM : SlF 4 w mo mn mc (flat Mg.enc M)) (hn : mn ≤ 300000) :
    Calls Tryz.prog 85 #[.slice mo mn mc, .agg #[.int .i64 l, .int .i64 r, .int .i64 o, .int .i64 d]] w (PutPost M ⟨l, r, o, d⟩ w) := by
  obtain ⟨i0, z0, hi, hz0, hz1, hz2, hz3⟩ := info_row infoMg
  obtain ⟨w0, hw0⟩ : ∃ w0, w.alloc (.cells #[.int .i64 l, .int .i64 r, .int .i64 o, .int .i64 d] 140) = w0 := ⟨_, rfl⟩
  have hb0 : Below w.heap.size w w0 := hw0 ▸ below_alloc w _
  have hx0 : w0.heap[w.heap.size]? = some (.cells #[.int .i64 l, .int .i64 r, .int .i64 o, .int .i64 d] 140) := by rw [← hw0]; exact heap_alloc_new w _
  have hs0 : w.heap.size < w0.heap.size := by rw [← hw0]; simp
  have HM := Lib.hid (hM.below hb0)
  have HLM := Lib.hid (hM.count Mg.enc_len (by omega))
  have HB0 := Lib.hid hb0
  have HX0 := Lib.hid hx0
  have HW0 := Lib.hid hw0
  clear hM hb0 hx0 hw0
  go_enter Tryz.func85, Tryz.ntmps85
  go_wp2_with (fail)
  rw [HW0.out]
  go_loopw [5] (fun i wr => ∃ k : Nat, k ≤ mn ∧ i = .int .i64 k ∧ Hid (∀ j, j < k → ahead (mg M j) ⟨l, r, o, d⟩ = true) ∧ Below w0.heap.size w0 wr) (fun i _ => mn - (intOf i).toNat)
  case atStart => exact ⟨0, Nat.zero_le _, rfl, Lib.hid (fun j h => by omega), Below.refl _ _⟩
  case round =>
    obtain ⟨k, hk, rfl, HK, hb⟩ := hrel
    have HB := Lib.hid hb
    have hbx := (hb.block w.heap.size hs0).trans HX0.out
    have hlt2 : w.heap.size < wr.heap.size := (Array.getElem?_eq_some_iff.1 hbx).1
    obtain ⟨b0, b1, b2, b3⟩ := box4 hbx
    clear hb hbx
    obtain ⟨w1, rfl⟩ : ∃ w1 : World, w1 = wr := ⟨_, rfl⟩
    by_cases hlt : k < mn
    · have hkM : k < M.length := by have := HLM.out; omega
      obtain ⟨⟨pl, pr, po, pd⟩, hpeq⟩ : ∃ m, mg M k = m := ⟨_, rfl⟩
      obtain ⟨b, of, rfl, hcp⟩ := (HM.out.below HB.out).elem Mg.enc_len (by omega) (mg_eq hkM)
      rw [hpeq] at hcp
      have p0 := hcp 0 _ rfl
      have p1 := hcp 1 _ rfl
      have p2 := hcp 2 _ rfl
      have p3 := hcp 3 _ rfl
      rw [Nat.add_zero] at p0
      simp only at p0 p1 p2 p3
      have hmix := mixedOrders
      have hlt1 : b < w1.heap.size := World.block_lt_of_cell? w1 _ p0
      have r0 := cell_grown (w := w1) hlt1 p0
      have r1 := cell_grown (w := w1) hlt1 p1
      have r2 := cell_grown (w := w1) hlt1 p2
      have r3 := cell_grown (w := w1) hlt1 p3
      have t0 := cell_grown (w := w1) hlt2 b0
      have t1 := cell_grown (w := w1) hlt2 b1
      have t2 := cell_grown (w := w1) hlt2 b2
      have t3 := cell_grown (w := w1) hlt2 b3
      have l1 := fun n os => ld4 (P := Tryz.prog) (r0 n os) (r1 n os) (r2 n os) (r3 n os)
      have l2 := fun n os => ld4 (P := Tryz.prog) (t0 n os) (t1 n os) (t2 n os) (t3 n os)
      have hg0 : decide ((k : Int) < (mn : Int)) = true := by simp; omega
      have hg2 : decide (k < mn) = true := by simpa using hlt
      have hah := fun w => ahead_g ⟨pl, pr, po, pd⟩ ⟨l, r, o, d⟩ w
      have HPE := Lib.hid hpeq
      clear hcp hpeq hkM
      cases hal : ahead ⟨pl, pr, po, pd⟩ ⟨l, r, o, d⟩ with
      | true =>
        rw [hal] at hah
        have HK2 : Hid (∀ j, j < k + 1 → ahead (mg M j) ⟨l, r, o, d⟩ = true) := Lib.hid (fun j hj => by
          by_cases e : j = k
          · subst e; rw [HPE.out]; exact hal
          · exact HK.out j (by omega))
        clear hal
        go_wp2_with (fail)
        refine wp_region_quiet_grown (by assumption) (by kernel_rfl) ?_
        repeat (any_goals (first | go_big_quiet_step ((go_at_call 96; exact Calls.grown_of (hah _))) | quiet_step ((go_at_call 96; exact Calls.grown_of (hah _)))))
        refine wpQuiet_nil ?_
        intro _ hw'
        obtain ⟨⟨nq2, osq2⟩, hw''⟩ := hw'
        subst hw''
        go_wp2_with (fail)
        go_roundw
        case rel => exact ⟨k + 1, by omega, by go_num, HK2, HB.out.trans ((below_grow _ _ _).mono HB.out.size)⟩
        case measure => simp [intOf]; omega
      | false =>
        rw [hal] at hah
        have HST : Hid (k = M.length ∨ ahead (mg M k) ⟨l, r, o, d⟩ = false) := Lib.hid (.inr (by rw [HPE.out]; exact hal))
        clear hal
        go_wp2_with (fail)
        refine wp_region_quiet_grown (by assumption) (by kernel_rfl) ?_
        repeat (any_goals (first | go_big_quiet_step ((go_at_call 96; exact Calls.grown_of (hah _))) | quiet_step ((go_at_call 96; exact Calls.grown_of (hah _)))))
        refine wpQuiet_nil ?_
        intro _ hw'
        obtain ⟨⟨nq2, osq2⟩, hw''⟩ := hw'
        subst hw''
        have HBQ : Hid (Below w0.heap.size w0 (grow (w1.drewN nq2) osq2)) := Lib.hid (HB.out.trans ((below_grow _ _ _).mono HB.out.size))
        have HSO := Lib.hid (putM_sorted HK.out (by have := HLM.out; omega) HST.out)
        have HLT : Hid ((M.take k).length = k) := Lib.hid (by rw [List.length_take, HLM.out]; omega)
        have hbz := HBQ.out.block w.heap.size hs0
        obtain ⟨wq, hwq⟩ : ∃ wq, (grow (w1.drewN nq2) osq2) = wq := ⟨_, rfl⟩
        rw [hwq] at HBQ hbz ⊢
        clear hwq
        have HBX := Lib.hid (hbz.trans HX0.out)
        clear hbz
        have HMa : Hid (SlF 4 (wq.alloc (.cells #[] 140)) (some ⟨b, of, none⟩) mn mc (flat Mg.enc M)) := Lib.hid ((HM.out.below HBQ.out).alloc _)
        have HOa : Hid (OwnF Mg.enc 4 140 (wq.alloc (.cells #[] 140)) wq.heap.size (.slice (some ⟨wq.heap.size, 0, none⟩) 0 0) []) := Lib.hid (OwnF.made0 wq)
        go_wp2_with (first
          | (refine wpList_flat_high (enc := Mg.enc) rfl _ _ _ rfl i0 Tryz.underlying23 hi Mg.enc_len rfl HMa.out rfl (k := k) rfl (by omega) ?_; intro hs1)
          | (at_builtin; go_loud (refine wpList_flat_app rfl _ _ 23 rfl i0 z0 32 Tryz.underlying23 hi hz0 hz1 hz2 hz3 Mg.enc_len (by omega) Mg.enc_one rfl HOa.out rfl hs1 (by unfold maxLen; simp only [List.length_nil]; omega) (by simp only [List.length_nil]; omega) (by simp) ?_)))
        intro v1 wb ho1 hg1 hb1
        have hb1' := (below_alloc wq (.cells #[] 140)).trans hb1
        have HB1 := Lib.hid hb1'
        have hlq : w.heap.size < wq.heap.size := (Array.getElem?_eq_some_iff.1 HBX.out).1
        obtain ⟨b0, b1, b2, b3⟩ := box4 ((hb1'.block w.heap.size hlq).trans HBX.out)
        have HOb : Hid (OwnF Mg.enc 4 140 (wb.alloc (.cells #[.int .i64 l, .int .i64 r, .int .i64 o, .int .i64 d] 140)) wq.heap.size v1 (M.take k)) := Lib.hid (ho1.alloc _)
        have HSb : Hid (SlF 4 (wb.alloc (.cells #[.int .i64 l, .int .i64 r, .int .i64 o, .int .i64 d] 140)) (some ⟨wb.heap.size, 0, none⟩) 1 1 (flat Mg.enc [⟨l, r, o, d⟩])) := Lib.hid (SlF.one Mg.enc_len wb ⟨l, r, o, d⟩ 140 (cs := #[.int .i64 l, .int .i64 r, .int .i64 o, .int .i64 d]) rfl)
        have HSZ : Hid (wq.heap.size ≤ wb.heap.size) := Lib.hid hb1'.size
        clear ho1 hg1 hb1 hb1' hlq
        go_wp2_with (at_builtin; go_loud (refine wpList_flat_app rfl _ _ 23 rfl i0 z0 32 Tryz.underlying23 hi hz0 hz1 hz2 hz3 Mg.enc_len (by omega) Mg.enc_one rfl HOb.out rfl HSb.out (by have := HLT.out; unfold maxLen; omega) (by have := HLT.out; omega) (by have := HSZ.out; simp; omega) ?_))
        intro v2 wc ho2 hg2 hb2
        have hb2' := (HB1.out.alloc HB1.out.size _).trans hb2
        have HB2 := Lib.hid hb2'
        have HMc : Hid (SlF 4 wc (some ⟨b, of, none⟩) mn mc (flat Mg.enc M)) := Lib.hid ((HM.out.below HBQ.out).below hb2')
        have HOc := Lib.hid ho2
        have HSZ2 : Hid (wq.heap.size ≤ wc.heap.size) := Lib.hid hb2'.size
        clear ho2 hg2 hb2 hb2' b0 b1 b2 b3
        go_wp2_with (first
          | (refine wpList_flat_low (enc := Mg.enc) rfl _ _ _ rfl i0 Tryz.underlying23 hi hz1 Mg.enc_len rfl HMc.out rfl (k := k) rfl (by omega) ?_; intro ao' hs3 hao3)
          | (at_builtin; go_loud (refine wpList_flat_app rfl _ _ 23 rfl i0 z0 32 Tryz.underlying23 hi hz0 hz1 hz2 hz3 Mg.enc_len (by omega) Mg.enc_one rfl HOc.out rfl hs3 (by have := HLT.out; unfold maxLen; rw [List.length_append]; simp only [List.length_singleton]; omega) (by have := HLT.out; rw [List.length_append]; simp only [List.length_singleton]; omega) HSZ2.out ?_)))
        intro v3 wd ho3 hg3 hb3
        have HO3 := Lib.hid (ho3.mono (Nat.le_trans HB0.out.size HBQ.out.size))
        have HB3 := Lib.hid (HB0.out.trans ((HBQ.out.trans ((HB2.out.trans hb3).mono HBQ.out.size)).mono HB0.out.size))
        clear ho3 hg3 hb3
        go_wp2_with (fail)
        go_ret
        exact ⟨⟨v3, _, rfl, HO3.out, ins_perm M _ k, HSO.out⟩, HB3.out⟩
    · obtain rfl : k = mn := by omega
      have HST : Hid (k = M.length ∨ ahead (mg M k) ⟨l, r, o, d⟩ = false) := Lib.hid (.inl HLM.out.symm)
      have hmix := mixedOrders
      have hg0 : decide ((k : Int) < (k : Int)) = false := by simp
      have hg2 : decide (k < k) = false := by simp
      have hah := fun w => ahead_g ⟨0, 0, 0, 0⟩ ⟨l, r, o, d⟩ w
      go_wp2_with (fail)
      refine wp_region_quiet_grown (by assumption) (by kernel_rfl) ?_
      repeat (any_goals (first | go_big_quiet_step ((go_at_call 96; exact Calls.grown_of (hah _))) | quiet_step ((go_at_call 96; exact Calls.grown_of (hah _)))))
      refine wpQuiet_nil ?_
      intro _ hw'
      obtain ⟨⟨nq2, osq2⟩, hw''⟩ := hw'
      subst hw''
      have HBQ : Hid (Below w0.heap.size w0 (grow (w1.drewN nq2) osq2)) := Lib.hid (HB.out.trans ((below_grow _ _ _).mono HB.out.size))
      have HSO := Lib.hid (putM_sorted HK.out (by have := HLM.out; omega) HST.out)
      have HLT : Hid ((M.take k).length = k) := Lib.hid (by rw [List.length_take, HLM.out]; omega)
      have hbz := HBQ.out.block w.heap.size hs0
      obtain ⟨wq, hwq⟩ : ∃ wq, (grow (w1.drewN nq2) osq2) = wq := ⟨_, rfl⟩
      rw [hwq] at HBQ hbz ⊢
      clear hwq
      have HBX := Lib.hid (hbz.trans HX0.out)
      clear hbz
      have HMa : Hid (SlF 4 (wq.alloc (.cells #[] 140)) mo k mc (flat Mg.enc M)) := Lib.hid ((HM.out.below HBQ.out).alloc _)
      have HOa : Hid (OwnF Mg.enc 4 140 (wq.alloc (.cells #[] 140)) wq.heap.size (.slice (some ⟨wq.heap.size, 0, none⟩) 0 0) []) := Lib.hid (OwnF.made0 wq)
      go_wp2_with (first
        | (refine wpList_flat_high (enc := Mg.enc) rfl _ _ _ rfl i0 Tryz.underlying23 hi Mg.enc_len rfl HMa.out rfl (k := k) rfl (by omega) ?_; intro hs1)
        | (at_builtin; go_loud (refine wpList_flat_app rfl _ _ 23 rfl i0 z0 32 Tryz.underlying23 hi hz0 hz1 hz2 hz3 Mg.enc_len (by omega) Mg.enc_one rfl HOa.out rfl hs1 (by unfold maxLen; simp only [List.length_nil]; omega) (by simp only [List.length_nil]; omega) (by simp) ?_)))
      intro v1 wb ho1 hg1 hb1
      have hb1' := (below_alloc wq (.cells #[] 140)).trans hb1
      have HB1 := Lib.hid hb1'
      have hlq : w.heap.size < wq.heap.size := (Array.getElem?_eq_some_iff.1 HBX.out).1
      obtain ⟨b0, b1, b2, b3⟩ := box4 ((hb1'.block w.heap.size hlq).trans HBX.out)
      have HOb : Hid (OwnF Mg.enc 4 140 (wb.alloc (.cells #[.int .i64 l, .int .i64 r, .int .i64 o, .int .i64 d] 140)) wq.heap.size v1 (M.take k)) := Lib.hid (ho1.alloc _)
      have HSb : Hid (SlF 4 (wb.alloc (.cells #[.int .i64 l, .int .i64 r, .int .i64 o, .int .i64 d] 140)) (some ⟨wb.heap.size, 0, none⟩) 1 1 (flat Mg.enc [⟨l, r, o, d⟩])) := Lib.hid (SlF.one Mg.enc_len wb ⟨l, r, o, d⟩ 140 (cs := #[.int .i64 l, .int .i64 r, .int .i64 o, .int .i64 d]) rfl)
      have HSZ : Hid (wq.heap.size ≤ wb.heap.size) := Lib.hid hb1'.size
      clear ho1 hg1 hb1 hb1' hlq
      go_wp2_with (at_builtin; go_loud (refine wpList_flat_app rfl _ _ 23 rfl i0 z0 32 Tryz.underlying23 hi hz0 hz1 hz2 hz3 Mg.enc_len (by omega) Mg.enc_one rfl HOb.out rfl HSb.out (by have := HLT.out; unfold maxLen; omega) (by have := HLT.out; omega) (by have := HSZ.out; simp; omega) ?_))
      intro v2 wc ho2 hg2 hb2
      have hb2' := (HB1.out.alloc HB1.out.size _).trans hb2
      have HB2 := Lib.hid hb2'
      have HMc : Hid (SlF 4 wc mo k mc (flat Mg.enc M)) := Lib.hid ((HM.out.below HBQ.out).below hb2')
      have HOc := Lib.hid ho2
      have HSZ2 : Hid (wq.heap.size ≤ wc.heap.size) := Lib.hid hb2'.size
      clear ho2 hg2 hb2 hb2' b0 b1 b2 b3
      go_wp2_with (first
        | (refine wpList_flat_low (enc := Mg.enc) rfl _ _ _ rfl i0 Tryz.underlying23 hi hz1 Mg.enc_len rfl HMc.out rfl (k := k) rfl (by omega) ?_; intro ao' hs3 hao3)
        | (at_builtin; go_loud (refine wpList_flat_app rfl _ _ 23 rfl i0 z0 32 Tryz.underlying23 hi hz0 hz1 hz2 hz3 Mg.enc_len (by omega) Mg.enc_one rfl HOc.out rfl hs3 (by have := HLT.out; unfold maxLen; rw [List.length_append]; simp only [List.length_singleton]; omega) (by have := HLT.out; rw [List.length_append]; simp only [List.length_singleton]; omega) HSZ2.out ?_)))
      intro v3 wd ho3 hg3 hb3
      have HO3 := Lib.hid (ho3.mono (Nat.le_trans HB0.out.size HBQ.out.size))
      have HB3 := Lib.hid (HB0.out.trans ((HBQ.out.trans ((HB2.out.trans hb3).mono HBQ.out.size)).mono HB0.out.size))
      clear ho3 hg3 hb3
      go_wp2_with (fail)
      go_ret
      exact ⟨⟨v3, _, rfl, HO3.out, ins_perm M _ k, HSO.out⟩, HB3.out⟩

end Go.Proofs.YtnadelmbkaoeeaaGreatDoor
