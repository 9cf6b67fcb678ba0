/- Walks: two rows of integers held against each other, copied, cut. -/
import Derived.Test.YtkceidcedkknfaaLib
namespace Go.Proofs.Ytkceidcedkknfaa
open Go.RowKit
set_option linter.unusedVariables false

theorem eq_of_ix {A B : List Int} (hl : A.length = B.length) (h : ∀ i, i < A.length → ix A i = ix B i) : A = B := by
  apply List.ext_getElem? 
  intro i
  by_cases hi : i < A.length
  · rw [ix_eq hi, ix_eq (by omega), h i hi]
  · rw [List.getElem?_eq_none (by omega), List.getElem?_eq_none (by omega)]

theorem ret_bool {a b : Bool} (h : a = b) : Ending.returned (.bool a) = .returned (.bool b) := by rw [h]
theorem ret_i64 {a b : Int} (h : a = b) : Ending.returned (.int .i64 a) = .returned (.int .i64 b) := by rw [h]

/-- 'A and B are the same', as a Bool of its own. -/
def eqB (A B : List Int) : Bool := A == B
theorem eqB_true {A B : List Int} (h : A = B) : eqB A B = true := by subst h; simp [eqB]
theorem eqB_false {A B : List Int} (h : A ≠ B) : eqB A B = false := by simp [eqB, h]

set_option maxHeartbeats 400000 in
theorem same10 {A B : List Int} {ao bo : Option Addr} {n m c d : Nat} (w : World) (hA : SlI w ao n c A) (hB : SlI w bo m d B) :
    Calls Try.prog 12 #[.slice ao n c, .slice bo m d] w fun e w' => ∃ k, e = .returned (.bool (eqB A B)) ∧ w' = w.drewN k := by
  have hmA := Nat.le_trans hA.le hA.max
  have hmB := Nat.le_trans hB.le hB.max
  have hlA := Lib.hid hA.len
  have hlB := Lib.hid hB.len
  unfold maxLen at hmA hmB
  by_cases hl : n = m
  · have ht : (((n : Nat) : Int) != (m : Nat)) = false := by rw [hl]; simp
    have hl2 := Lib.hid hl
    clear hl
    go_enter Try.func12, Try.ntmps12
    go_wp2
    go_loopw [5, 13] (fun _ i wr => ∃ k j : Nat, k ≤ n ∧ i = .int .i64 k ∧ (Hid (∀ i, i < k → ix A i = ix B i)) ∧ wr = w.drewN j) (fun _ i _ => n - (intOf i).toNat)
    case atStart => exact ⟨0, 0, Nat.zero_le _, rfl, (fun i h => by omega), rfl⟩
    case round =>
      obtain ⟨k, j, hk, rfl, htk, rfl⟩ := hrel
      by_cases hlt : k < n
      · have hlt2 : k < m := by have := hl2.out; omega
        obtain ⟨b1, o1, rfl, c1⟩ := hA.at_ hlt
        obtain ⟨b2, o2, rfl, c2⟩ := hB.at_ hlt2
        by_cases he : ix A k = ix B k
        · have he3 : (ix A k != ix B k) = false := by simpa using he
          have he2 := Lib.hid he
          clear he
          go_wp2
          go_quiet (fail)
          go_wp2
          go_roundw
          case rel => exact ⟨k + 1, _, by omega, by go_num, (fun i h => by by_cases e : i = k; (subst e; exact he2.out); exact htk.out i (by omega)), rfl⟩
          case measure => simp [intOf]; omega
        · have he3 : (ix A k != ix B k) = true := by simpa using he
          have he2 := Lib.hid he
          clear he
          go_wp2
          go_quiet (fail)
          go_wp2
          go_ret
          refine ⟨_, ret_bool (eqB_false ?_).symm, World.drewN_drewN ..⟩
          intro h
          exact he2.out (by rw [h])
      · go_wp2
        go_ret
        obtain rfl : k = n := by omega
        exact ⟨_, ret_bool (eqB_true (eq_of_ix (by rw [hlA.out, hlB.out, hl2.out]) (by rw [hlA.out]; exact htk.out))).symm, rfl⟩
  · have ht : (((n : Nat) : Int) != (m : Nat)) = true := by simp; omega
    have hl2 := Lib.hid hl
    clear hl
    go_enter Try.func12, Try.ntmps12
    go_wp2
    go_ret
    refine ⟨0, ret_bool (eqB_false ?_).symm, rfl⟩
    intro h
    have := hlA.out
    have := hlB.out
    have := hl2.out
    subst h
    omega

/-- With how many numbers both rows begin. -/
def common : List Int → List Int → Nat
  | a :: A, b :: B => if a = b then common A B + 1 else 0
  | _, _ => 0

theorem common_le (A B : List Int) : common A B ≤ A.length ∧ common A B ≤ B.length := by
  induction A generalizing B with
  | nil => simp [common]
  | cons a A ih =>
    cases B with
    | nil => simp [common]
    | cons b B =>
      simp only [common]
      split
      · have := ih B; simp; omega
      · simp

theorem common_ix (A B : List Int) : ∀ i, i < common A B → ix A i = ix B i := by
  induction A generalizing B with
  | nil => simp [common]
  | cons a A ih =>
    cases B with
    | nil => simp [common]
    | cons b B =>
      simp only [common]
      split
      · rename_i h
        subst h
        intro i hi
        cases i with
        | zero => simp [ix]
        | succ i => simpa [ix] using ih B i (by omega)
      · simp

theorem common_stop (A B : List Int) : common A B < A.length → common A B < B.length → ix A (common A B) ≠ ix B (common A B) := by
  induction A generalizing B with
  | nil => simp [common]
  | cons a A ih =>
    cases B with
    | nil => simp [common]
    | cons b B =>
      simp only [common]
      split
      · intro h1 h2
        simpa [ix] using ih B (by simpa using h1) (by simpa using h2)
      · rename_i h
        intro _ _
        simpa [ix] using h

theorem common_unique {A B : List Int} {k : Nat} (hA : k ≤ A.length) (hB : k ≤ B.length) (h : ∀ i, i < k → ix A i = ix B i) (hs : k < A.length → k < B.length → ix A k ≠ ix B k) : common A B = k := by
  have h1 := common_le A B
  rcases Nat.lt_trichotomy (common A B) k with hlt | he | hgt
  · exact absurd (h _ hlt) (common_stop A B (by omega) (by omega))
  · exact he
  · exact absurd (common_ix A B k hgt) (hs (by omega) (by omega))

set_option maxHeartbeats 400000 in
theorem common_calls {A B : List Int} {ao bo : Option Addr} {n m c d : Nat} (w : World) (hA : SlI w ao n c A) (hB : SlI w bo m d B) :
    Calls Try.prog 14 #[.slice ao n c, .slice bo m d] w fun e w' => ∃ k, e = .returned (.int .i64 (common A B)) ∧ w' = w.drewN k := by
  have hmA := Nat.le_trans hA.le hA.max
  have hmB := Nat.le_trans hB.le hB.max
  have hlA := Lib.hid hA.len
  have hlB := Lib.hid hB.len
  unfold maxLen at hmA hmB
  go_enter Try.func14, Try.ntmps14
  go_wp2
  go_loopw [5] (fun i wr => ∃ k j : Nat, k ≤ n ∧ k ≤ m ∧ i = .int .i64 k ∧ (Hid (∀ i, i < k → ix A i = ix B i)) ∧ wr = w.drewN j) (fun i _ => n - (intOf i).toNat)
  case atStart => exact ⟨0, 0, Nat.zero_le _, Nat.zero_le _, rfl, (fun i h => by omega), rfl⟩
  case round =>
    obtain ⟨k, j, hk, hk2, rfl, htk, rfl⟩ := hrel
    by_cases hlt : k < n
    · by_cases hlt2 : k < m
      · obtain ⟨b1, o1, rfl, c1⟩ := hA.at_ hlt
        obtain ⟨b2, o2, rfl, c2⟩ := hB.at_ hlt2
        by_cases he : ix A k = ix B k
        · have he3 : (ix A k == ix B k) = true := by simpa using he
          have he2 := Lib.hid he
          clear he
          go_wp2
          go_quiet (fail)
          go_wp2
          go_roundw
          case rel => exact ⟨k + 1, _, by omega, by omega, by go_num, (fun i h => by by_cases e : i = k; (subst e; exact he2.out); exact htk.out i (by omega)), rfl⟩
          case measure => simp [intOf]; omega
        · have he3 : (ix A k == ix B k) = false := by simpa using he
          have he2 := Lib.hid he
          clear he
          go_wp2
          go_quiet (fail)
          go_wp2
          go_ret
          refine ⟨_, ret_i64 ?_, World.drewN_drewN ..⟩
          rw [common_unique (by rw [hlA.out]; exact hk) (by rw [hlB.out]; exact hk2) htk.out (fun _ _ => he2.out)]
      · go_wp2
        go_quiet (fail)
        go_wp2
        go_ret
        refine ⟨_, ret_i64 ?_, World.drewN_drewN ..⟩
        rw [common_unique (by rw [hlA.out]; exact hk) (by rw [hlB.out]; exact hk2) htk.out (fun _ h => by rw [hlB.out] at h; omega)]
    · go_wp2
      go_quiet (fail)
      go_wp2
      go_ret
      refine ⟨_, ret_i64 ?_, World.drewN_drewN ..⟩
      rw [common_unique (by rw [hlA.out]; exact hk) (by rw [hlB.out]; exact hk2) htk.out (fun h _ => by rw [hlA.out] at h; omega)]

theorem infoInt : (Try.prog.info? 3).map (fun i => (i.zero, i.size, i.bytes)) = some (some (.int .i64 0), 1, 8) := by kernel_rfl


theorem own_made0 (w : World) : Own (w.alloc (.cells #[] 3)) w.heap.size (.slice (some ⟨w.heap.size, 0, none⟩) 0 0) [] :=
  World.ownsRow_made w #[] 0 (Nat.le_refl _) (by unfold maxLen; omega) rfl

set_option maxHeartbeats 400000 in
theorem clone_nil (c : Nat) (w : World) :
    Calls Try.prog 18 #[.slice none 0 c] w fun e w' => ∃ v, e = .returned v ∧ Own w' w.heap.size v [] ∧ Below w.heap.size w w' := by
  have hsn := fun w => Lib.run_eql_slice_nil (P := Try.prog) w 22 3 none 0 c 0 0 Try.underlying22
  go_enter Try.func18, Try.ntmps18
  go_wp2
  go_ret
  exact ⟨_, rfl, Own.nil _ _, Below.refl _ _⟩

set_option maxHeartbeats 400000 in
theorem clone_some {A : List Int} {ad : Addr} {n c : Nat} (w : World) (hA : SlI w (some ad) n c A) (hreach : n * 8 ≤ 140737488355328) :
    Calls Try.prog 18 #[.slice (some ad) n c] w fun e w' => ∃ v, e = .returned v ∧ Own w' w.heap.size v A ∧ Below w.heap.size w w' := by
  have hmA := Nat.le_trans hA.le hA.max
  have hlA := Lib.hid hA.len
  unfold maxLen at hmA
  obtain ⟨i0, hi, hz0, hz1, hz2⟩ := info_parts infoInt
  have hsn := fun w => Lib.run_eql_slice_nil (P := Try.prog) w 22 3 (some ad) n c 0 0 Try.underlying22
  have hown := own_made0 w
  have hA2 := hA.alloc (.cells #[] 3)
  go_enter Try.func18, Try.ntmps18
  go_wp2_with (at_builtin; refine wpList_app rfl _ _ 22 rfl w.heap.size 3 i0 (.int .i64 0) 8 Try.underlying22 hi hz0 hz1 hz2 rfl _ 0 [] rfl hown (some ad) n c _ rfl hA2 (int_one A) (by unfold maxLen; omega) (by omega) (by simp) ?_)
  intro v' w' ho hg _
  go_wp2
  go_ret
  refine ⟨_, rfl, ?_, (below_alloc w _).grown hg (by simp) (by simp [Value.ownBlock])⟩
  unfold Own
  rw [hlA.out]
  simpa using ho

theorem clone_calls' {A : List Int} {ao : Option Addr} {n c : Nat} (w : World) (hA : SlI w ao n c A) (hreach : n * 8 ≤ 140737488355328) :
    Calls Try.prog 18 #[.slice ao n c] w fun e w' => ∃ v, e = .returned v ∧ Own w' w.heap.size v A ∧ Below w.heap.size w w' := by
  cases ao with
  | some ad => exact clone_some w hA hreach
  | none =>
    have hc := Sl.nil hA rfl
    have hn : n = 0 := by have := Sl.le hA; omega
    subst hn
    have : A = [] := List.eq_nil_of_length_eq_zero hA.len
    subst this
    exact clone_nil c w

theorem clone_calls {A : List Int} {ao : Option Addr} {n c : Nat} (w : World) (hA : SlI w ao n c A) (hreach : n * 8 ≤ 140737488355328) :
    Calls Try.prog 18 #[.slice ao n c] w fun e w' => ∃ vo vc, e = .returned (.slice vo n vc) ∧ Own w' w.heap.size (.slice vo n vc) A ∧ Below w.heap.size w w' := by
  have key : Calls Try.prog 18 #[.slice ao n c] w fun e w' => ∃ v, e = .returned v ∧ Own w' w.heap.size v A ∧ Below w.heap.size w w' := clone_calls' w hA hreach
  refine key.mono fun e w' ⟨v, he, ho, hb⟩ => ?_
  obtain ⟨vo, vc, rfl, _⟩ := ho.sl
  have := hA.len
  subst this
  exact ⟨vo, vc, he, ho, hb⟩



theorem Own.take {w : World} {base : Nat} {vo : Option Addr} {n c : Nat} {A : List Int} (h : Own w base (.slice vo n c) A) {k : Nat} (hk : k ≤ n) : Own w base (.slice vo k c) (A.take k) := by
  obtain ⟨hA, hc | ⟨g, cur, rfl, hg, hh, hn, hm, hl, ht⟩⟩ := h.block
  · obtain ⟨rfl, rfl, rfl⟩ := hc
    obtain rfl : k = 0 := by omega
    simpa using Own.nil w base
  · refine Own.mk hg hh (by omega) hm hl (by simp; omega) ?_
    rw [List.map_take, ← ht, List.take_take, Nat.min_eq_left hk]

/-- 'append(nil, make([]int, n)...)', n > 0. -/
theorem run_zeros {P : Program} (w : World) (t : TypeId) (i : TypeInfo) (ht : P.underlying t = some (.slice 3)) (hti : P.underlying 3 = some (.int .i64)) (hi : P.info? 3 = some i) (hz : i.zero = some (.int .i64 0)) (hs : i.size = 1) (hb : i.bytes = 8)
    (n : Nat) (h0 : 0 < n) (hn : n * 8 ≤ 140737488355328) :
    ∃ c, (∀ ty, (Builtin.append_ #[t, 3] ty #[.slice none 0 0, .int .i64 n]).run P w = .ok (.slice (some ⟨w.heap.size, 0, none⟩) n c) (w.drew.alloc (.cells (Builtin.zeroCells (Value.int .i64 0).cells n ++ Builtin.zeroCells (Value.int .i64 0).cells (c - n)) 3))) ∧ n ≤ c ∧ c ≤ maxLen := by
  refine ⟨grownCap w n 0 3, fun ty => ?_, grownCap_ge _ _ _ _, grownCap_le_maxLen _ _ _ _ (by unfold maxLen; omega)⟩
  have hn0 : n ≠ 0 := by omega
  have wl : IntKind.i64.wrap (n : Int) = n := by rw [IntKind.wrap_i64]; omega
  have h63' : ¬ (9223372036854775807 < (n : Int)) := by omega
  have h48' : ¬ (281474976710656 < Builtin.nextslicecap n 0 * i.bytes) := by rw [nextslicecap_zero h0, hb]; omega
  have h48'' : ¬ (281474976710656 < (n : Int) * i.bytes) := by rw [hb]; omega
  have hneg : ¬ ((n : Int) < 0) := by omega
  simp [Builtin.append_, run_underlying ht, run_underlying hti, sizeOf, typeInfo, zeroValue, hi, hz, hs, asInt, asIntOf, wl, hn0, h63', h48', h48'', hneg, Question.forced, run_firstCells_none, newRow, grownCap]

theorem own_zeros (w : World) (n c : Nat) (hn : n ≤ c) (hc : c ≤ maxLen) :
    Own (w.drew.alloc (.cells (Builtin.zeroCells (Value.int .i64 0).cells n ++ Builtin.zeroCells (Value.int .i64 0).cells (c - n)) 3)) w.heap.size (.slice (some ⟨w.heap.size, 0, none⟩) n c) (List.replicate n 0) := by
  have e : ∀ k, (Builtin.zeroCells (Value.int .i64 0).cells k).toList = List.replicate k (Value.int .i64 0) := by
    intro k
    have := toList_madeCells_one (Value.int .i64 0) k
    simpa [madeCells, Builtin.zeroCells, Value.cells] using this
  refine Own.mk (cur := List.replicate n (Value.int .i64 0) ++ List.replicate (c - n) (Value.int .i64 0)) (Nat.le_refl _) ?_ hn hc (by simp; omega) (by simp) (by simp)
  have e2 : (Builtin.zeroCells (Value.int .i64 0).cells n ++ Builtin.zeroCells (Value.int .i64 0).cells (c - n)) = (List.replicate n (Value.int .i64 0) ++ List.replicate (c - n) (Value.int .i64 0)).toArray := by
    apply Array.ext'
    simp only [Array.toList_append, e]
  rw [e2]
  exact heap_alloc_new w.drew _

set_option maxHeartbeats 400000 in
theorem grow_nil (n : Nat) (w : World) (hn : n * 8 ≤ 140737488355328) :
    Calls Try.prog 21 #[.slice none 0 0, .int .i64 n] w fun e w' => ∃ vo vc, e = .returned (.slice vo 0 vc) ∧ Own w' w.heap.size (.slice vo 0 vc) [] ∧ Below w.heap.size w w' := by
  obtain ⟨i0, hi, hz0, hz1, hz2⟩ := info_parts infoInt
  by_cases h0 : n = 0
  · subst h0
    go_enter Try.func21, Try.ntmps21
    go_wp2
    go_ret
    exact ⟨_, _, rfl, Own.nil _ _, Below.refl _ _⟩
  · have hpos : (0 : Int) < (n : Int) := by omega
    obtain ⟨c, hr, hc1, hc2⟩ := run_zeros (P := Try.prog) w 22 i0 Try.underlying22 Try.underlying3 hi hz0 hz1 hz2 n (by omega) hn
    obtain ⟨W, hW⟩ : ∃ W, W = (w.drew.alloc (.cells (Builtin.zeroCells (Value.int .i64 0).cells n ++ Builtin.zeroCells (Value.int .i64 0).cells (c - n)) 3)) := ⟨_, rfl⟩
    have ho := own_zeros w n c hc1 hc2
    have hb : Below w.heap.size w W := by rw [hW]; exact ((Below.refl _ _).drew).alloc (Nat.le_refl _) _
    rw [← hW] at hr ho
    have hS : SlI W (some ⟨w.heap.size, 0, none⟩) n c (List.replicate n 0) := by
      obtain ⟨ao, cap, e, h⟩ := ho.sl
      simp at e
      obtain ⟨rfl, rfl⟩ := e
      simpa using h
    have HR := Lib.hid hr
    clear hr
    have HW := Lib.hid hW
    clear hW
    go_enter Try.func21, Try.ntmps21
    go_wp2_with (first
      | (with_reducible show wpList _ _ _ (⟨_, .call { callee := .builtin .append, args := _, argTypes := _ }, _, _, _, _⟩ :: _) _ _; refine wpList_append_run rfl (.tmp 20) (.tmp 21) 22 3 rfl (v1 := .slice none 0 0) (v2 := .int .i64 n) rfl rfl HR.out ?_)
      | (with_reducible show wpList _ _ _ (⟨_, .slice _ (.tmp 22) none (some _) none, _, _, _, _⟩ :: _) _ _; refine wpList_int_high rfl 22 (.tmp 22) (.tmp 24) rfl 3 i0 Try.underlying22 hi hz1 (k := 0) rfl hS rfl rfl (by omega) ?_; intro hb'))
    go_ret
    exact ⟨_, _, rfl, by simpa using ho.take (Nat.zero_le n), hb⟩


set_option maxHeartbeats 1000000 in
theorem concat_calls {R : List (List Int)} {ao : Option Addr} {n c : Nat} (w : World) (hR : SlRows w ao n c R) (hreach : R.flatten.length * 8 ≤ 140737488355328) :
    Calls Try.prog 20 #[.slice ao n c] w fun e w' => ∃ v, e = .returned v ∧ Own w' w.heap.size v R.flatten ∧ Below w.heap.size w w' := by
  have hm := Nat.le_trans hR.le hR.max
  unfold maxLen at hm
  have hlR := Lib.hid hR.len
  obtain ⟨i0, hi, hz0, hz1, hz2⟩ := info_parts infoInt
  go_enter Try.func20, Try.ntmps20
  go_wp2
  go_loop [3, 11] (fun t i => ∃ k : Nat, k ≤ n ∧ i = .int .i64 k ∧ t = .int .i64 (tot R k)) (fun _ i => n - (intOf i).toNat)
  case atStart => exact ⟨0, Nat.zero_le _, rfl, by rw [tot_zero]; rfl⟩
  case round =>
    obtain ⟨k, hk, rfl, rfl⟩ := hrel
    have ht := tot_le R k
    by_cases hlt : k < n
    · have hts := Lib.hid (tot_succ (R := R) (k := k) (by rw [hlR.out]; exact hlt))
      have ht1 := tot_le R (k + 1)
      obtain ⟨b, o, ra, rc, rfl, hcell, hrow⟩ := hR.at_ k hlt
      have hrl : (rx R k).length ≤ 9223372036854775807 := by have := Nat.le_trans (Sl.le hrow) (Sl.max hrow); unfold maxLen at this; omega
      have hrl2 : tot R k + (rx R k).length ≤ R.flatten.length := by rw [← hts.out]; exact ht1
      go_wp2
      go_round
      case rel => exact ⟨k + 1, by omega, by go_num, by rw [hts.out]; go_num⟩
      case measure => simp [intOf]; omega
    · obtain rfl : k = n := by omega
      have hall : tot R k = R.flatten.length := by rw [← hlR.out]; exact tot_all R
      have Hall := Lib.hid hall
      clear hall
      go_wp2_with (go_at_call 21; refine (grow_nil _ _ (by omega)).mono ?_; rintro e w1 ⟨vo, vc, rfl, ho1, hb1⟩)
      go_loopw [6, 27] (fun v i wr => ∃ j : Nat, j ≤ k ∧ i = .int .i64 j ∧ Own wr w.heap.size v (R.take j).flatten ∧ Below w.heap.size w wr) (fun _ i _ => k - (intOf i).toNat)
      case atStart => exact ⟨0, Nat.zero_le _, rfl, by simpa using ho1, hb1⟩
      case round =>
        obtain ⟨j, hj, rfl, ho, hb⟩ := hrel
        by_cases hlt2 : j < k
        · have hfs := Lib.hid (flat_succ (R := R) (k := j) (by rw [hlR.out]; exact hlt2))
          obtain ⟨b, o, ra, rc, rfl, hcell, hrow⟩ := (hR.below hb).at_ j hlt2
          have hb3 := tot_le R (j + 1)
          unfold tot at hb3
          rw [hfs.out, List.length_append] at hb3
          go_wp2_with (at_builtin; refine wpList_int_app rfl _ _ 22 rfl i0 Try.underlying22 hi hz0 hz1 hz2 rfl ho rfl hrow (by omega) hb.size ?_; intro v' w' ho' hg' hb')
          go_roundw
          case rel => exact ⟨j + 1, by omega, by go_num, by rw [hfs.out]; exact ho', hb.trans hb'⟩
          case measure => simp [intOf]; omega
        · obtain rfl : j = k := by omega
          go_wp2
          go_ret
          exact ⟨_, rfl, by have := hlR.out; subst this; simpa using ho, hb⟩


theorem concat_len {R : List (List Int)} {ao : Option Addr} {n c L : Nat} (w : World) (hR : SlRows w ao n c R) (hL : R.flatten.length = L) (hreach : L * 8 ≤ 140737488355328) :
    Calls Try.prog 20 #[.slice ao n c] w fun e w' => ∃ vo vc, e = .returned (.slice vo L vc) ∧ Own w' w.heap.size (.slice vo L vc) R.flatten ∧ Below w.heap.size w w' := by
  subst hL
  refine (concat_calls w hR hreach).mono fun e w' ⟨v, he, ho, hb⟩ => ?_
  obtain ⟨vo, vc, rfl, _⟩ := ho.sl
  exact ⟨vo, vc, he, ho, hb⟩

end Go.Proofs.Ytkceidcedkknfaa
