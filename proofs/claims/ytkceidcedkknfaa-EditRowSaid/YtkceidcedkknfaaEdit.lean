/- Walks: the functions of package edit, and their references. -/
import Derived.Test.YtkceidcedkknfaaInts
import Derived.Deep.RegionHeld3
import Derived.Deep.DeepCutAuto
namespace Go.Proofs.Ytkceidcedkknfaa
open Go.RowKit
set_option linter.unusedVariables false

theorem bcell {W w1 : World} (hb : Below W.heap.size W w1) : (∀ b o, b < W.heap.size → w1.cell? ⟨b, o, none⟩ = W.cell? ⟨b, o, none⟩) ∧ (∀ b o, b < W.heap.size → w1.frozen? ⟨b, o, none⟩ = W.frozen? ⟨b, o, none⟩) :=
  ⟨fun b o h => hb.cell (p := ⟨b, o, none⟩) h, fun b o h => hb.frozen (p := ⟨b, o, none⟩) h⟩

theorem alloc_lt {w w1 : World} {o : Obj} {B : Nat} (h : Below B (w.alloc o) w1) : w.heap.size < w1.heap.size := by
  have := h.size
  simp at this
  omega

/-- An edit as a value. -/
abbrev edV (r : Int) (v : Value) : Value := .agg #[.int .i64 r, v]

set_option maxHeartbeats 400000 in
theorem of_calls {A B : List Int} {ao bo : Option Addr} {n m c d : Nat} (w : World) (hA : SlI w ao n c A) (hB : SlI w bo m d B) (hreach : m * 8 ≤ 140737488355328) :
    Calls Try.prog 10 #[.slice ao n c, .slice bo m d] w fun e w' => ∃ vo vc, e = .returned (edV (n - common A B : Nat) (.slice vo (m - common A B) vc)) ∧ Own w' w.heap.size (.slice vo (m - common A B) vc) (B.drop (common A B)) ∧ Below w.heap.size w w' := by
  have hmA := Nat.le_trans hA.le hA.max
  have hmB := Nat.le_trans hB.le hB.max
  have hmd := hB.max
  have hld := hB.le
  have hcA := (common_le A B).1
  have hcB := (common_le A B).2
  rw [hA.len] at hcA
  rw [hB.len] at hcB
  unfold maxLen at hmA hmB hmd
  have hal := hA.alloc (.cells #[.int .i64 0, .slice none 0 0] 24)
  have hbl := hB.alloc (.cells #[.int .i64 0, .slice none 0 0] 24)
  have hk := common_calls (w.alloc (.cells #[.int .i64 0, .slice none 0 0] 24)) hal hbl
  obtain ⟨i0, hi, hz0, hz1, hz2⟩ := info_parts infoInt
  go_enter Try.func10, Try.ntmps10
  go_wp2_with (first
    | (go_at_call 14; refine hk.mono ?_; rintro e w' ⟨k, rfl, rfl⟩)
    | (with_reducible show wpList _ _ _ (⟨_, .slice _ _ (some _) none none, _, _, _, _⟩ :: _) _ _; refine wpList_int_low rfl 22 (.tmp 13) (.tmp 14) rfl 3 i0 Try.underlying22 hi hz1 rfl (SlI.drewN hbl _) rfl rfl hcB ?_; intro bo' hb')
    | (go_at_call 18; refine (clone_calls _ hb' (by omega)).mono ?_; rintro e w' ⟨vo, vc, rfl, ho, hb⟩; obtain ⟨hcl, hfr⟩ := bcell hb))
  refine bodyPost_ret (v := edV (n - common A B : Nat) (.slice vo (m - common A B) vc)) ?_ rfl ⟨vo, vc, rfl, ?_, ?_⟩
  · simp [results, Try.results10, go_sem, hcl]
    omega
  · exact Own.mono (ownsRow_setCell_below (ownsRow_setCell_below ho (by simp) _) (by simp) _) (by simp)
  · exact (((below_drewN (below_alloc w _) k).trans (hb.mono (by simp))).setCell (Nat.le_refl _) _).setCell (Nat.le_refl _) _


theorem may_any (r : Int) (ao : Option Addr) (n c : Nat) (w : World) (b : Bool) (hb : b = decide (0 ≤ r ∧ r ≤ 1048576)) :
    Calls Try.prog 19 #[edV r (.slice ao n c)] w fun e w' => e = .returned (.bool b) ∧ Below w.heap.size w w' := by
  have Hb := Lib.hid hb
  clear hb
  by_cases h0 : 0 ≤ r
  · by_cases h1 : r ≤ 1048576
    · go_enter Try.func19, Try.ntmps19
      go_wp2
      go_ret
      exact ⟨ret_bool (by rw [Hb.out]; simp; omega), below_alloc w _⟩
    · have h1' : decide (r ≤ 1048576) = false := by simpa using h1
      go_enter Try.func19, Try.ntmps19
      go_wp2
      go_ret
      exact ⟨ret_bool (by rw [Hb.out]; simp; omega), below_alloc w _⟩
  · go_enter Try.func19, Try.ntmps19
    go_wp2
    go_ret
    exact ⟨ret_bool (by rw [Hb.out]; simp; omega), below_alloc w _⟩

theorem empty_any (r : Int) (ao : Option Addr) (n c : Nat) (w : World) (b : Bool) (hb : b = decide (r = 0 ∧ n = 0)) :
    Calls Try.prog 17 #[edV r (.slice ao n c)] w fun e w' => e = .returned (.bool b) ∧ Below w.heap.size w w' := by
  have Hb := Lib.hid hb
  clear hb
  by_cases h0 : r = 0
  · have h0' : (r == 0) = true := by simpa using h0
    have H0 := Lib.hid h0
    clear h0
    by_cases h1 : n = 0
    · have h1' : ((n : Int) == 0) = true := by simp; omega
      have H1 := Lib.hid h1
      clear h1
      go_enter Try.func17, Try.ntmps17
      go_wp2
      go_ret
      exact ⟨ret_bool (by rw [Hb.out, H0.out, H1.out]; simp), below_alloc w _⟩
    · have h1' : ((n : Int) == 0) = false := by simp; omega
      go_enter Try.func17, Try.ntmps17
      go_wp2
      go_ret
      exact ⟨ret_bool (by rw [Hb.out]; simp; omega), below_alloc w _⟩
  · have h0' : (r == 0) = false := by simpa using h0
    go_enter Try.func17, Try.ntmps17
    go_wp2
    go_ret
    exact ⟨ret_bool (by rw [Hb.out]; simp; omega), below_alloc w _⟩


/-- The view behind an edit, and whether it can be done. -/
def applyL (A : List Int) (r : Int) (B : List Int) : List Int × Bool :=
  if 0 ≤ r ∧ r ≤ 1048576 ∧ r ≤ A.length then (A.take (A.length - r.toNat) ++ B, true) else ([], false)

theorem own_made0' (w : World) (g : Nat) (hg : g = w.heap.size) : Own (w.alloc (.cells #[] 3)) w.heap.size (.slice (some ⟨g, 0, none⟩) 0 0) [] := by
  subst hg; exact own_made0 w

theorem box_below {w : World} {o : Obj} {wr : World} (hb : Below (w.heap.size + 1) (w.alloc o) wr) :
    (∀ j, wr.cell? ⟨w.heap.size, j, none⟩ = (w.alloc o).cell? ⟨w.heap.size, j, none⟩) :=
  fun j => hb.cell (p := ⟨w.heap.size, j, none⟩) (Nat.lt_succ_self _)

theorem size_of_below {B : Nat} {w wr : World} (h : Below B w wr) : w.heap.size ≤ wr.heap.size := h.size

set_option maxHeartbeats 1000000 in
theorem refApply_yes {A B : List Int} {ao bo : Option Addr} {n m c d : Nat} (r : Int) (w : World) (hA : SlI w ao n c A) (hB : SlI w bo m d B) (hreach : (n + m) * 8 ≤ 140737488355328)
    (h0 : 0 ≤ r) (h1 : r ≤ 1048576) (h2 : r ≤ n) :
    Calls Try.prog 9 #[.slice ao n c, edV r (.slice bo m d)] w fun e w' => ∃ v, e = .returned (.tuple #[v, .bool true]) ∧ Own w' w.heap.size v (A.take (n - r.toNat) ++ B) ∧ Below w.heap.size w w' := by
  have hlA := Lib.hid hA.len
  have hlB := Lib.hid hB.len
  obtain ⟨i0, hi, hz0, hz1, hz2⟩ := info_parts infoInt
  obtain ⟨R, rfl⟩ := Int.eq_ofNat_of_zero_le h0
  obtain ⟨W, hW⟩ : ∃ W, W = w.alloc (.cells #[.int .i64 (R : Int), .slice bo m d] 24) := ⟨_, rfl⟩
  have hWb : Below w.heap.size w W := by rw [hW]; exact below_alloc w _
  have hWs : W.heap.size = w.heap.size + 1 := by rw [hW]; simp
  have hc0 : W.cell? ⟨w.heap.size, 0, none⟩ = some (.int .i64 (R : Int)) := by rw [hW]; simp
  have hc1 : W.cell? ⟨w.heap.size, 1, none⟩ = some (.slice bo m d) := by rw [hW]; simp
  have HW := Lib.hid hW
  have d0 : decide ((R : Int) < 0) = false := by simp
  have d1 : decide ((1048576 : Int) < (R : Int)) = false := by simp; omega
  have d2 : decide (n < R) = false := by simp; omega
  go_enter Try.func9, Try.ntmps9
  go_wp2
  go_loopw [6, 7] (fun v i wr => ∃ k : Nat, k ≤ n - R ∧ i = .int .i64 k ∧ Own wr W.heap.size v (A.take k) ∧ Below W.heap.size W wr) (fun _ i _ => n - R - (intOf i).toNat)
  case atStart =>
    have e := HW.out
    subst e
    exact ⟨0, by omega, rfl, by simpa using own_made0 (w.alloc (.cells #[.int .i64 (R : Int), .slice bo m d] 24)), below_alloc _ _⟩
  case round =>
    obtain ⟨k, hk, rfl, hown, hbel⟩ := hrel
    have q0 : wr.cell? ⟨w.heap.size, 0, none⟩ = some (.int .i64 (R : Int)) := cell_below hbel _ _ hc0
    have q1 : wr.cell? ⟨w.heap.size, 1, none⟩ = some (.slice bo m d) := cell_below hbel _ _ hc1
    have hA' : SlI wr ao n c A := (hA.below hWb).below hbel
    have hB' : SlI wr bo m d B := (hB.below hWb).below hbel
    have hsz : W.heap.size ≤ wr.heap.size := hbel.size
    by_cases hlt : k < n - R
    · obtain ⟨b1, o1, rfl, c1⟩ := hA'.at_ (i := k) (by omega)
      have hlk : (A.take k).length = k := by rw [List.length_take, hlA.out]; omega
      have HLK := Lib.hid hlk
      clear hlk
      go_wp2_with (at_builtin; refine wpList_int_app rfl _ _ 22 rfl i0 Try.underlying22 hi hz0 hz1 hz2 rfl (hown.alloc _) rfl (SlI.one _ _ _) (by rw [HLK.out]; omega) (by simp; omega) ?_; intro v' w' ho hg hb)
      go_wp2
      go_roundw
      case rel => exact ⟨k + 1, by omega, by go_num, by rw [← take_snoc (by rw [hlA.out]; omega)]; exact ho, (hbel.alloc (by omega) _).trans hb⟩
      case measure => simp [intOf]; omega
    · obtain rfl : k = n - R := by omega
      have hlk : (A.take (n - R)).length = n - R := by rw [List.length_take, hlA.out]; omega
      have HLK := Lib.hid hlk
      clear hlk
      go_wp2_with (at_builtin; refine wpList_int_app rfl _ _ 22 rfl i0 Try.underlying22 hi hz0 hz1 hz2 rfl hown rfl hB' (by rw [HLK.out]; omega) hsz ?_; intro v' w' ho hg hb)
      go_wp2
      go_ret2
      exact ⟨_, rfl, ho.mono hWb.size, hWb.trans ((hbel.trans hb).mono hWb.size)⟩

set_option maxHeartbeats 1000000 in
theorem refApply_no {A : List Int} {ao bo : Option Addr} {n m c d : Nat} (r : Int) (w : World) (hA : SlI w ao n c A) (h : ¬ (0 ≤ r ∧ r ≤ 1048576 ∧ r ≤ n)) :
    Calls Try.prog 9 #[.slice ao n c, edV r (.slice bo m d)] w fun e w' => ∃ v, e = .returned (.tuple #[v, .bool false]) ∧ Own w' w.heap.size v [] ∧ Below w.heap.size w w' := by
  have hmA := Nat.le_trans hA.le hA.max
  unfold maxLen at hmA
  by_cases h0 : r < 0
  · go_enter Try.func9, Try.ntmps9
    go_wp2
    go_ret2
    exact ⟨_, rfl, Own.mono (own_made0' (w.alloc _) (w.heap.size + 1) (by simp)) (below_alloc w _).size, (below_alloc w _).alloc (below_alloc w _).size _⟩
  · by_cases h1 : (1048576 : Int) < r
    · go_enter Try.func9, Try.ntmps9
      go_wp2
      go_ret2
      exact ⟨_, rfl, Own.mono (own_made0' (w.alloc _) (w.heap.size + 1) (by simp)) (below_alloc w _).size, (below_alloc w _).alloc (below_alloc w _).size _⟩
    · have h2 : (n : Int) < r := by omega
      go_enter Try.func9, Try.ntmps9
      go_wp2
      go_ret2
      exact ⟨_, rfl, Own.mono (own_made0' (w.alloc _) (w.heap.size + 1) (by simp)) (below_alloc w _).size, (below_alloc w _).alloc (below_alloc w _).size _⟩

theorem refApply {A B : List Int} {ao bo : Option Addr} {n m c d : Nat} (r : Int) (w : World) (hA : SlI w ao n c A) (hB : SlI w bo m d B) (hreach : (n + m) * 8 ≤ 140737488355328) :
    Calls Try.prog 9 #[.slice ao n c, edV r (.slice bo m d)] w fun e w' =>
      ∃ vo vc, e = .returned (.tuple #[.slice vo (applyL A r B).1.length vc, .bool (applyL A r B).2]) ∧ Own w' w.heap.size (.slice vo (applyL A r B).1.length vc) (applyL A r B).1 ∧ Below w.heap.size w w' := by
  have hl := hA.len
  by_cases h : 0 ≤ r ∧ r ≤ 1048576 ∧ r ≤ n
  · refine (refApply_yes r w hA hB hreach h.1 h.2.1 h.2.2).mono fun e w' ⟨v, he, ho, hb⟩ => ?_
    obtain ⟨vo, vc, rfl, _⟩ := ho.sl
    have : applyL A r B = (A.take (n - r.toNat) ++ B, true) := by unfold applyL; rw [hl, if_pos h]
    rw [this]
    exact ⟨vo, vc, he, ho, hb⟩
  · refine (refApply_no r w hA h).mono fun e w' ⟨v, he, ho, hb⟩ => ?_
    obtain ⟨vo, vc, rfl, _⟩ := ho.sl
    have : applyL A r B = ([], false) := by unfold applyL; rw [hl, if_neg h]
    rw [this]
    exact ⟨vo, vc, he, ho, hb⟩


set_option maxHeartbeats 1000000 in
theorem apply_yes {A B : List Int} {ao bo : Option Addr} {n m c d : Nat} (r : Int) (w : World) (hA : SlI w ao n c A) (hB : SlI w bo m d B) (hreach : (n + m) * 8 ≤ 140737488355328)
    (h0 : 0 ≤ r) (h1 : r ≤ 1048576) (h2 : r ≤ n) :
    Calls Try.prog 13 #[.slice ao n c, edV r (.slice bo m d)] w fun e w' => ∃ v, e = .returned (.tuple #[v, .bool true]) ∧ Own w' w.heap.size v (A.take (n - r.toNat) ++ B) ∧ Below w.heap.size w w' := by
  have hlA := Lib.hid hA.len
  obtain ⟨i0, hi, hz0, hz1, hz2⟩ := info_parts infoInt
  obtain ⟨R, rfl⟩ := Int.eq_ofNat_of_zero_le h0
  have d2 : decide (n < R) = false := by simp; omega
  go_enter Try.func13, Try.ntmps13
  go_wp2_with (first
    | (go_at_call 19; refine (may_any _ _ _ _ _ true (by simp; omega)).mono ?_; rintro e w1 ⟨rfl, hb1⟩; obtain ⟨hcl, hfr⟩ := bcell hb1; have hz1' := alloc_lt hb1)
    | (at_make; refine wpList_int_make rfl 22 (.tmp 21) (.tmp 30) rfl i0 Try.underlying22 hi hz0 hz1 hz2 (n := n - R) (m := n - R + m) rfl rfl (by omega) (by omega) (by omega) (by omega) ?_; intro w2 ho2 hb2; obtain ⟨hcl2, hfr2⟩ := bcell hb2)
    | (with_reducible show wpList _ _ _ (⟨_, .call { callee := .builtin .copy, args := _, argTypes := _ }, _, _, _, _⟩ :: _) _ _; refine wpList_int_copy rfl (.tmp 32) (.tmp 33) 22 rfl i0 Try.underlying22 hi hz1 rfl ho2 rfl (((hA.alloc _).below hb1).below hb2) ?_; intro w3 ho3 hb3; obtain ⟨hcl3, hfr3⟩ := bcell (hb2.trans hb3))
    | (at_builtin; refine wpList_int_app rfl _ _ 22 rfl i0 Try.underlying22 hi hz0 hz1 hz2 rfl ho3 rfl (((hB.alloc _).below hb1).below (hb2.trans hb3)) (by simp [hlA.out]; omega) (hb2.trans hb3).size ?_; intro v4 w4 ho4 _ hb4))
  go_ret2
  have hsz : w.heap.size ≤ w1.heap.size := Nat.le_trans (below_alloc w _).size hb1.size
  refine ⟨_, rfl, ?_, ?_⟩
  · have e : (A.take (n - R) ++ (List.replicate (n - R) 0).drop n) ++ B = A.take (n - R) ++ B := by
      rw [List.drop_of_length_le (by simp), List.append_nil]
    rw [e] at ho4
    exact ho4.mono hsz
  · exact (below_alloc w _).trans ((hb1.mono (below_alloc w _).size).trans (((hb2.trans hb3).trans hb4).mono hsz))

set_option maxHeartbeats 1000000 in
theorem apply_no {A : List Int} {ao bo : Option Addr} {n m c d : Nat} (r : Int) (w : World) (hA : SlI w ao n c A) (h : ¬ (0 ≤ r ∧ r ≤ 1048576 ∧ r ≤ n)) :
    Calls Try.prog 13 #[.slice ao n c, edV r (.slice bo m d)] w fun e w' => ∃ v, e = .returned (.tuple #[v, .bool false]) ∧ Own w' w.heap.size v [] ∧ Below w.heap.size w w' := by
  have hmA := Nat.le_trans hA.le hA.max
  unfold maxLen at hmA
  by_cases h0 : 0 ≤ r ∧ r ≤ 1048576
  · have h2 : (n : Int) < r := by omega
    have hd : true = decide (0 ≤ r ∧ r ≤ 1048576) := by simp; omega
    have HD := Lib.hid hd
    clear hd
    go_enter Try.func13, Try.ntmps13
    go_wp2_with (go_at_call 19; refine (may_any _ _ _ _ _ true HD.out).mono ?_; rintro e w1 ⟨rfl, hb1⟩; obtain ⟨hcl, hfr⟩ := bcell hb1)
    go_ret2
    exact ⟨_, rfl, Own.nil _ _, (below_alloc w _).trans (hb1.mono (below_alloc w _).size)⟩
  · have hd : false = decide (0 ≤ r ∧ r ≤ 1048576) := by simp; omega
    have HD := Lib.hid hd
    clear hd
    go_enter Try.func13, Try.ntmps13
    go_wp2_with (go_at_call 19; refine (may_any _ _ _ _ _ false HD.out).mono ?_; rintro e w1 ⟨rfl, hb1⟩; obtain ⟨hcl, hfr⟩ := bcell hb1)
    go_ret2
    exact ⟨_, rfl, Own.nil _ _, (below_alloc w _).trans (hb1.mono (below_alloc w _).size)⟩

theorem apply_calls {A B : List Int} {ao bo : Option Addr} {n m c d : Nat} (r : Int) (w : World) (hA : SlI w ao n c A) (hB : SlI w bo m d B) (hreach : (n + m) * 8 ≤ 140737488355328) :
    Calls Try.prog 13 #[.slice ao n c, edV r (.slice bo m d)] w fun e w' =>
      ∃ vo vc, e = .returned (.tuple #[.slice vo (applyL A r B).1.length vc, .bool (applyL A r B).2]) ∧ Own w' w.heap.size (.slice vo (applyL A r B).1.length vc) (applyL A r B).1 ∧ Below w.heap.size w w' := by
  have hl := hA.len
  by_cases h : 0 ≤ r ∧ r ≤ 1048576 ∧ r ≤ n
  · refine (apply_yes r w hA hB hreach h.1 h.2.1 h.2.2).mono fun e w' ⟨v, he, ho, hb⟩ => ?_
    obtain ⟨vo, vc, rfl, _⟩ := ho.sl
    have : applyL A r B = (A.take (n - r.toNat) ++ B, true) := by unfold applyL; rw [hl, if_pos h]
    rw [this]
    exact ⟨vo, vc, he, ho, hb⟩
  · refine (apply_no r w hA h).mono fun e w' ⟨v, he, ho, hb⟩ => ?_
    obtain ⟨vo, vc, rfl, _⟩ := ho.sl
    have : applyL A r B = ([], false) := by unfold applyL; rw [hl, if_neg h]
    rw [this]
    exact ⟨vo, vc, he, ho, hb⟩


end Go.Proofs.Ytkceidcedkknfaa
