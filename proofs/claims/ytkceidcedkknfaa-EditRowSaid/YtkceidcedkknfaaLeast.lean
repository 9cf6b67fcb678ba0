/- EditLeast: whatever the view and the edit: the law returns true and turns nothing that was there. No condition. -/
import Derived.Test.YtkceidcedkknfaaFin
namespace Go.Proofs.Ytkceidcedkknfaa
open Go.RowKit
set_option linter.unusedVariables false

/-- The plain law: behind an edit the two views begin alike as far as the edit leaves the first one. -/
theorem common_prefix (A B : List Int) (k : Nat) (hk : k ≤ A.length) : k ≤ common A (A.take k ++ B) := by
  rcases Nat.lt_or_ge (common A (A.take k ++ B)) k with h | h
  · have hs := common_stop A (A.take k ++ B) (by omega) (by simp; omega)
    exfalso
    apply hs
    generalize common A (A.take k ++ B) = j at h
    have e : (A.take k ++ B)[j]? = A[j]? := by
      rw [List.getElem?_append_left (by simp; omega), List.getElem?_take, if_pos h]
    simp [ix, List.getD, e]
  · exact h

set_option maxHeartbeats 2000000 in
theorem least_walk {A B : List Int} {ao bo : Option Addr} {n m c d : Nat} (r : Int) (w : World) (hA : SlI w ao n c A) (hB : SlI w bo m d B) :
    Frame.Law Try.prog 3 #[.slice ao n c, edV r (.slice bo m d)] w := by
  unfold Frame.Law
  have hmA := Nat.le_trans hA.le hA.max
  have hmB := Nat.le_trans hB.le hB.max
  have hlA := Lib.hid hA.len
  unfold maxLen at hmA hmB
  have bz := below_alloc w (.cells #[.int .i64 r, .slice bo m d] 24)
  have hA1 := hA.alloc (.cells #[.int .i64 r, .slice bo m d] 24)
  have hB1 := hB.alloc (.cells #[.int .i64 r, .slice bo m d] 24)
  by_cases hn : (300 : Int) < n
  · go_enter Try.func3, Try.ntmps3
    go_wp2_with (go_at_call 8; refine (fixed_calls _).mono ?_; rintro e w1 ⟨rfl, hb1⟩)
    go_ret
    exact ⟨rfl, bz.trans (hb1.mono bz.size)⟩
  · by_cases hm : (300 : Int) < m
    · go_enter Try.func3, Try.ntmps3
      go_wp2_with (go_at_call 8; refine (fixed_calls _).mono ?_; rintro e w1 ⟨rfl, hb1⟩)
      go_ret
      exact ⟨rfl, bz.trans (hb1.mono bz.size)⟩
    · by_cases hr : 0 ≤ r ∧ r ≤ 1048576 ∧ r ≤ n
      · obtain ⟨R, rfl⟩ := Int.eq_ofNat_of_zero_le hr.1
        have h1 : R ≤ 1048576 := by omega
        have h2 : R ≤ n := by omega
        clear hr
        obtain ⟨k, hk⟩ : ∃ k, common A (A.take (n - R) ++ B) = k := ⟨_, rfl⟩
        have k1 : n - R ≤ k := by rw [← hk]; exact common_prefix A B (n - R) (by rw [hlA.out]; omega)
        have k2 : k ≤ n := by rw [← hk, ← hlA.out]; exact (common_le _ _).1
        have k3 : k ≤ n - R + m := by
          rw [← hk]
          have := (common_le A (A.take (n - R) ++ B)).2
          have := hB.len
          have := hlA.out
          simp at *
          omega
        have Hk := Lib.hid hk
        clear hk
        go_enter Try.func3, Try.ntmps3
        go_wp2_with fail
        refine (refApply_len R _ hA1 hB1 (by omega) h1 h2).mono ?_
        rintro e w1 ⟨vo, vc, rfl, ho1, hb1⟩
        have hA2 := hA1.below hb1
        have hs1 : SlI w1 vo (n - R + m) vc (A.take (n - R) ++ B) := by
          have hA := ho1.block.1
          obtain ⟨ao, cap, e, hs⟩ := ho1.sl
          simp at e
          obtain ⟨rfl, _, rfl⟩ := e
          rw [hA] at hs
          exact hs
        have g0 : w1.cell? ⟨w.heap.size, 0, none⟩ = some (.int .i64 R) := cell_below hb1 _ _ (by simp [go_sem])
        have g1 : w1.cell? ⟨w.heap.size, 1, none⟩ = some (.slice bo m d) := cell_below hb1 _ _ (by simp [go_sem])
        have bz1 := bz.trans (hb1.mono bz.size)
        have hz1 := alloc_lt hb1
        clear hb1 ho1 bz
        go_wp2_with fail
        refine (of_k Hk.out _ hA2 hs1 (by omega)).mono ?_
        rintro e w2 ⟨vo2, vc2, rfl, ho2, hb2⟩
        have g20 := cell_below hb2 _ _ g0
        have g21 := cell_below hb2 _ _ g1
        have bz2 := bz1.trans (hb2.mono bz1.size)
        have hz2 : w.heap.size < w2.heap.size := Nat.lt_of_lt_of_le hz1 hb2.size
        clear hb2 g0 g1 bz1
        go_wp2_with (go_at_call 8; refine (fixed_calls _).mono ?_; rintro e w3 ⟨rfl, hb3⟩; obtain ⟨hc3, hf3⟩ := bcell hb3)
        go_ret
        refine ⟨?_, (bz2.alloc bz2.size _).trans (hb3.mono (Nat.le_trans bz2.size (below_alloc _ _).size))⟩
        first | rfl | (refine ret_bool ?_; simp; omega)
      · go_enter Try.func3, Try.ntmps3
        go_wp2_with fail
        refine (refApply_no' r _ hA1 hr).mono ?_
        rintro e w1 ⟨vo, vc, rfl, ho1, hb1⟩
        have bz1 := bz.trans (hb1.mono bz.size)
        go_wp2_with (go_at_call 8; refine (fixed_calls _).mono ?_; rintro e w3 ⟨rfl, hb3⟩)
        go_ret
        exact ⟨rfl, bz1.trans (hb3.mono bz1.size)⟩


theorem least_law (W : World) (base : Nat) {H : Type} {enc : TypeId × Value → H} (args : Array Value) (ds : List (DataW H)) (p : List MemPlace)
    (hval : ∀ (j : Nat) t v, Try.f3.params[j]? = some t → args[j]? = some v → Value.okWide Try.prog W .any base t v)
    (hA : DataW.TrodAll enc Try.prog W 0 (fun _ => true) true Try.f3.params.toList args.toList ds p) :
    Frame.Law Try.prog 3 args W := by
  rw [Try.params3] at hA hval
  obtain ⟨v0, v1, d0, d1, p0, p1, rfl, rfl, rfl, h0, h1⟩ := Go.ChangeShapes.trodAll_two hA
  obtain ⟨ao, n, c, A, rfl, hsA, _⟩ := sli_open Try.underlying22 Try.underlying3 cellsInt (hval 0 22 v0 rfl rfl) h0
  obtain ⟨r, bo, m, d, B, rfl, hsB, _, _⟩ := edit_open (hval 1 24 v1 rfl rfl) h1
  exact least_walk r W hsA hsB

set_option maxRecDepth 100000 in
theorem least_lifted (os : Os) (started : os.Started) (H : Type) (enc : TypeId × Value → H) :
    ReturnsInHanded {} Try.checked os 3 .any (Rows.editLeastSpec.pre6 enc Try.prog Try.f3 Rows.editLeastRow.domain false) (Rows.editLeastSpec.post enc Try.prog Try.f3 false true false false) :=
  Frame.law_lift (C := Try.checked) (fn := Try.f3) own started (by kernel_rfl) Try.func3 laidOut (by decide +kernel) rfl Try.underlying4 rfl
    (fun ds h => by match ds, h with | [d1, d2], _ => rfl)
    (ChangeSpec.witness6 (enc := enc) (C := Try.checked) false ⟨#[], #[.slice none 0 0, .agg #[.int .i64 0, .slice none 0 0]], []⟩ 8 (by kernel_rfl) (by kernel_rfl) (by kernel_rfl) (by kernel_rfl))
    (fun W base args ds p hval hA => least_law W base args ds p hval hA)

theorem editLeast_holds : Rows.EditLeastSaid :=
  OpenClaim.holds_of_wide 3 Try.f3 rfl rfl rfl rfl rfl rfl rfl ⟨rfl, rfl, rfl, rfl, rfl⟩ rfl rfl rfl rfl rfl (by kernel_rfl) Try.func3 (by kernel_rfl)
    (of_decide_eq_true (by kernel_rfl)) (by unfold Func.isWrapper; rw [if_neg (of_decide_eq_false (by kernel_rfl))]; exact ⟨rfl, rfl⟩)
    (fun os started H enc _ => least_lifted os started H enc)

#print axioms editLeast_holds
end Go.Proofs.Ytkceidcedkknfaa
