/- EditOf: whatever two views: the law returns true and turns nothing that was there. No condition. -/
import Derived.Test.YtkceidcedkknfaaFin
import Derived.Deep.RegionHeld3
namespace Go.Proofs.Ytkceidcedkknfaa
open Go.RowKit
set_option linter.unusedVariables false

set_option maxHeartbeats 4000000 in
theorem of_walk {A B : List Int} {ao bo : Option Addr} {n m c d : Nat} (w : World) (hA : SlI w ao n c A) (hB : SlI w bo m d B) :
    Frame.Law Try.prog 7 #[.slice ao n c, .slice bo m d] w := by
  unfold Frame.Law
  have hmA := Nat.le_trans hA.le hA.max
  have hmB := Nat.le_trans hB.le hB.max
  have hlA := Lib.hid hA.len
  have hlB := Lib.hid hB.len
  unfold maxLen at hmA hmB
  by_cases hn : (300 : Int) < n
  · go_enter Try.func7, Try.ntmps7
    go_wp2_with (go_at_call 8; refine (fixed_calls _).mono ?_; rintro e w1 ⟨rfl, hb1⟩)
    go_ret
    exact ⟨rfl, hb1⟩
  · by_cases hm : (300 : Int) < m
    · go_enter Try.func7, Try.ntmps7
      go_wp2_with (go_at_call 8; refine (fixed_calls _).mono ?_; rintro e w1 ⟨rfl, hb1⟩)
      go_ret
      exact ⟨rfl, hb1⟩
    · obtain ⟨k, hk⟩ : ∃ k, common A B = k := ⟨_, rfl⟩
      have k1 : k ≤ n := by rw [← hk, ← hlA.out]; exact (common_le _ _).1
      have k2 : k ≤ m := by rw [← hk, ← hlB.out]; exact (common_le _ _).2
      have hC : A.take (n - (n - k)) ++ B.drop k = B := by
        rw [Nat.sub_sub_self k1, ← hk, take_common, List.take_append_drop]
      have HC := Lib.hid hC
      clear hC
      have hE : eqB A B = decide (((n - k : Nat) : Int) = 0 ∧ m - k = 0) := by
        by_cases h : A = B
        · rw [eqB_true h]
          subst h
          have := common_self A
          have := hlA.out
          have := hlB.out
          symm
          apply decide_eq_true
          omega
        · rw [eqB_false h]
          symm
          apply decide_eq_false
          intro hh
          apply h
          have h1 : k = n := by omega
          have h2 : k = m := by omega
          have := take_common A B
          rw [hk, List.take_of_length_le (by rw [hlA.out]; omega), List.take_of_length_le (by rw [hlB.out]; omega)] at this
          exact this
      have HE := Lib.hid hE
      have Hk := Lib.hid hk
      clear hk hE
      go_enter Try.func7, Try.ntmps7
      go_wp2_with fail
      refine (of_k Hk.out _ hA hB (by omega)).mono ?_
      rintro e w1 ⟨vo1, vc1, rfl, ho1, hb1⟩
      have hA1 := (hA.below hb1).alloc (.cells #[.int .i64 ((n - k : Nat) : Int), .slice vo1 (m - k) vc1] 24)
      have hs1 := ho1.sli.alloc (.cells #[.int .i64 ((n - k : Nat) : Int), .slice vo1 (m - k) vc1] 24)
      go_wp2_with fail
      refine (apply_len (C := B) (L := m) (n - k) _ hA1 hs1 (by omega) (by omega) (by omega) HC.out (by omega)).mono ?_
      rintro e w2 ⟨vo2, vc2, rfl, ho2, hb2⟩
      have g0 : w2.cell? ⟨w1.heap.size, 0, none⟩ = some (.int .i64 ((n - k : Nat) : Int)) := cell_below hb2 _ _ (by simp [go_sem])
      have g1 : w2.cell? ⟨w1.heap.size, 1, none⟩ = some (.slice vo1 (m - k) vc1) := cell_below hb2 _ _ (by simp [go_sem])
      have hs2 := hs1.below hb2
      have bz2 : Below w.heap.size w w2 := (hb1.alloc hb1.size _).trans (hb2.mono (Nat.le_trans hb1.size (below_alloc _ _).size))
      have ht2 := ho2.sli
      have hA2 := hA.below bz2
      have hB2 := hB.below bz2
      clear hb1 hb2 ho1 ho2 hA1 hs1
      go_wp2_with fail
      refine (common_calls_k Hk.out _ hA2 hB2).mono ?_
      rintro e w3 ⟨rfl, hb3⟩
      have g30 := cell_below hb3 _ _ g0
      have g31 := cell_below hb3 _ _ g1
      have bz3 := bz2.trans (hb3.mono bz2.size)
      have hs3 := hs2.below hb3
      have ht3 := ht2.below hb3
      have hA3 := hA.below bz3
      have hB3 := hB.below bz3
      clear hb3 g0 g1 bz2 hs2 ht2 hA2 hB2
      go_wp2_with fail
      have hw2 : IntKind.i64.wrap ((n : Int) - ((n - k : Nat) : Int)) = (k : Int) := by rw [IntKind.wrap_i64]; omega
      have hkk : ((k : Int) == (k : Int)) = true := by simp
      go_region_held3 (fun w' => w'.cell? ⟨w1.heap.size, 0, none⟩ = some (.int .i64 ((n - k : Nat) : Int)) ∧ w'.cell? ⟨w1.heap.size, 1, none⟩ = some (.slice vo1 (m - k) vc1) ∧ Below w3.heap.size w3 w') (first | exact keepB (by assumption) (by assumption) | exact ⟨g30, g31, (Below.refl _ _).drew⟩)
        (first
          | (go_at_call 8; refine (fixed_calls _).mono ?_; rintro e w4 ⟨rfl, hb4⟩)
          | (go_at_call 16; refine (of17 Hk.out _ (hA3.below (And.right (And.right (by assumption)))) (hB3.below (And.right (And.right (by assumption)))) (by omega)).mono ?_; rintro e w4 ⟨vo5, vc5, rfl, ho5, hb4⟩; have hs5 := ho5.sli)
          | (go_at_call 15; refine (same17_true _ _ ⟨rfl, rfl⟩ _ (hs3.below (And.right (And.right (by assumption)))) hs5).mono ?_; rintro e w4 ⟨rfl, hb4⟩)
          | (go_at_call_of 12 (Value.slice vo2 m vc2); refine (same10_true rfl _ (ht3.below (And.right (And.right (by assumption)))) (hB3.below (And.right (And.right (by assumption))))).mono ?_; rintro e w4 ⟨rfl, hb4⟩)
          | (go_at_call 17; refine (empty_any _ _ _ _ _ _ HE.out).mono ?_; rintro e w4 ⟨rfl, hb4⟩)
          | (go_at_call 12; refine (same10b _ (hA3.below (And.right (And.right (by assumption)))) (hB3.below (And.right (And.right (by assumption))))).mono ?_; rintro e w4 ⟨rfl, hb4⟩))
      all_goals (go_wp2_with fail; go_ret; exact ⟨rfl, bz3.trans (Below.mono (And.right (And.right (by assumption))) bz3.size)⟩)

theorem editOf_law (W : World) (base : Nat) {H : Type} {enc : TypeId × Value → H} (args : Array Value) (ds : List (DataW H)) (p : List MemPlace)
    (hval : ∀ (j : Nat) t v, Try.f7.params[j]? = some t → args[j]? = some v → Value.okWide Try.prog W .any base t v)
    (hA : DataW.TrodAll enc Try.prog W 0 (fun _ => true) true Try.f7.params.toList args.toList ds p) :
    Frame.Law Try.prog 7 args W := by
  rw [Try.params7] at hA hval
  obtain ⟨v0, v1, d0, d1, p0, p1, rfl, rfl, rfl, h0, h1⟩ := Go.ChangeShapes.trodAll_two hA
  obtain ⟨ao0, n0, c0, A0, rfl, hs0, hw0⟩ := sli_open Try.underlying22 Try.underlying3 cellsInt (hval 0 22 v0 rfl rfl) h0
  obtain ⟨ao1, n1, c1, A1, rfl, hs1, hw1⟩ := sli_open Try.underlying22 Try.underlying3 cellsInt (hval 1 22 v1 rfl rfl) h1
  exact of_walk W hs0 hs1

set_option maxRecDepth 100000 in
theorem editOf_lifted (os : Os) (started : os.Started) (H : Type) (enc : TypeId × Value → H) :
    ReturnsInHanded {} Try.checked os 7 .any (Rows.editOfSpec.pre6 enc Try.prog Try.f7 Rows.editOfRow.domain false) (Rows.editOfSpec.post enc Try.prog Try.f7 false true false false) :=
  Frame.law_lift (C := Try.checked) (fn := Try.f7) own started (by kernel_rfl) Try.func7 laidOut (by decide +kernel) rfl Try.underlying4 rfl
    (fun ds h => by match ds, h with | [d1, d2], _ => rfl)
    (ChangeSpec.witness6 (enc := enc) (C := Try.checked) false ⟨#[], #[.slice none 0 0, .slice none 0 0], []⟩ 8 (by kernel_rfl) (by kernel_rfl) (by kernel_rfl) (by kernel_rfl))
    (fun W base args ds p hval hA => editOf_law W base args ds p hval hA)

theorem editOf_holds : Rows.EditOfSaid :=
  OpenClaim.holds_of_wide 7 Try.f7 rfl rfl rfl rfl rfl rfl rfl ⟨rfl, rfl, rfl, rfl, rfl⟩ rfl rfl rfl rfl rfl (by kernel_rfl) Try.func7 (by kernel_rfl)
    (of_decide_eq_true (by kernel_rfl)) (by unfold Func.isWrapper; rw [if_neg (of_decide_eq_false (by kernel_rfl))]; exact ⟨rfl, rfl⟩)
    (fun os started H enc _ => editOf_lifted os started H enc)

#print axioms editOf_holds
end Go.Proofs.Ytkceidcedkknfaa
