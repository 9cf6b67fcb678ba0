/- Walk: the law's own examples hold. -/
import Derived.Test.YtkceidcedkknfaaRef17
namespace Go.Proofs.Ytkceidcedkknfaa
open Go.RowKit
set_option linter.unusedVariables false

theorem SlI.lit (w : World) (xs : List Int) (cs : Array Value) (hcs : cs = (xs.map (.int .i64)).toArray) (g n : Nat) (hg : g = w.heap.size) (hn : n = xs.length) (hm : n ≤ 100) (t : TypeId) :
    SlI (w.alloc (.cells cs t)) (some ⟨g, 0, none⟩) n n xs := by
  subst hg hn hcs
  refine ⟨by simp, Nat.le_refl _, by unfold maxLen; omega, by simp, fun i u hu => ⟨_, _, rfl, ?_⟩⟩
  simp [hu]

theorem of_lit (W : World) {ao bo : Option Addr} {c d : Nat} (hA : SlI W ao 3 c [1, 2, 3]) (hB : SlI W bo 2 d [1, 4]) :
    Calls Try.prog 10 #[.slice ao 3 c, .slice bo 2 d] W fun e w' => ∃ vo vc, e = .returned (edV 2 (.slice vo 1 vc)) ∧ Own w' W.heap.size (.slice vo 1 vc) [4] ∧ Below W.heap.size W w' :=
  (of_calls W hA hB (by omega)).mono fun e w' h => h

theorem then_lit (W : World) {ao bo : Option Addr} {c d : Nat} (hA : SlI W ao 1 c [4]) (hB : SlI W bo 1 d [5]) :
    Calls Try.prog 11 #[edV 2 (.slice ao 1 c), edV 1 (.slice bo 1 d)] W fun e w' => ∃ vo vc, e = .returned (.tuple #[edV 2 (.slice vo 1 vc), .bool true]) ∧ Own w' W.heap.size (.slice vo 1 vc) [5] ∧ Below W.heap.size W w' := by
  have := then_calls 2 1 W hA hB (by omega)
  have e : thenL [4] 2 1 [5] = ((2, [5]), true) := by decide
  rw [e] at this
  exact this

theorem same_lit (W : World) (r : Int) (xs : List Int) {ao bo : Option Addr} {n c d : Nat} (hA : SlI W ao n c xs) (hB : SlI W bo n d xs) :
    Calls Try.prog 15 #[edV r (.slice ao n c), edV r (.slice bo n d)] W fun e w' => e = .returned (.bool true) ∧ Below W.heap.size W w' := by
  have := same17 r r W hA hB
  have e : sameE r r xs xs = true := by simp [sameE]
  rw [e] at this
  exact this

theorem Own.sli {w : World} {base : Nat} {vo : Option Addr} {n c : Nat} {A : List Int} (h : Own w base (.slice vo n c) A) : SlI w vo n c A := by
  have hA := h.block.1
  obtain ⟨ao, cap, e, hs⟩ := h.sl
  simp at e
  obtain ⟨rfl, _, rfl⟩ := e
  rw [hA] at hs
  exact hs

set_option maxHeartbeats 2000000 in
theorem fixed_calls (w : World) : Calls Try.prog 8 #[] w fun e w' => e = .returned (.bool true) ∧ Below w.heap.size w w' := by
  go_enter Try.func8, Try.ntmps8
  go_wp2_with fail
  refine (of_lit _ ((SlI.lit _ [1, 2, 3] _ rfl _ _ rfl rfl (by decide) _).alloc _) (SlI.lit _ [1, 4] _ rfl _ _ (by simp) rfl (by decide) _)).mono ?_
  rintro e w1 ⟨vo1, vc1, rfl, ho1, hb1⟩
  have bz1 := ((below_alloc w _).alloc (below_alloc w _).size _).trans (hb1.mono ((below_alloc w _).alloc (below_alloc w _).size _).size)
  have hz1 := bz1.size
  clear hb1
  go_wp2_with fail
  refine (then_lit _ ((ho1.sli.alloc _).alloc _) (SlI.lit _ [5] _ rfl _ _ (by simp) rfl (by decide) _)).mono ?_
  rintro e w2 ⟨vo2, vc2, rfl, ho2, hb2⟩
  have hs1 : SlI w1 vo1 1 vc1 [4] := ho1.sli
  have hs2 : SlI w2 vo2 1 vc2 [5] := ho2.sli
  have hb12 : Below w1.heap.size w1 w2 := ((below_alloc w1 _).alloc (below_alloc w1 _).size _).trans (hb2.mono ((below_alloc w1 _).alloc (below_alloc w1 _).size _).size)
  have g0 : w2.cell? ⟨w1.heap.size, 0, none⟩ = some (.int .i64 2) := cell_below hb2 _ _ (by simp [go_sem])
  have g1 : w2.cell? ⟨w1.heap.size, 1, none⟩ = some (.slice vo1 1 vc1) := cell_below hb2 _ _ (by simp [go_sem])
  have hz2 := alloc_lt hb2
  simp at hz2
  have hz3 : w1.heap.size < w2.heap.size := by omega
  have hs12 : SlI w2 vo1 1 vc1 [4] := hs1.below hb12
  have bz2 := bz1.trans (hb12.mono hz1)
  clear hb2 ho1 ho2 hb12 bz1
  go_wp2_with fail
  refine (same_lit _ 2 [4] ((hs12.alloc _).alloc _) (SlI.lit _ [4] _ rfl _ _ (by simp) rfl (by decide) _)).mono ?_
  rintro e w3 ⟨rfl, hb3⟩
  have hs23 : SlI w3 vo2 1 vc2 [5] := ((hs2.alloc _).alloc _).below hb3
  have f0 : w3.cell? ⟨w2.heap.size, 0, none⟩ = some (.int .i64 2) := cell_below hb3 _ _ (by simp [go_sem])
  have f1 : w3.cell? ⟨w2.heap.size, 1, none⟩ = some (.slice vo2 1 vc2) := cell_below hb3 _ _ (by simp [go_sem])
  have bz3 := (((bz2.alloc bz2.size _).alloc (Nat.le_trans bz2.size (below_alloc _ _).size) _)).trans (hb3.mono (Nat.le_trans bz2.size (Nat.le_trans (below_alloc _ _).size (below_alloc _ _).size)))
  clear hb3
  go_wp2_with fail
  refine (same_lit _ 2 [5] (hs23.alloc _) (SlI.lit _ [5] _ rfl _ _ (by simp) rfl (by decide) _)).mono ?_
  rintro e w4 ⟨rfl, hb4⟩
  go_wp2_with fail
  go_ret
  exact ⟨rfl, (bz3.alloc bz3.size _).trans (hb4.mono (Nat.le_trans bz3.size (below_alloc _ _).size))⟩

end Go.Proofs.Ytkceidcedkknfaa
