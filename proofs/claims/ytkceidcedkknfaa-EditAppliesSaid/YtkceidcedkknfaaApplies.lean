/- EditApplies: whatever the view and the edit: the law returns true and turns nothing that was there. No condition. -/
import Derived.Test.YtkceidcedkknfaaFin
import Derived.Deep.RegionHeld3
namespace Go.Proofs.Ytkceidcedkknfaa
open Go.RowKit
set_option linter.unusedVariables false

/-- One more, as int64 has it. -/
def inc1 (x : Int) : Int := wrap64 (x + 1)
/-- The first k numbers are raised by one. -/
def bump (A : List Int) (k : Nat) : List Int := (A.take k).map inc1 ++ A.drop k

theorem bump_zero (A : List Int) : bump A 0 = A := by simp [bump]
theorem bump_length (A : List Int) (k : Nat) : (bump A k).length = A.length := by simp [bump]; omega
theorem bump_ix {A : List Int} {k : Nat} (h : k < A.length) : ix (bump A k) k = ix A k := by
  have e : (bump A k)[k]? = A[k]? := by
    rw [bump, List.getElem?_append_right (by simp; omega)]
    have : ((A.take k).map inc1).length = k := by simp; omega
    rw [this, List.getElem?_drop]
    simp
  simp [ix, List.getD, e]
theorem bump_set {A : List Int} {k : Nat} (h : k < A.length) : (bump A k).set k (inc1 (ix A k)) = bump A (k + 1) := by
  have hl : ((A.take k).map inc1).length = k := by simp; omega
  rw [bump, List.set_append_right _ _ (by rw [hl]; exact Nat.le_refl _), hl, Nat.sub_self]
  have hd : A.drop k = ix A k :: A.drop (k + 1) := by
    rw [List.drop_eq_getElem_cons h]
    congr 1
    have := ix_eq h
    rw [List.getElem?_eq_getElem h] at this
    exact Option.some.inj this
  rw [hd, List.set_cons_zero, bump, ← take_snoc h]
  simp

theorem Own.store {w : World} {base g n c : Nat} {A : List Int} (h : Own w base (.slice (some ⟨g, 0, none⟩) n c) A) {k : Nat} (x : Int) :
    Own (w.setCell ⟨g, k, none⟩ (.int .i64 x)) base (.slice (some ⟨g, 0, none⟩) n c) (A.set k x) := by
  have h1 := h.block.1
  subst h1
  have := (World.ownsRow.stored h k (.int .i64 x)).1
  unfold Own
  rw [List.length_set, List.map_set]
  exact this

theorem Own.cell {w : World} {base g n c : Nat} {A : List Int} (h : Own w base (.slice (some ⟨g, 0, none⟩) n c) A) {k : Nat} (hk : k < n) :
    w.cell? ⟨g, k, none⟩ = some (.int .i64 (ix A k)) ∧ w.frozen? ⟨g, k, none⟩ = false := by
  have h1 := h.block.1
  subst h1
  refine ⟨?_, World.ownsRow.frozenAt h k⟩
  rw [World.ownsRow.cellAt h k (by simpa using hk), List.getElem?_map, ix_eq hk]
  rfl

/-- Where a row of the call's own lies. -/
theorem Own.lt {w : World} {base : Nat} {vo : Option Addr} {n c : Nat} {A : List Int} (h : Own w base (.slice vo n c) A) : ∀ g : Nat, vo = some ⟨g, 0, none⟩ → base ≤ g ∧ g < w.heap.size :=
  fun g hg => World.ownsRow.lt h g (by rw [hg]; rfl)

/-- A row stays where only blocks from B on are written, it lying below. -/
theorem Own.keep {w w' : World} {base B : Nat} {vo : Option Addr} {n c : Nat} {A : List Int} (h : Own w base (.slice vo n c) A) (hlt : ∀ g : Nat, vo = some ⟨g, 0, none⟩ → g < B) (hb : Below B w w') : Own w' base (.slice vo n c) A := by
  obtain ⟨h1, h2⟩ := h
  refine ⟨h1, ?_⟩
  rcases h2 with h2 | ⟨g, cap, cur, hv, hg, hh, r⟩
  · exact .inl h2
  · have : vo = some ⟨g, 0, none⟩ := by simp at hv; exact hv.1
    exact .inr ⟨g, cap, cur, hv, hg, by rw [hb.block g (hlt g this)]; exact hh, r⟩

set_option maxHeartbeats 4000000 in
theorem applies_walk {A B : List Int} {ao bo : Option Addr} {n m c d : Nat} (r : Int) (w : World) (hA : SlI w ao n c A) (hB : SlI w bo m d B) :
    Frame.Law Try.prog 5 #[.slice ao n c, edV r (.slice bo m d)] w := by
  unfold Frame.Law
  have hmA := Nat.le_trans hA.le hA.max
  have hmB := Nat.le_trans hB.le hB.max
  have hlA := Lib.hid hA.len
  have hlB := Lib.hid hB.len
  unfold maxLen at hmA hmB
  obtain ⟨i0, hi, hz0, hz1, hz2⟩ := info_parts infoInt
  have bz := below_alloc w (.cells #[.int .i64 r, .slice bo m d] 24)
  by_cases hn : (500 : Int) < n
  · go_enter Try.func5, Try.ntmps5
    go_wp2_with (go_at_call 8; refine (fixed_calls _).mono ?_; rintro e w1 ⟨rfl, hb1⟩)
    go_ret
    exact ⟨rfl, bz.trans (hb1.mono bz.size)⟩
  · by_cases hm : (500 : Int) < m
    · go_enter Try.func5, Try.ntmps5
      go_wp2_with (go_at_call 8; refine (fixed_calls _).mono ?_; rintro e w1 ⟨rfl, hb1⟩)
      go_ret
      exact ⟨rfl, bz.trans (hb1.mono bz.size)⟩
    · obtain ⟨C, ok, hC⟩ : ∃ C ok, applyL A r B = (C, ok) := ⟨_, _, rfl⟩
      have hCl : C.length ≤ n + m := by
        have : C = (applyL A r B).1 := by rw [hC]
        rw [this, ← hlA.out, ← hlB.out]
        unfold applyL
        split <;> simp <;> omega
      obtain ⟨L, hL⟩ : ∃ L, C.length = L := ⟨_, rfl⟩
      have hL2 : L ≤ n + m := by omega
      have HL := Lib.hid hL
      have HC := Lib.hid hC
      clear hL hC hCl
      obtain ⟨W, hW⟩ : ∃ W, W = w.alloc (.cells #[.int .i64 r, .slice bo m d] 24) := ⟨_, rfl⟩
      have hown := own_made0' W (w.heap.size + 1) (by rw [hW]; simp)
      have hAW := (hA.below (hW ▸ bz)).alloc (.cells #[] 3)
      have hBW := (hB.below (hW ▸ bz)).alloc (.cells #[] 3)
      have g0 : (W.alloc (.cells #[] 3)).cell? ⟨w.heap.size, 0, none⟩ = some (.int .i64 r) := by rw [hW]; simp [go_sem]
      have g1 : (W.alloc (.cells #[] 3)).cell? ⟨w.heap.size, 1, none⟩ = some (.slice bo m d) := by rw [hW]; simp [go_sem]
      have bzW : Below w.heap.size w (W.alloc (.cells #[] 3)) := by rw [hW]; exact bz.alloc bz.size _
      rw [hW] at hown hAW hBW g0 g1 bzW
      clear hW
      go_enter Try.func5, Try.ntmps5
      go_wp2_with (at_builtin; refine wpList_int_app rfl _ _ 22 rfl i0 Try.underlying22 hi hz0 hz1 hz2 rfl hown rfl hAW (by simp; omega) (by simp) ?_; intro v1 w1 ho1 hg1 hb1; clear hg1; obtain ⟨vo1, vc1, rfl, _⟩ := ho1.sl; have g10 := (hb1.cell (p := ⟨w.heap.size, 0, none⟩) (by simp)).trans g0; have g11 := (hb1.cell (p := ⟨w.heap.size, 1, none⟩) (by simp)).trans g1)
      have hz0' : w.heap.size < w1.heap.size := by have := hb1.size; simp at this; omega
      have bz1 : Below w.heap.size w w1 := bzW.trans (hb1.mono (by simp))
      have hA1 : SlI w1 ao n c A := hA.below bz1
      have hB1 : SlI w1 bo m d B := hB.below bz1
      have hl1 : ([] ++ A).length = n := by simp [hlA.out]
      have hs1 : SlI w1 vo1 n vc1 A := by
        have := ho1
        rw [hl1] at this
        simpa using this.sli
      rw [hlA.out]
      clear hb1 bzW ho1 hl1
      go_wp2_with fail
      have ka := apply_calls r w1 hs1 hB1 (by omega)
      rw [HC.out] at ka
      simp only [HL.out] at ka
      refine ka.mono ?_
      clear ka
      rintro e w2 ⟨vo2, vc2, rfl, ho2, hb2⟩
      have g20 := cell_below hb2 _ _ g10
      have g21 := cell_below hb2 _ _ g11
      have hA2 := hA1.below hb2
      have hB2 := hB1.below hb2
      have bz2 := bz1.trans (hb2.mono bz1.size)
      go_wp2_with fail
      have ka := refApply r w2 hA2 hB2 (by omega)
      rw [HC.out] at ka
      simp only [HL.out] at ka
      refine ka.mono ?_
      clear ka
      rintro e w3 ⟨vo3, vc3, rfl, ho3, hb3⟩
      have hs3 := (hs1.below hb2).below hb3
      have ho23 := ho2.below hb3
      have bz3 := bz2.trans (hb3.mono bz2.size)
      have hA3 := hA2.below hb3
      have hlt2 := ho2.lt
      have hb23 : Below w1.heap.size w1 w3 := hb2.trans (hb3.mono hb2.size)
      have hz3 := hb3.size
      have hz2 := hb2.size
      clear hb2 hb3 ho2 hB1 hA2 hB2 bz2 bz3 hs3 hA3 g10 g11 hAW hBW hown g0 g1 g20 g21
      go_wp2_with fail
      go_loopw [39] (fun i wr => ∃ k : Nat, k ≤ L ∧ i = .int .i64 k ∧ Own wr w1.heap.size (.slice vo2 L vc2) (bump C k) ∧ Own wr w2.heap.size (.slice vo3 L vc3) C ∧ Below w1.heap.size w1 wr ∧ w2.heap.size ≤ wr.heap.size) (fun i _ => L - (intOf i).toNat)
      case atStart => exact ⟨0, Nat.zero_le _, rfl, by rw [bump_zero]; exact ho23, ho3, hb23, hz3⟩
      case round =>
        obtain ⟨k, hk, rfl, hl, hw, hb, hz⟩ := hrel
        by_cases hlt : k < L
        · have hcell : ∃ g, vo2 = some ⟨g, 0, none⟩ := by
            rcases hl.block.2 with ⟨_, h0, _⟩ | ⟨g, _, e, _⟩
            · omega
            · exact ⟨g, e⟩
          obtain ⟨g, rfl⟩ := hcell
          have hg := hlt2 g rfl
          obtain ⟨hc1, hf1⟩ := hl.cell hlt
          rw [bump_ix (by rw [HL.out]; exact hlt)] at hc1
          go_wp2
          go_roundw
          case rel =>
            refine ⟨k + 1, by omega, by go_num, ?_, ownsRow_setCell_below hw hg.2 _, hb.setCell hg.1 _, by simpa using hz⟩
            rw [← bump_set (by rw [HL.out]; exact hlt)]
            exact hl.store _
          case measure => simp [intOf]; omega
        · obtain rfl : k = L := by omega
          have hlt3 := hw.lt
          go_wp2
          go_loopw [51] (fun i w5 => ∃ j : Nat, j ≤ k ∧ i = .int .i64 j ∧ Own w5 w1.heap.size (.slice vo2 k vc2) (bump C k) ∧ Own w5 w2.heap.size (.slice vo3 k vc3) (bump C j) ∧ Below w2.heap.size wr w5) (fun i _ => k - (intOf i).toNat)
          case atStart => exact ⟨0, Nat.zero_le _, rfl, hl, by rw [bump_zero]; exact hw, Below.refl _ _⟩
          case round =>
            obtain ⟨j, hj, rfl, hl5, hw5, hb5⟩ := hrel
            rename_i w5
            by_cases hlt5 : j < k
            · have hcell : ∃ g, vo3 = some ⟨g, 0, none⟩ := by
                rcases hw5.block.2 with ⟨_, h0, _⟩ | ⟨g, _, e, _⟩
                · omega
                · exact ⟨g, e⟩
              obtain ⟨g, rfl⟩ := hcell
              have hg := hlt3 g rfl
              obtain ⟨hc1, hf1⟩ := hw5.cell hlt5
              rw [bump_ix (by rw [HL.out]; exact hlt5)] at hc1
              go_wp2
              go_roundw
              case rel =>
                refine ⟨j + 1, by omega, by go_num, hl5.keep (fun g2 h2 => (hlt2 g2 h2).2) ((Below.refl _ _).setCell hg.1 _), ?_, hb5.setCell hg.1 _⟩
                rw [← bump_set (by rw [HL.out]; exact hlt5)]
                exact hw5.store _
              case measure => simp [intOf]; omega
            · obtain rfl : j = k := by omega
              have hb6 := hb.trans (hb5.mono hz2)
              have s1 := hs1.below hb6
              have s2 := hA1.below hb6
              have s3 := hl5.sli
              have s4 := hw5.sli
              have bz6 := bz1.trans (hb6.mono bz1.size)
              clear hb6 hl5 hw5 hb5 hb hl hw
              go_wp2_with fail
              refine (fixed_calls _).mono ?_
              rintro e w6 ⟨rfl, hb7⟩
              have t1 := s1.below hb7
              have t2 := s2.below hb7
              have t3 := s3.below hb7
              have t4 := s4.below hb7
              have bz7 := bz6.trans (hb7.mono bz6.size)
              clear s1 s2 s3 s4 hb7
              go_wp2_with fail
              refine (same10_true rfl _ t3 t4).mono ?_
              rintro e w7 ⟨rfl, hb8⟩
              have bz8 := bz7.trans (hb8.mono bz7.size)
              have q1 := t1.below hb8
              have q2 := t2.below hb8
              clear t1 t2 hb8
              go_wp2_with fail
              refine (same10_true rfl _ q1 q2).mono ?_
              rintro e w8 ⟨rfl, hb9⟩
              go_wp2_with fail
              go_ret
              exact ⟨rfl, bz8.trans (hb9.mono bz8.size)⟩

theorem editApplies_law (W : World) (base : Nat) {H : Type} {enc : TypeId × Value → H} (args : Array Value) (ds : List (DataW H)) (p : List MemPlace)
    (hval : ∀ (j : Nat) t v, Try.f5.params[j]? = some t → args[j]? = some v → Value.okWide Try.prog W .any base t v)
    (hA : DataW.TrodAll enc Try.prog W 0 (fun _ => true) true Try.f5.params.toList args.toList ds p) :
    Frame.Law Try.prog 5 args W := by
  rw [Try.params5] at hA hval
  obtain ⟨v0, v1, d0, d1, p0, p1, rfl, rfl, rfl, h0, h1⟩ := Go.ChangeShapes.trodAll_two hA
  obtain ⟨ao0, n0, c0, A0, rfl, hs0, hw0⟩ := sli_open Try.underlying22 Try.underlying3 cellsInt (hval 0 22 v0 rfl rfl) h0
  obtain ⟨r1, ao1, n1, c1, A1, rfl, hs1, hw1, hr1⟩ := edit_open (hval 1 24 v1 rfl rfl) h1
  exact applies_walk r1 W hs0 hs1

set_option maxRecDepth 100000 in
theorem editApplies_lifted (os : Os) (started : os.Started) (H : Type) (enc : TypeId × Value → H) :
    ReturnsInHanded {} Try.checked os 5 .any (Rows.editAppliesSpec.pre6 enc Try.prog Try.f5 Rows.editAppliesRow.domain false) (Rows.editAppliesSpec.post enc Try.prog Try.f5 false true false false) :=
  Frame.law_lift (C := Try.checked) (fn := Try.f5) own started (by kernel_rfl) Try.func5 laidOut (by decide +kernel) rfl Try.underlying4 rfl
    (fun ds h => by match ds, h with | [d1, d2], _ => rfl)
    (ChangeSpec.witness6 (enc := enc) (C := Try.checked) false ⟨#[], #[.slice none 0 0, .agg #[.int .i64 0, .slice none 0 0]], []⟩ 8 (by kernel_rfl) (by kernel_rfl) (by kernel_rfl) (by kernel_rfl))
    (fun W base args ds p hval hA => editApplies_law W base args ds p hval hA)

theorem editApplies_holds : Rows.EditAppliesSaid :=
  OpenClaim.holds_of_wide 5 Try.f5 rfl rfl rfl rfl rfl rfl rfl ⟨rfl, rfl, rfl, rfl, rfl⟩ rfl rfl rfl rfl rfl (by kernel_rfl) Try.func5 (by kernel_rfl)
    (of_decide_eq_true (by kernel_rfl)) (by unfold Func.isWrapper; rw [if_neg (of_decide_eq_false (by kernel_rfl))]; exact ⟨rfl, rfl⟩)
    (fun os started H enc _ => editApplies_lifted os started H enc)

#print axioms editApplies_holds
end Go.Proofs.Ytkceidcedkknfaa
