/- VocabMay: whether any vocabulary may be is as the document says. -/
import Derived.Test.YtamicpkjdgfgiaaLawV
import Derived.Test.YtamicpkjdgfgiaaRows
namespace Go.Proofs.Ytamicpkjdgfgiaa
open Go.RowKit
set_option linter.unusedVariables false

set_option maxHeartbeats 2000000 in
theorem vocabMay_walk {V : Vc} {dd : Vd} (w : World) (hV : VocR w dd V) (hT : ∀ s ∈ V.tokens, s.size ≤ maxLen) (hS : ∀ s ∈ V.specials, s.name.size ≤ maxLen) :
    Frame.Law Try.prog 3 #[dd.val] w := by
  unfold Frame.Law
  obtain ⟨ta, tn, tc, ma, mn, mc, sa, sn, sc⟩ := dd
  obtain ⟨w0, hw0⟩ : ∃ w0, w.alloc (.cells #[.slice ta tn tc, .slice ma mn mc, .slice sa sn sc] 26) = w0 := ⟨_, rfl⟩
  have hb0 : Below w.heap.size w w0 := hw0 ▸ below_alloc w _
  have hx0 : w0.heap[w.heap.size]? = some (.cells #[.slice ta tn tc, .slice ma mn mc, .slice sa sn sc] 26) := by rw [← hw0]; exact heap_alloc_new w _
  obtain ⟨c0, c1, c2⟩ := box3v hx0
  have HV := Lib.hid (hV.below hb0)
  have HB0 := Lib.hid hb0
  have HOK : Hid ((∀ s ∈ V.tokens, s.size ≤ maxLen) ∧ Sized V.specials) := Lib.hid ⟨hT, hS⟩
  have HW0 := Lib.hid hw0
  clear hV hb0 hx0 hw0 hT hS
  have hgr := fun w' (hb : Below w0.heap.size w0 w') => great_val w' (HV.out.below hb) HOK.out
  go_enter Try.func3, Try.ntmps3
  go_wp2_with (fail)
  rw [HW0.out]
  cases hg : gV V with
  | true =>
    rw [hg] at hgr
    have hun : undef = Value.tuple #[] := rfl
    first
      | (go_region_with (first
          | (go_at_call 9; refine (hgr _ (Below.drew (Below.refl _ _))).mono ?_; rintro e w1 ⟨rfl, hb1⟩)
          | (go_at_call 10; refine (fixed_calls _).mono ?_; rintro e w2 ⟨rfl, hb2⟩)))
      | fail
    all_goals (go_wp2_with (fail); go_ret; exact ⟨rfl, (HB0.out.drew.trans (hb1.mono HB0.out.size)).trans (hb2.mono (Nat.le_trans HB0.out.size hb1.size))⟩)
  | false =>
    rw [hg] at hgr
    have HOK2 : Hid (VOk V) := Lib.hid ⟨HOK.out.1, HOK.out.2, by
      rcases Nat.lt_or_ge 1048576 V.specials.length with h | h
      · have := (gV_iff V).2 (.inr (.inr (.inl (by omega))))
        rw [hg] at this; cases this
      · exact h⟩
    have hma := fun w' (hb : Below w0.heap.size w0 w') => may_val w' (HV.out.below hb) HOK2.out
    have hrm := fun w' (hb : Below w0.heap.size w0 w') => rmay_val w' (HV.out.below hb) HOK2.out
    generalize mV V = bv at hma hrm
    have hbb : (bv == bv) = true := by simp
    have hun : undef = Value.tuple #[] := rfl
    (go_region_held3 (fun w' => w'.cell? ⟨w.heap.size, 0, none⟩ = some (.slice ta tn tc) ∧ w'.cell? ⟨w.heap.size, 1, none⟩ = some (.slice ma mn mc) ∧ w'.cell? ⟨w.heap.size, 2, none⟩ = some (.slice sa sn sc) ∧ Below w0.heap.size w0 w') (first | assumption | exact keepV (by assumption) (by assumption) | exact ⟨c0, c1, c2, (Below.refl _ _).drew⟩)
        (first
          | (go_at_call 9; refine (hgr _ (And.right (And.right (And.right (by assumption))))).mono ?_; rintro e w1 ⟨rfl, hb1⟩)
          | (go_at_call 11; refine (hma _ (And.right (And.right (And.right (by assumption))))).mono ?_; rintro e w1 ⟨rfl, hb1⟩)
          | (go_at_call 12; refine (hrm _ (And.right (And.right (And.right (by assumption))))).mono ?_; rintro e w1 ⟨rfl, hb1⟩)
          | (go_at_call 10; refine (fixed_calls _).mono ?_; rintro e w1 ⟨rfl, hb1⟩)))
    all_goals (go_wp2_with fail; go_ret; exact ⟨rfl, HB0.out.trans (Below.mono (And.right (And.right (And.right (by assumption)))) HB0.out.size)⟩)

set_option maxRecDepth 100000 in
theorem vocabMay_law (W : World) (base : Nat) {H : Type} {enc : TypeId × Value → H} (args : Array Value) (ds : List (DataW H)) (p : List MemPlace)
    (hval : ∀ (j : Nat) t v, Try.f3.params[j]? = some t → args[j]? = some v → Value.okWide Try.prog W .any base t v)
    (hA : DataW.TrodAll enc Try.prog W 0 (fun _ => true) true Try.f3.params.toList args.toList ds p) :
    Frame.Law Try.prog 3 args W := by
  rw [Try.params3] at hA hval
  obtain ⟨v0, d0, rfl, rfl, h0⟩ := Go.ChangeShapes.trodAll_one hA
  obtain ⟨dd0, V0, rfl, hV0, hT0, hS0⟩ := voc_open (hval 0 26 v0 rfl rfl) h0
  exact vocabMay_walk W hV0 hT0 hS0

set_option maxRecDepth 100000 in
theorem vocabMay_lifted (os : Os) (started : os.Started) (H : Type) (enc : TypeId × Value → H) :
    ReturnsInHanded {} Try.checked os 3 .any (Rows.vocabMaySpec.pre6 enc Try.prog Try.f3 Rows.vocabMayRow.domain false) (Rows.vocabMaySpec.post enc Try.prog Try.f3 false true false false) :=
  Frame.law_lift (C := Try.checked) (fn := Try.f3) own started (by kernel_rfl) Try.func3 laidOut (by decide +kernel) rfl Try.underlying4 rfl
    (fun ds h => by match ds, h with | [d1], _ => rfl)
    (ChangeSpec.witness6 (enc := enc) (C := Try.checked) false ⟨#[], #[.agg #[.slice none 0 0, .slice none 0 0, .slice none 0 0]], []⟩ 8 (by kernel_rfl) (by kernel_rfl) (by kernel_rfl) (by kernel_rfl))
    (fun W base args ds p hval hA => vocabMay_law W base args ds p hval hA)

theorem vocabMay_holds : Rows.VocabMaySaid :=
  OpenClaim.holds_of_wide 3 Try.f3 rfl rfl rfl rfl rfl rfl rfl ⟨rfl, rfl, rfl, rfl, rfl⟩ rfl rfl rfl rfl rfl (by kernel_rfl) Try.func3 (by kernel_rfl)
    (of_decide_eq_true (by kernel_rfl)) (by unfold Func.isWrapper; rw [if_neg (of_decide_eq_false (by kernel_rfl))]; exact ⟨rfl, rfl⟩)
    (fun os started H enc _ => vocabMay_lifted os started H enc)

#print axioms vocabMay_holds
end Go.Proofs.Ytamicpkjdgfgiaa
