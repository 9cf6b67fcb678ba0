/- Walk: the chapter's example; the law of the nil cache. -/
import Derived.Test.YtjfpbhdcbjaahaaCRep
import Derived.Test.YtjfpbhdcbjaahaaFrame
namespace Go.Proofs.Ytjfpbhdcbjaahaa
open Go.RowKit
set_option linter.unusedVariables false

theorem Own.sl2 {w : World} {base : Nat} {vo : Option Addr} {n vc : Nat} {A : List Int} (h : Own w base (.slice vo n vc) A) : n = A.length ∧ SlI w vo n vc A := by
  obtain ⟨vo', vc', e, hs⟩ := h.sl
  simp at e
  obtain ⟨rfl, rfl, rfl⟩ := e
  exact ⟨rfl, hs⟩

theorem CRep.ft {w : World} {base top cb mb : Nat} {no : Option Addr} {l : List Row} {room hits misses : Int} (h : CRep w base top cb mb no l room hits misses) (k : Nat) (hk : Ft cb mb no k) : base ≤ k ∧ k < top := by
  obtain ⟨m, cap, N, e, y, ord, sz, f, R, hc, hg, hl⟩ := h
  rcases hk with h | h | h
  · subst h; exact hc.bc
  · subst h; exact hc.bm
  · subst h
    rcases hc.nd with ⟨h1, _⟩ | ⟨nb, h1, _, _, _, h5, h6⟩
    · cases h1
    · simp at h1; subst h1; exact ⟨h5, h6⟩

def ka : ByteArray := ⟨#[97]⟩
def kb : ByteArray := ⟨#[98]⟩
def kc : ByteArray := ⟨#[99]⟩
theorem l1 : putL [] 2 ka [1] = [(ka, [1])] := by decide
theorem l2 : putL [(ka, [1])] 2 kb [] = [(ka, [1]), (kb, [])] := by decide
theorem l3 : young [(ka, [1]), (kb, [])] ka [1] = [(kb, []), (ka, [1])] := by decide
theorem l4 : putL [(kb, []), (ka, [1])] 2 kc [] = [(ka, [1]), (kc, [])] := by decide

set_option maxHeartbeats 4000000 in
theorem fixed_calls (w : World) : Calls Try.prog 7 #[] w fun en w' => en = .returned (.bool true) ∧ Below w.heap.size w w' := by
  go_enter Try.func7, Try.ntmps7
  go_wp2_with (fail)
  refine (crep_new 2 (by omega) (by omega) w).mono ?_
  rintro en w1 ⟨cb, mb, rfl, h1, hb1⟩
  have h1a := (h1.below ((below_alloc w1 (.cells #[.int .i64 1] 3)))).up (top' := (w1.alloc (.cells #[.int .i64 1] 3)).heap.size) (by simp)
  have hft1 := Lib.hid h1.ft
  have hs1 := SlI.one w1 1 3
  have hba := hb1.alloc hb1.size (.cells #[.int .i64 1] 3)
  clear h1
  go_wp2_with (fail)
  refine (crep_put h1a ka (by decide) (by omega) (by omega) (by simp) (by simp) hs1 (fun ad e _ => by
    simp at e; subst e
    exact ⟨by simp, fun hf => by have := (hft1.out _ hf).2; simp at this⟩) (by omega)).mono ?_
  rintro en w2 ⟨rfl, g2, h2, hk2, ha2⟩
  rw [l1] at h2
  have hb2 := hba.trans (hk2.below hba.size fun k hk => (h1a.ft k hk).1)
  clear h1a hs1
  go_wp2_with (fail)
  refine (crep_put h2 kb (by decide) (by omega) (by omega) (by simp) (by simp) (SlI.none w2) (fun ad e _ => by cases e) (by omega)).mono ?_
  rintro en w3 ⟨rfl, g3, h3, hk3, ha3⟩
  rw [l2] at h3
  have hb3 := hb2.trans (hk3.below hb2.size fun k hk => (h2.ft k hk).1)
  clear h2
  go_wp2_with (fail)
  refine (crep_hit h3 (Nat.le_refl _) ka [1] (by decide) (by simp) (by omega) (by omega)).mono ?_
  rintro en w4 ⟨vo, vn, vc, rfl, ho4, h4, hk4⟩
  rw [l3] at h4
  have hft4 := Lib.hid h4.ft
  have hsz4 : w3.heap.size ≤ w4.heap.size := hk4.size
  have hb4 := hb3.trans (hk4.below hb3.size fun k hk => (h3.ft k hk).1)
  have h4' := h4.up hsz4
  clear h3 h4
  go_wp2_with (fail)
  refine (crep_put h4' kc (by decide) (by omega) (by omega) (by simp) (by simp) (SlI.none w4) (fun ad e _ => by cases e) (by omega)).mono ?_
  rintro en w5 ⟨rfl, g5, h5, hk5, ha5⟩
  rw [l4] at h5
  have hb5 := hb4.trans (hk5.below hb4.size fun k hk => (hft4.out k hk).1)
  have ho5 := ho4.stay fun k hk1 hk2 => hk5.block k hk2 fun hf => by have := (hft4.out k hf).2; omega
  clear h4' ho4
  go_wp2_with (fail)
  refine (crep_keys h5 (Nat.le_refl _) (by simp)).mono ?_
  rintro en w6 ⟨uo, un, uc, rfl, hu, hb6⟩
  have hbF := hb5.trans (hb6.mono hb5.size)
  have ho6 := ho5.stay fun k hk1 hk2 => hb6.block k hk2
  obtain ⟨rfl, hs6⟩ := ho6.sl2
  obtain ⟨b, o, rfl, c6⟩ := hs6.at_ (i := 0) (by simp)
  have hun := hu.len
  simp at hun
  subst hun
  obtain ⟨hu1, hu2, gu, rfl, hu3, hu4, cu0⟩ := hu.cell (i := 0) (by omega)
  obtain ⟨_, _, gu', e2, _, _, cu1⟩ := hu.cell (i := 1) (by omega)
  simp at e2
  subst e2
  simp [ka, kc] at cu0 cu1
  simp [ix] at c6
  have hcle := hs6.le
  have hcmx := hs6.max
  unfold maxLen at hcmx hu2
  clear hu ho6 ho5 hs6 h5
  go_wp2
  go_ret
  exact ⟨rfl, hbF⟩

end Go.Proofs.Ytjfpbhdcbjaahaa
