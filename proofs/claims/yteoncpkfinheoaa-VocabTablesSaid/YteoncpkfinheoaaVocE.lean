/- Walks: which of two merges stands ahead, by the program and by the document. -/
import Derived.Test.YteoncpkfinheoaaVocD
import Derived.Test.YteoncpkfinheoaaCmp
import Derived.Deep.RegionHeld3
import Derived.Shelf.SlSortCmp.QuietGrown
import Derived.Shelf.SlicesQ.Load
namespace Go.Proofs.Yteoncpkfinheoaa
open Go.RowKit Go.Sort
set_option linter.unusedVariables false

/-- Two merges, held against each other. -/
def cmpM (a b : Mg) : Int := orI (cmpI a.order b.order) (cmpI a.left b.left) (cmpI a.right b.right)
theorem cmpM_lt {a b : Mg} : cmpM a b < 0 ↔ ahead a b = true := by
  rw [ahead_iff]
  unfold cmpM
  rcases Int.lt_trichotomy a.order b.order with h | h | h
  · rw [cmpI_lt h, orI_first (by omega)]; omega
  · rw [h, cmpI_eq]
    rcases Int.lt_trichotomy a.left b.left with h2 | h2 | h2
    · rw [cmpI_lt h2, orI_second rfl (by omega)]; omega
    · rw [h2, cmpI_eq, orI_third rfl rfl]
      rcases Int.lt_trichotomy a.right b.right with h3 | h3 | h3
      · rw [cmpI_lt h3]; omega
      · rw [h3, cmpI_eq]; omega
      · rw [cmpI_gt h3]; omega
    · rw [cmpI_gt h2, orI_second rfl (by omega)]; omega
  · rw [cmpI_gt h, orI_first (by omega)]; omega

theorem ld4 {P : Program} {w : World} {b o : Nat} {x y z u : Value} (h0 : w.cell? ⟨b, o, none⟩ = some x) (h1 : w.cell? ⟨b, o + 1, none⟩ = some y) (h2 : w.cell? ⟨b, o + 2, none⟩ = some z) (h3 : w.cell? ⟨b, o + 3, none⟩ = some u) :
    Sem.run P (loadCellsFrom ⟨b, o, none⟩ 0 4 #[]) w = .ok #[x, y, z, u] w :=
  run_loadCellsFrom_list P w ⟨b, o, none⟩ [x, y, z, u] 4 rfl (fun j v hj => by
    rw [Addr.add_lit]
    match j, hj with
    | 0, hj => simp at hj; subst hj; exact h0
    | 1, hj => simp at hj; subst hj; exact h1
    | 2, hj => simp at hj; subst hj; exact h2
    | 3, hj => simp at hj; subst hj; exact h3
    | j + 4, hj => simp at hj)

theorem mixedOrders : Try.prog.follows .mixedOrders = true := by kernel_rfl

theorem box4 {w : World} {g : Nat} {x y z u : Value} {t : TypeId} (h : w.heap[g]? = some (.cells #[x, y, z, u] t)) : w.cell? ⟨g, 0, none⟩ = some x ∧ w.cell? ⟨g, 1, none⟩ = some y ∧ w.cell? ⟨g, 2, none⟩ = some z ∧ w.cell? ⟨g, 3, none⟩ = some u := by
  simp [World.cell?, h]

theorem keep6 {w0 w w' : World} {p1 p2 p3 p4 p5 p6 : Addr} {v1 v2 v3 v4 v5 v6 : Value} (h : w.cell? p1 = some v1 ∧ w.cell? p2 = some v2 ∧ w.cell? p3 = some v3 ∧ w.cell? p4 = some v4 ∧ w.cell? p5 = some v5 ∧ w.cell? p6 = some v6 ∧ Below w0.heap.size w0 w) (hb : Below w.heap.size w w') :
    w'.cell? p1 = some v1 ∧ w'.cell? p2 = some v2 ∧ w'.cell? p3 = some v3 ∧ w'.cell? p4 = some v4 ∧ w'.cell? p5 = some v5 ∧ w'.cell? p6 = some v6 ∧ Below w0.heap.size w0 w' :=
  ⟨cell_below hb _ _ h.1, cell_below hb _ _ h.2.1, cell_below hb _ _ h.2.2.1, cell_below hb _ _ h.2.2.2.1, cell_below hb _ _ h.2.2.2.2.1, cell_below hb _ _ h.2.2.2.2.2.1, h.2.2.2.2.2.2.trans (hb.mono h.2.2.2.2.2.2.size)⟩
theorem SlI.three (w : World) (x y z : Int) (t : TypeId) : SlI (w.alloc (.cells #[.int .i64 x, .int .i64 y, .int .i64 z] t)) (some ⟨w.heap.size, 0, .none⟩) 3 3 [x, y, z] := by
  refine ⟨rfl, Nat.le_refl _, by unfold maxLen; omega, by simp, fun i u hu => ?_⟩
  match i, hu with
  | 0, hu => simp at hu; subst hu; exact ⟨_, _, rfl, by simp⟩
  | 1, hu => simp at hu; subst hu; exact ⟨_, _, rfl, by simp⟩
  | 2, hu => simp at hu; subst hu; exact ⟨_, _, rfl, by simp⟩
  | i + 3, hu => simp at hu

set_option maxHeartbeats 1000000 in
theorem order_g (a b : Mg) (w : World) :
    Calls Try.prog 30 #[.agg #[.int .i64 a.left, .int .i64 a.right, .int .i64 a.out, .int .i64 a.order], .agg #[.int .i64 b.left, .int .i64 b.right, .int .i64 b.out, .int .i64 b.order]] w
      fun e w' => e = .returned (.int .i64 (cmpM a b)) ∧ ∃ q os, w' = grow (w.drewN q) os := by
  obtain ⟨w1, hw1⟩ : ∃ w1, w.alloc (.cells #[.int .i64 a.left, .int .i64 a.right, .int .i64 a.out, .int .i64 a.order] 51) = w1 := ⟨_, rfl⟩
  obtain ⟨w2, hw2⟩ : ∃ w2, w1.alloc (.cells #[.int .i64 b.left, .int .i64 b.right, .int .i64 b.out, .int .i64 b.order] 51) = w2 := ⟨_, rfl⟩
  have hb1 : Below w.heap.size w w1 := hw1 ▸ below_alloc w _
  have hb2 : Below w1.heap.size w1 w2 := hw2 ▸ below_alloc w1 _
  have hs1 : w1.heap.size = w.heap.size + 1 := by rw [← hw1]; simp
  have ha1 : w1.heap[w.heap.size]? = some (.cells #[.int .i64 a.left, .int .i64 a.right, .int .i64 a.out, .int .i64 a.order] 51) := by rw [← hw1]; exact heap_alloc_new w _
  have ha2 := (hb2.block w.heap.size (by omega)).trans ha1
  have hbb : w2.heap[w1.heap.size]? = some (.cells #[.int .i64 b.left, .int .i64 b.right, .int .i64 b.out, .int .i64 b.order] 51) := by rw [← hw2]; exact heap_alloc_new w1 _
  obtain ⟨a0, a1, _, a3⟩ := box4 ha2
  obtain ⟨b0, b1, _, b3⟩ := box4 hbb
  have HW := Lib.hid (hb1.trans (hb2.mono hb1.size))
  have H1 := Lib.hid hw1
  have H2 := Lib.hid hw2
  have HS1 := Lib.hid hs1
  rw [hs1] at b0 b1 b3
  clear hb1 hb2 hs1 ha1 ha2 hbb hw1 hw2
  go_enter Try.func30, Try.ntmps30
  go_wp2_with (fail)
  rw [H1.out, H2.out]
  go_region_held3 (fun w' => w'.cell? ⟨w.heap.size, 3, none⟩ = some (.int .i64 a.order) ∧ w'.cell? ⟨w.heap.size + 1, 3, none⟩ = some (.int .i64 b.order) ∧ w'.cell? ⟨w.heap.size, 0, none⟩ = some (.int .i64 a.left) ∧ w'.cell? ⟨w.heap.size + 1, 0, none⟩ = some (.int .i64 b.left) ∧ w'.cell? ⟨w.heap.size, 1, none⟩ = some (.int .i64 a.right) ∧ w'.cell? ⟨w.heap.size + 1, 1, none⟩ = some (.int .i64 b.right) ∧ Below w2.heap.size w2 w')
    (first | assumption | exact ⟨a3, b3, a0, b0, a1, b1, (Below.refl _ _).drew⟩ | exact keep6 (by assumption) (below_alloc _ _))
    (first
      | (go_at_call_of 43 (Value.int .i64 a.order); refine (compareI_calls a.order b.order _).mono ?_; rintro e w' ⟨rfl, rfl⟩)
      | (go_at_call_of 43 (Value.int .i64 a.left); refine (compareI_calls a.left b.left _).mono ?_; rintro e w' ⟨rfl, rfl⟩)
      | (go_at_call_of 43 (Value.int .i64 a.right); refine (compareI_calls a.right b.right _).mono ?_; rintro e w' ⟨rfl, rfl⟩)
      | (go_at_call 42; refine (or_calls _ (SlI.drew (SlI.three w2 _ _ _ _))).mono ?_; rintro e w' ⟨rfl, rfl⟩))
  all_goals (go_wp2_with (fail); go_ret; refine ⟨ret_i64 (nz_three _ _ _), 1, #[.cells #[.int .i64 a.left, .int .i64 a.right, .int .i64 a.out, .int .i64 a.order] 51, .cells #[.int .i64 b.left, .int .i64 b.right, .int .i64 b.out, .int .i64 b.order] 51, .cells #[.int .i64 (cmpI a.order b.order), .int .i64 (cmpI a.left b.left), .int .i64 (cmpI a.right b.right)] 3], ?_⟩)
  rw [← H2.out, ← H1.out, alloc_eq_grow, alloc_eq_grow, alloc_eq_grow, grow_grow, grow_grow]
  rfl

theorem below_grow (w : World) (n : Nat) (os : Array Obj) : Below w.heap.size w (grow (w.drewN n) os) := by
  refine ⟨rfl, rfl, rfl, by show w.heap.size ≤ (w.heap ++ os).size; simp, fun k hk => ?_⟩
  show (w.heap ++ os)[k]? = w.heap[k]?
  exact Array.getElem?_append_left hk

theorem order_calls (a b : Mg) (w : World) :
    Calls Try.prog 30 #[.agg #[.int .i64 a.left, .int .i64 a.right, .int .i64 a.out, .int .i64 a.order], .agg #[.int .i64 b.left, .int .i64 b.right, .int .i64 b.out, .int .i64 b.order]] w
      fun e w' => e = .returned (.int .i64 (cmpM a b)) ∧ Below w.heap.size w w' :=
  (order_g a b w).mono fun e w' ⟨h1, q, os, h2⟩ => ⟨h1, by rw [h2]; exact below_grow _ _ _⟩


set_option maxHeartbeats 1000000 in
theorem ahead_calls (a b : Mg) (w : World) :
    Calls Try.prog 33 #[.agg #[.int .i64 a.left, .int .i64 a.right, .int .i64 a.out, .int .i64 a.order], .agg #[.int .i64 b.left, .int .i64 b.right, .int .i64 b.out, .int .i64 b.order]] w
      fun e w' => e = .returned (.bool (ahead a b)) ∧ Below w.heap.size w w' := by
  obtain ⟨w1, hw1⟩ : ∃ w1, w.alloc (.cells #[.int .i64 a.left, .int .i64 a.right, .int .i64 a.out, .int .i64 a.order] 51) = w1 := ⟨_, rfl⟩
  obtain ⟨w2, hw2⟩ : ∃ w2, w1.alloc (.cells #[.int .i64 b.left, .int .i64 b.right, .int .i64 b.out, .int .i64 b.order] 51) = w2 := ⟨_, rfl⟩
  have hb1 : Below w.heap.size w w1 := hw1 ▸ below_alloc w _
  have hb2 : Below w1.heap.size w1 w2 := hw2 ▸ below_alloc w1 _
  have hs1 : w1.heap.size = w.heap.size + 1 := by rw [← hw1]; simp
  have ha1 : w1.heap[w.heap.size]? = some (.cells #[.int .i64 a.left, .int .i64 a.right, .int .i64 a.out, .int .i64 a.order] 51) := by rw [← hw1]; exact heap_alloc_new w _
  have ha2 := (hb2.block w.heap.size (by omega)).trans ha1
  have hbb : w2.heap[w1.heap.size]? = some (.cells #[.int .i64 b.left, .int .i64 b.right, .int .i64 b.out, .int .i64 b.order] 51) := by rw [← hw2]; exact heap_alloc_new w1 _
  obtain ⟨a0, a1, _, a3⟩ := box4 ha2
  obtain ⟨b0, b1, _, b3⟩ := box4 hbb
  have HW := Lib.hid (hb1.trans (hb2.mono hb1.size))
  have H1 := Lib.hid hw1
  have H2 := Lib.hid hw2
  have hq : ahead a b = decide (a.order < b.order ∨ (a.order = b.order ∧ (a.left < b.left ∨ (a.left = b.left ∧ a.right < b.right)))) := rfl
  have HQ := Lib.hid hq
  rw [hs1] at b0 b1 b3
  clear hb1 hb2 hs1 ha1 ha2 hbb hw1 hw2 hq
  by_cases ho : a.order = b.order
  · have n1 : (a.order != b.order) = false := by simpa using ho
    by_cases hl : a.left = b.left
    · have n2 : (a.left != b.left) = false := by simpa using hl
      have HF : Hid (ahead a b = decide (a.right < b.right)) := Lib.hid (by rw [HQ.out]; simp [ho, hl])
      clear ho hl
      go_enter Try.func33, Try.ntmps33
      go_wp2_with (fail)
      rw [H1.out, H2.out]
      go_ret
      exact ⟨ret_bool HF.out.symm, HW.out⟩
    · have n2 : (a.left != b.left) = true := by simpa using hl
      have HF : Hid (ahead a b = decide (a.left < b.left)) := Lib.hid (by rw [HQ.out]; simp [ho, hl])
      clear ho hl
      go_enter Try.func33, Try.ntmps33
      go_wp2_with (fail)
      rw [H1.out, H2.out]
      go_ret
      exact ⟨ret_bool HF.out.symm, HW.out⟩
  · have n1 : (a.order != b.order) = true := by simpa using ho
    have HF : Hid (ahead a b = decide (a.order < b.order)) := Lib.hid (by rw [HQ.out]; simp [ho])
    clear ho
    go_enter Try.func33, Try.ntmps33
    go_wp2_with (fail)
    rw [H1.out, H2.out]
    go_ret
    exact ⟨ret_bool HF.out.symm, HW.out⟩

end Go.Proofs.Yteoncpkfinheoaa
