/- Walks: edit.Then. -/
import Derived.Test.YtkceidcedkknfaaEdit
namespace Go.Proofs.Ytkceidcedkknfaa
open Go.RowKit
set_option linter.unusedVariables false

/-- Two edits laid behind each other, and room for a third, as a call lays them. -/
structure Boxes (N : Nat) (w : World) (r q : Int) (a b : Value) : Prop where
  c0 : w.cell? ⟨N, 0, none⟩ = some (.int .i64 r)
  c1 : w.cell? ⟨N, 1, none⟩ = some a
  c2 : w.cell? ⟨N + 1, 0, none⟩ = some (.int .i64 q)
  c3 : w.cell? ⟨N + 1, 1, none⟩ = some b
  c4 : w.cell? ⟨N + 1 + 1, 0, none⟩ = some (.int .i64 0)
  c5 : w.cell? ⟨N + 1 + 1, 1, none⟩ = some (.slice none 0 0)
  f4 : ∀ o, w.frozen? ⟨N + 1 + 1, o, none⟩ = false
  lt : N + 1 + 1 < w.heap.size

theorem Boxes.below {N : Nat} {w w' : World} {r q : Int} {a b : Value} (h : Boxes N w r q a b) (hb : Below w.heap.size w w') : Boxes N w' r q a b :=
  ⟨cell_below hb _ _ h.c0, cell_below hb _ _ h.c1, cell_below hb _ _ h.c2, cell_below hb _ _ h.c3, cell_below hb _ _ h.c4, cell_below hb _ _ h.c5, fun o => (hb.frozen (p := ⟨N + 1 + 1, o, none⟩) h.lt).trans (h.f4 o), Nat.lt_of_lt_of_le h.lt hb.size⟩

theorem boxes_made (w : World) (r q : Int) (ao bo : Option Addr) (n c m d : Nat) :
    Boxes w.heap.size (((w.alloc (.cells #[.int .i64 r, .slice ao n c] 24)).alloc (.cells #[.int .i64 q, .slice bo m d] 24)).alloc (.cells #[.int .i64 0, .slice none 0 0] 24)) r q (.slice ao n c) (.slice bo m d) := by
  refine ⟨?_, ?_, ?_, ?_, ?_, ?_, ?_, ?_⟩
  · simp [go_sem]
  · simp [go_sem]
  · simp [go_sem]
  · simp [go_sem]
  · simp [go_sem]
  · simp [go_sem]
  · intro o; simp [go_sem]
  · simp [go_sem]

/-- What stands behind the statement that makes the third edit: it lies at p. -/
structure Third (N : Nat) (w w' : World) (r' : Int) (L : Nat) (C : List Int) (p : Value) (g : Nat) (vo : Option Addr) (vc : Nat) : Prop where
  ptr : p = .pointer (some ⟨g, 0, none⟩)
  h0 : w'.cell? ⟨g, 0, none⟩ = some (.int .i64 r')
  h1 : w'.cell? ⟨g, 1, none⟩ = some (.slice vo L vc)
  own : Own w' (N + 1 + 1 + 1) (.slice vo L vc) C
  c4 : w'.cell? ⟨N + 1 + 1, 0, none⟩ = some (.int .i64 0)
  c5 : w'.cell? ⟨N + 1 + 1, 1, none⟩ = some (.slice none 0 0)
  f4 : ∀ o, w'.frozen? ⟨N + 1 + 1, o, none⟩ = false
  lt : N + 1 + 1 < w'.heap.size
  ne : N + 1 + 1 < g
  below : Below N w w'

def IsThird (N : Nat) (w w' : World) (r' : Int) (L : Nat) (C : List Int) (p : Value) : Prop := ∃ g vo vc, Third N w w' r' L C p g vo vc

section
variable {w w2 W w3 : World} {r' : Int} {L vc : Nat} {vo : Option Addr} {C : List Int}

theorem third_new (c4 : w2.cell? ⟨w.heap.size + 1 + 1, 0, none⟩ = some (.int .i64 0)) (c5 : w2.cell? ⟨w.heap.size + 1 + 1, 1, none⟩ = some (.slice none 0 0)) (f4 : ∀ o, w2.frozen? ⟨w.heap.size + 1 + 1, o, none⟩ = false)
    (lt : w.heap.size + 1 + 1 < w2.heap.size) (bz : Below w.heap.size w w2) (hW : Below w2.heap.size w2 W) (hb : Below W.heap.size W w3) (ho : Own w3 W.heap.size (.slice vo L vc) C) (t : TypeId) :
    IsThird w.heap.size w (w3.alloc (.cells #[.int .i64 r', .slice vo L vc] t)) r' L C (.pointer (some ⟨w3.heap.size, 0, none⟩)) := by
  have h2 : Below w2.heap.size w2 w3 := hW.trans (hb.mono hW.size)
  have h3 : Below w2.heap.size w2 (w3.alloc (.cells #[.int .i64 r', .slice vo L vc] t)) := h2.alloc h2.size _
  have hs := hW.size
  have hs3 := h2.size
  exact ⟨_, vo, vc, rfl, by simp, by simp, (ho.mono (by omega)).alloc _, cell_below h3 _ _ c4, cell_below h3 _ _ c5, fun o => (h3.frozen (p := ⟨w.heap.size + 1 + 1, o, none⟩) lt).trans (f4 o), by simp; omega, by omega, bz.trans (h3.mono bz.size)⟩

theorem third_set (c4 : w2.cell? ⟨w.heap.size + 1 + 1, 0, none⟩ = some (.int .i64 0)) (c5 : w2.cell? ⟨w.heap.size + 1 + 1, 1, none⟩ = some (.slice none 0 0)) (f4 : ∀ o, w2.frozen? ⟨w.heap.size + 1 + 1, o, none⟩ = false)
    (lt : w.heap.size + 1 + 1 < w2.heap.size) (bz : Below w.heap.size w w2) (hW : Below w2.heap.size w2 W) (hb : Below W.heap.size W w3) (ho : Own w3 W.heap.size (.slice vo L vc) C)
    {g : Nat} {u0 u1 : Value} (hg : w2.heap.size ≤ g) (g0 : W.cell? ⟨g, 0, none⟩ = some u0) (g1 : W.cell? ⟨g, 1, none⟩ = some u1) :
    IsThird w.heap.size w ((w3.setCell ⟨g, 0, none⟩ (.int .i64 r')).setCell ⟨g, 1, none⟩ (.slice vo L vc)) r' L C (.pointer (some ⟨g, 0, none⟩)) := by
  have hgW : g < W.heap.size := World.block_lt_of_cell? W _ g0
  have h2 : Below w2.heap.size w2 w3 := hW.trans (hb.mono hW.size)
  have h3 : Below w2.heap.size w2 ((w3.setCell ⟨g, 0, none⟩ (.int .i64 r')).setCell ⟨g, 1, none⟩ (.slice vo L vc)) := (h2.setCell (by simp only []; omega) _).setCell (by simp only []; omega) _
  have hs := hW.size
  have hs3 := h3.size
  have k0 := cell_below hb _ _ g0
  have k1 := cell_below hb _ _ g1
  exact ⟨g, vo, vc, rfl, by simp [go_sem, k0], by simp [go_sem, k1], Own.mono (ownsRow_setCell_below (ownsRow_setCell_below ho hgW _) hgW _) (by omega), cell_below h3 _ _ c4, cell_below h3 _ _ c5, fun o => (h3.frozen (p := ⟨w.heap.size + 1 + 1, o, none⟩) lt).trans (f4 o), by omega, by omega, bz.trans (h3.mono bz.size)⟩
end

/-- The edit that two make. -/
def thenL (A : List Int) (r q : Int) (B : List Int) : (Int × List Int) × Bool :=
  if (0 ≤ r ∧ r ≤ 1048576) ∧ (0 ≤ q ∧ q ≤ 1048576) ∧ 0 ≤ r + q - (A.length - (A.length - q.toNat : Nat)) ∧ r + q - (A.length - (A.length - q.toNat : Nat)) ≤ 1048576 then
    ((r + q - (A.length - (A.length - q.toNat : Nat)), A.take (A.length - q.toNat) ++ B), true)
  else ((0, []), false)

set_option maxHeartbeats 4000000 in
theorem then_1 {A B : List Int} {ao bo : Option Addr} {n m c d : Nat} (r : Int) (Z : Nat) (w : World) (hA : SlI w ao n c A) (hB : SlI w bo m d B) (hreach : (n + m) * 8 ≤ 140737488355328)
    (h0 : 0 ≤ r) (h1 : r ≤ 1048576) (h3 : Z ≤ 1048576) (hq : Z < n) :
    Calls Try.prog 11 #[edV r (.slice ao n c), edV (Z : Int) (.slice bo m d)] w fun e w' => ∃ v vo vc, e = .returned (.tuple #[edV r v, .bool true]) ∧ v = .slice vo (n - Z + m) vc ∧ Own w' w.heap.size v (A.take (n - Z) ++ B) ∧ Below w.heap.size w w' := by
  have hlA := Lib.hid hA.len
  obtain ⟨i0, hi, hz0, hz1, hz2⟩ := info_parts infoInt
  have bx := boxes_made w r Z ao bo n c m d
  have bz := ((below_alloc w (.cells #[.int .i64 r, .slice ao n c] 24)).alloc (below_alloc w _).size (.cells #[.int .i64 Z, .slice bo m d] 24)).alloc (Nat.le_trans (below_alloc w _).size (below_alloc _ _).size) (.cells #[.int .i64 0, .slice none 0 0] 24)
  go_enter Try.func11, Try.ntmps11
  go_wp2_with fail
  refine (may_any _ _ _ _ _ true (by simp; omega)).mono ?_
  rintro e w1 ⟨rfl, hb1⟩
  have bx1 := bx.below hb1
  have bz1 := bz.trans (hb1.mono bz.size)
  obtain ⟨c0, c1, c2, c3, c4, c5, f4, lt⟩ := id bx1
  clear bx bz hb1 c4 c5 f4
  go_wp2_with fail
  refine (may_any _ _ _ _ _ true (by simp; omega)).mono ?_
  rintro e w2 ⟨rfl, hb2⟩
  have bx2 := bx1.below hb2
  have bz2 := bz1.trans (hb2.mono bz1.size)
  clear c0 c1 c2 c3 lt bx1 hb2 bz1
  have hA2 := hA.below bz2
  have hB2 := hB.below bz2
  obtain ⟨c0, c1, c2, c3, c4, c5, f4, lt⟩ := id bx2
  have hle := hA.le
  have hmx := hA.max
  unfold maxLen at hmx
  · have hL0 : (Z : Int) ≤ (n : Int) := by omega
    have hL1 : (n : Int) - (Z : Int) ≤ (c : Int) := by omega
    have hn0 : ¬ w2.heap.size = w.heap.size := by omega
    have hn1 : ¬ w2.heap.size = w.heap.size + 1 := by omega
    have hn2 : ¬ w.heap.size = w2.heap.size := by omega
    have hn3 : ¬ w.heap.size + 1 = w2.heap.size := by omega
    have hlen : (A.take (n - Z)).length = n - Z := by rw [List.length_take, hlA.out]; omega
    have hA3 : SlI w2 ao (n - Z) c (A.take (n - Z)) := hA2.take (by omega)
    have hlB := hB.len
    have HLB := Lib.hid hlB
    have HLA := Lib.hid hlen
    clear hlB hlen
    have hr1 : ∀ (W : World), SlI W ao (n - Z) c (A.take (n - Z)) → SlI W bo m d B → ∀ g, g = W.heap.size → SlRows (W.alloc (.cells #[.slice ao (n - Z) c, .slice bo m d] 22)) (some ⟨g, 0, none⟩) 2 2 [A.take (n - Z), B] := by
      intro W h1 h2 g hg
      have := SlRows.two (A := A.take (n - Z)) (B := B) (by rw [HLA.out]; exact h1) (by rw [HLB.out]; exact h2) 22 g hg
      rw [HLA.out, HLB.out] at this
      exact this
    have HLL := Lib.hid (show ([A.take (n - Z), B] : List (List Int)).flatten.length = n - Z + m by rw [List.flatten_cons, List.length_append, HLA.out]; simp [HLB.out])
    have HFL := Lib.hid (show ([A.take (n - Z), B] : List (List Int)).flatten = A.take (n - Z) ++ B by simp)
    have HR1 := Lib.hid hr1
    clear hr1
    go_wp2_with fail
    go_cut [7] (fun s7 wx => IsThird w.heap.size w wx (r) (n - Z + m) (A.take (n - Z) ++ B) s7)
    case first =>
      have hw1 : IntKind.i64.wrap (r + (Z : Int)) = r + (Z : Int) := by rw [IntKind.wrap_i64]; omega
      have hw2 : IntKind.i64.wrap ((n : Int) - ((n : Int) - (Z : Int))) = (Z : Int) := by rw [IntKind.wrap_i64]; omega
      have hw3 : IntKind.i64.wrap r = r := by rw [IntKind.wrap_i64]; omega
      go_region_held3 (fun w' => w'.cell? ⟨w.heap.size, 0, none⟩ = some (.int .i64 r) ∧ w'.cell? ⟨w.heap.size, 1, none⟩ = some (.slice ao n c) ∧ w'.cell? ⟨w.heap.size + 1, 0, none⟩ = some (.int .i64 Z) ∧ w'.cell? ⟨w.heap.size + 1, 1, none⟩ = some (.slice bo m d)) (first | exact keep4 (by assumption) (by assumption) | exact keep4 k3 (below_alloc _ _) | exact keep4_set (keep4_set k3 (by simp only []; omega)) (by simp only []; omega) | go_keep)
        (first | (go_at_call 20; refine (concat_len (R := [A.take (n - Z), B]) (L := n - Z + m) _ ?_ HLL.out (by omega)).mono ?_; (first | exact (HR1.out _ hA3 hB2 _ rfl).drew | exact (HR1.out _ (hA3.alloc _) (hB2.alloc _) _ (by simp)).drew | exact ((HR1.out _ hA3 hB2 _ rfl).alloc _).drew); rintro e w3 ⟨vo, vc, rfl, ho3, hb3⟩; obtain ⟨hcl3, hfr3⟩ := bcell hb3; have k3 := keep4 (p1 := ⟨w.heap.size, 0, none⟩) (p2 := ⟨w.heap.size, 1, none⟩) (p3 := ⟨w.heap.size + 1, 0, none⟩) (p4 := ⟨w.heap.size + 1, 1, none⟩) (by assumption) hb3))
      all_goals (go_wp2_with fail; go_meet; rw [HFL.out] at ho3)
      · exact third_new c4 c5 f4 lt bz2 ((below_alloc w2 _).drew) hb3 ho3 _
      · exact third_set c4 c5 f4 lt bz2 (((below_alloc w2 _).alloc (below_alloc w2 _).size _).drew) hb3 ho3 (by simp) (by simp [go_sem]; rfl) (by simp [go_sem]; rfl)
      · exact third_set c4 c5 f4 lt bz2 (((below_alloc w2 _).alloc (below_alloc w2 _).size _).drew) hb3 ho3 (by simp) (by simp [go_sem]; rfl) (by simp [go_sem]; rfl)
    case rest =>
        obtain ⟨g, vo, vc, hT⟩ := hcut
        obtain ⟨rfl, h0', h1', ho', c4', c5', f4', lt', ne', hb'⟩ := hT
        go_wp2_with (go_at_call 19; refine (may_any _ _ _ _ _ true (by simp; omega)).mono ?_; rintro e w4 ⟨rfl, hb4⟩; obtain ⟨hcl4, hfr4⟩ := bcell hb4; have c40 := cell_below hb4 _ _ c4'; have c50 := cell_below hb4 _ _ c5'; have g40 := cell_below hb4 _ _ h0'; have g41 := cell_below hb4 _ _ h1'; have f40 : ∀ o, w4.frozen? ⟨w.heap.size + 1 + 1, o, none⟩ = false := fun o => (hfr4 _ o lt').trans (f4' o))
        refine bodyPost_ret (v := .tuple #[edV r (.slice vo (n - Z + m) vc), .bool true]) ?_ rfl ⟨_, vo, vc, rfl, rfl, ?_, ?_⟩
        · simp [results, Try.results11, go_sem, c40, c50]
        · exact Own.mono (ownsRow_setCell_below (ownsRow_setCell_below (ho'.below hb4) (by simp) _) (by simp) _) (by omega)
        · exact (((hb'.trans (hb4.mono (by omega))).setCell (by simp only []; omega) _).setCell (by simp only []; omega) _)

set_option maxHeartbeats 4000000 in
theorem then_2 {A B : List Int} {ao bo : Option Addr} {n m c d : Nat} (r : Int) (Z : Nat) (w : World) (hA : SlI w ao n c A) (hB : SlI w bo m d B) (hreach : (n + m) * 8 ≤ 140737488355328)
    (h0 : 0 ≤ r) (h1 : r ≤ 1048576) (h3 : Z ≤ 1048576) (hq : ¬ Z < n) (hr :  r + Z - n ≤ 1048576) :
    Calls Try.prog 11 #[edV r (.slice ao n c), edV (Z : Int) (.slice bo m d)] w fun e w' => ∃ v vo vc, e = .returned (.tuple #[edV (r + Z - n) v, .bool true]) ∧ v = .slice vo m vc ∧ Own w' w.heap.size v (A.take 0 ++ B) ∧ Below w.heap.size w w' := by
  have hlA := Lib.hid hA.len
  obtain ⟨i0, hi, hz0, hz1, hz2⟩ := info_parts infoInt
  have bx := boxes_made w r Z ao bo n c m d
  have bz := ((below_alloc w (.cells #[.int .i64 r, .slice ao n c] 24)).alloc (below_alloc w _).size (.cells #[.int .i64 Z, .slice bo m d] 24)).alloc (Nat.le_trans (below_alloc w _).size (below_alloc _ _).size) (.cells #[.int .i64 0, .slice none 0 0] 24)
  go_enter Try.func11, Try.ntmps11
  go_wp2_with fail
  refine (may_any _ _ _ _ _ true (by simp; omega)).mono ?_
  rintro e w1 ⟨rfl, hb1⟩
  have bx1 := bx.below hb1
  have bz1 := bz.trans (hb1.mono bz.size)
  obtain ⟨c0, c1, c2, c3, c4, c5, f4, lt⟩ := id bx1
  clear bx bz hb1 c4 c5 f4
  go_wp2_with fail
  refine (may_any _ _ _ _ _ true (by simp; omega)).mono ?_
  rintro e w2 ⟨rfl, hb2⟩
  have bx2 := bx1.below hb2
  have bz2 := bz1.trans (hb2.mono bz1.size)
  clear c0 c1 c2 c3 lt bx1 hb2 bz1
  have hA2 := hA.below bz2
  have hB2 := hB.below bz2
  obtain ⟨c0, c1, c2, c3, c4, c5, f4, lt⟩ := id bx2
  have hle := hA.le
  have hmx := hA.max
  unfold maxLen at hmx
  · have hL0 : (n : Int) ≤ (Z : Int) := by omega
    have hn0 : ¬ w2.heap.size = w.heap.size := by omega
    have hn1 : ¬ w2.heap.size = w.heap.size + 1 := by omega
    have hn2 : ¬ w.heap.size = w2.heap.size := by omega
    have hn3 : ¬ w.heap.size + 1 = w2.heap.size := by omega
    have hlen : (A.take 0).length = 0 := by rw [List.length_take, hlA.out]; omega
    have hA3 : SlI w2 ao 0 c (A.take 0) := hA2.take (by omega)
    have hlB := hB.len
    have HLB := Lib.hid hlB
    have HLA := Lib.hid hlen
    clear hlB hlen
    have hr1 : ∀ (W : World), SlI W ao 0 c (A.take 0) → SlI W bo m d B → ∀ g, g = W.heap.size → SlRows (W.alloc (.cells #[.slice ao 0 c, .slice bo m d] 22)) (some ⟨g, 0, none⟩) 2 2 [A.take 0, B] := by
      intro W h1 h2 g hg
      have := SlRows.two (A := A.take 0) (B := B) (by rw [HLA.out]; exact h1) (by rw [HLB.out]; exact h2) 22 g hg
      rw [HLA.out, HLB.out] at this
      exact this
    have HLL := Lib.hid (show ([A.take 0, B] : List (List Int)).flatten.length = m by rw [List.flatten_cons, List.length_append, HLA.out]; simp [HLB.out])
    have HFL := Lib.hid (show ([A.take 0, B] : List (List Int)).flatten = A.take 0 ++ B by simp)
    have HR1 := Lib.hid hr1
    clear hr1
    go_wp2_with fail
    go_cut [7] (fun s7 wx => IsThird w.heap.size w wx (r + Z - n) m (A.take 0 ++ B) s7)
    case first =>
      have hw1 : IntKind.i64.wrap (r + (Z : Int)) = r + (Z : Int) := by rw [IntKind.wrap_i64]; omega
      have hw2 : IntKind.i64.wrap (n : Int) = (n : Int) := by rw [IntKind.wrap_i64]; omega
      have hw3 : IntKind.i64.wrap (r + (Z : Int) - (n : Int)) = r + (Z : Int) - (n : Int) := by rw [IntKind.wrap_i64]; omega
      go_region_held3 (fun w' => w'.cell? ⟨w.heap.size, 0, none⟩ = some (.int .i64 r) ∧ w'.cell? ⟨w.heap.size, 1, none⟩ = some (.slice ao n c) ∧ w'.cell? ⟨w.heap.size + 1, 0, none⟩ = some (.int .i64 Z) ∧ w'.cell? ⟨w.heap.size + 1, 1, none⟩ = some (.slice bo m d)) (first | exact keep4 (by assumption) (by assumption) | exact keep4 k3 (below_alloc _ _) | exact keep4_set (keep4_set k3 (by simp only []; omega)) (by simp only []; omega) | go_keep)
        (first | (go_at_call 20; refine (concat_len (R := [A.take 0, B]) (L := m) _ ?_ HLL.out (by omega)).mono ?_; (first | exact (HR1.out _ hA3 hB2 _ rfl).drew | exact (HR1.out _ (hA3.alloc _) (hB2.alloc _) _ (by simp)).drew | exact ((HR1.out _ hA3 hB2 _ rfl).alloc _).drew); rintro e w3 ⟨vo, vc, rfl, ho3, hb3⟩; obtain ⟨hcl3, hfr3⟩ := bcell hb3; have k3 := keep4 (p1 := ⟨w.heap.size, 0, none⟩) (p2 := ⟨w.heap.size, 1, none⟩) (p3 := ⟨w.heap.size + 1, 0, none⟩) (p4 := ⟨w.heap.size + 1, 1, none⟩) (by assumption) hb3))
      all_goals (go_wp2_with fail; go_meet; rw [HFL.out] at ho3)
      · exact third_new c4 c5 f4 lt bz2 ((below_alloc w2 _).drew) hb3 ho3 _
      · exact third_set c4 c5 f4 lt bz2 (((below_alloc w2 _).alloc (below_alloc w2 _).size _).drew) hb3 ho3 (by simp) (by simp [go_sem]; rfl) (by simp [go_sem]; rfl)
      · exact third_set c4 c5 f4 lt bz2 (((below_alloc w2 _).alloc (below_alloc w2 _).size _).drew) hb3 ho3 (by simp) (by simp [go_sem]; rfl) (by simp [go_sem]; rfl)
    case rest =>
        obtain ⟨g, vo, vc, hT⟩ := hcut
        obtain ⟨rfl, h0', h1', ho', c4', c5', f4', lt', ne', hb'⟩ := hT
        go_wp2_with (go_at_call 19; refine (may_any _ _ _ _ _ true (by simp; omega)).mono ?_; rintro e w4 ⟨rfl, hb4⟩; obtain ⟨hcl4, hfr4⟩ := bcell hb4; have c40 := cell_below hb4 _ _ c4'; have c50 := cell_below hb4 _ _ c5'; have g40 := cell_below hb4 _ _ h0'; have g41 := cell_below hb4 _ _ h1'; have f40 : ∀ o, w4.frozen? ⟨w.heap.size + 1 + 1, o, none⟩ = false := fun o => (hfr4 _ o lt').trans (f4' o))
        refine bodyPost_ret (v := .tuple #[edV (r + Z - n) (.slice vo m vc), .bool true]) ?_ rfl ⟨_, vo, vc, rfl, rfl, ?_, ?_⟩
        · simp [results, Try.results11, go_sem, c40, c50]
        · exact Own.mono (ownsRow_setCell_below (ownsRow_setCell_below (ho'.below hb4) (by simp) _) (by simp) _) (by omega)
        · exact (((hb'.trans (hb4.mono (by omega))).setCell (by simp only []; omega) _).setCell (by simp only []; omega) _)

set_option maxHeartbeats 4000000 in
theorem then_3 {A B : List Int} {ao bo : Option Addr} {n m c d : Nat} (r : Int) (Z : Nat) (w : World) (hA : SlI w ao n c A) (hB : SlI w bo m d B) (hreach : (n + m) * 8 ≤ 140737488355328)
    (h0 : 0 ≤ r) (h1 : r ≤ 1048576) (h3 : Z ≤ 1048576) (hq : ¬ Z < n) (hr : ¬ r + Z - n ≤ 1048576) :
    Calls Try.prog 11 #[edV r (.slice ao n c), edV (Z : Int) (.slice bo m d)] w fun e w' => e = .returned (.tuple #[edV 0 (.slice none 0 0), .bool false]) ∧ Below w.heap.size w w' := by
  have hlA := Lib.hid hA.len
  obtain ⟨i0, hi, hz0, hz1, hz2⟩ := info_parts infoInt
  have bx := boxes_made w r Z ao bo n c m d
  have bz := ((below_alloc w (.cells #[.int .i64 r, .slice ao n c] 24)).alloc (below_alloc w _).size (.cells #[.int .i64 Z, .slice bo m d] 24)).alloc (Nat.le_trans (below_alloc w _).size (below_alloc _ _).size) (.cells #[.int .i64 0, .slice none 0 0] 24)
  go_enter Try.func11, Try.ntmps11
  go_wp2_with fail
  refine (may_any _ _ _ _ _ true (by simp; omega)).mono ?_
  rintro e w1 ⟨rfl, hb1⟩
  have bx1 := bx.below hb1
  have bz1 := bz.trans (hb1.mono bz.size)
  obtain ⟨c0, c1, c2, c3, c4, c5, f4, lt⟩ := id bx1
  clear bx bz hb1 c4 c5 f4
  go_wp2_with fail
  refine (may_any _ _ _ _ _ true (by simp; omega)).mono ?_
  rintro e w2 ⟨rfl, hb2⟩
  have bx2 := bx1.below hb2
  have bz2 := bz1.trans (hb2.mono bz1.size)
  clear c0 c1 c2 c3 lt bx1 hb2 bz1
  have hA2 := hA.below bz2
  have hB2 := hB.below bz2
  obtain ⟨c0, c1, c2, c3, c4, c5, f4, lt⟩ := id bx2
  have hle := hA.le
  have hmx := hA.max
  unfold maxLen at hmx
  · have hL0 : (n : Int) ≤ (Z : Int) := by omega
    have hn0 : ¬ w2.heap.size = w.heap.size := by omega
    have hn1 : ¬ w2.heap.size = w.heap.size + 1 := by omega
    have hn2 : ¬ w.heap.size = w2.heap.size := by omega
    have hn3 : ¬ w.heap.size + 1 = w2.heap.size := by omega
    have hlen : (A.take 0).length = 0 := by rw [List.length_take, hlA.out]; omega
    have hA3 : SlI w2 ao 0 c (A.take 0) := hA2.take (by omega)
    have hlB := hB.len
    have HLB := Lib.hid hlB
    have HLA := Lib.hid hlen
    clear hlB hlen
    have hr1 : ∀ (W : World), SlI W ao 0 c (A.take 0) → SlI W bo m d B → ∀ g, g = W.heap.size → SlRows (W.alloc (.cells #[.slice ao 0 c, .slice bo m d] 22)) (some ⟨g, 0, none⟩) 2 2 [A.take 0, B] := by
      intro W h1 h2 g hg
      have := SlRows.two (A := A.take 0) (B := B) (by rw [HLA.out]; exact h1) (by rw [HLB.out]; exact h2) 22 g hg
      rw [HLA.out, HLB.out] at this
      exact this
    have HLL := Lib.hid (show ([A.take 0, B] : List (List Int)).flatten.length = m by rw [List.flatten_cons, List.length_append, HLA.out]; simp [HLB.out])
    have HFL := Lib.hid (show ([A.take 0, B] : List (List Int)).flatten = A.take 0 ++ B by simp)
    have HR1 := Lib.hid hr1
    clear hr1
    go_wp2_with fail
    go_cut [7] (fun s7 wx => IsThird w.heap.size w wx (r + Z - n) m (A.take 0 ++ B) s7)
    case first =>
      have hw1 : IntKind.i64.wrap (r + (Z : Int)) = r + (Z : Int) := by rw [IntKind.wrap_i64]; omega
      have hw2 : IntKind.i64.wrap (n : Int) = (n : Int) := by rw [IntKind.wrap_i64]; omega
      have hw3 : IntKind.i64.wrap (r + (Z : Int) - (n : Int)) = r + (Z : Int) - (n : Int) := by rw [IntKind.wrap_i64]; omega
      go_region_held3 (fun w' => w'.cell? ⟨w.heap.size, 0, none⟩ = some (.int .i64 r) ∧ w'.cell? ⟨w.heap.size, 1, none⟩ = some (.slice ao n c) ∧ w'.cell? ⟨w.heap.size + 1, 0, none⟩ = some (.int .i64 Z) ∧ w'.cell? ⟨w.heap.size + 1, 1, none⟩ = some (.slice bo m d)) (first | exact keep4 (by assumption) (by assumption) | exact keep4 k3 (below_alloc _ _) | exact keep4_set (keep4_set k3 (by simp only []; omega)) (by simp only []; omega) | go_keep)
        (first | (go_at_call 20; refine (concat_len (R := [A.take 0, B]) (L := m) _ ?_ HLL.out (by omega)).mono ?_; (first | exact (HR1.out _ hA3 hB2 _ rfl).drew | exact (HR1.out _ (hA3.alloc _) (hB2.alloc _) _ (by simp)).drew | exact ((HR1.out _ hA3 hB2 _ rfl).alloc _).drew); rintro e w3 ⟨vo, vc, rfl, ho3, hb3⟩; obtain ⟨hcl3, hfr3⟩ := bcell hb3; have k3 := keep4 (p1 := ⟨w.heap.size, 0, none⟩) (p2 := ⟨w.heap.size, 1, none⟩) (p3 := ⟨w.heap.size + 1, 0, none⟩) (p4 := ⟨w.heap.size + 1, 1, none⟩) (by assumption) hb3))
      all_goals (go_wp2_with fail; go_meet; rw [HFL.out] at ho3)
      · exact third_new c4 c5 f4 lt bz2 ((below_alloc w2 _).drew) hb3 ho3 _
      · exact third_set c4 c5 f4 lt bz2 (((below_alloc w2 _).alloc (below_alloc w2 _).size _).drew) hb3 ho3 (by simp) (by simp [go_sem]; rfl) (by simp [go_sem]; rfl)
      · exact third_set c4 c5 f4 lt bz2 (((below_alloc w2 _).alloc (below_alloc w2 _).size _).drew) hb3 ho3 (by simp) (by simp [go_sem]; rfl) (by simp [go_sem]; rfl)
    case rest =>
        obtain ⟨g, vo, vc, hT⟩ := hcut
        obtain ⟨rfl, h0', h1', ho', c4', c5', f4', lt', ne', hb'⟩ := hT
        go_wp2_with (go_at_call 19; refine (may_any _ _ _ _ _ false (by simp; omega)).mono ?_; rintro e w4 ⟨rfl, hb4⟩; obtain ⟨hcl4, hfr4⟩ := bcell hb4; have c40 := cell_below hb4 _ _ c4'; have c50 := cell_below hb4 _ _ c5'; have g40 := cell_below hb4 _ _ h0'; have g41 := cell_below hb4 _ _ h1'; have f40 : ∀ o, w4.frozen? ⟨w.heap.size + 1 + 1, o, none⟩ = false := fun o => (hfr4 _ o lt').trans (f4' o))
        refine bodyPost_ret (v := .tuple #[edV 0 (.slice none 0 0), .bool false]) ?_ rfl ⟨rfl, ?_⟩
        · simp [results, Try.results11, go_sem, c40, c50]
        · exact (((hb'.trans (hb4.mono (by omega))).setCell (by simp only []; omega) _).setCell (by simp only []; omega) _)

end Go.Proofs.Ytkceidcedkknfaa
