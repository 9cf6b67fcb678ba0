/- EditRow: whatever the views: the law returns true and turns nothing that was there. No condition. -/
import Derived.Test.YtkceidcedkknfaaEditThen
import Derived.Test.YtkceidcedkknfaaLeast
import Derived.Deep.RegionHeld3
import Derived.Deep.DeepCutAuto
namespace Go.Proofs.Ytkceidcedkknfaa
open Go.RowKit
set_option linter.unusedVariables false

theorem edit_field0 (x : Int) (v : Value) (w : World) : (Instr.field 24 (.agg #[.int .i64 x, v]) 0).run Try.prog w = .ok (.int .i64 x) w := by
  have h1 : ∀ w, (asAgg (.agg #[.int .i64 x, v])).run Try.prog w = .ok #[.int .i64 x, v] w := fun _ => rfl
  simp [Instr.field, go_sem, h1]

/-- The edit from one view to the next makes that one. -/
theorem applyL_next (A B : List Int) : A.length ≤ 1048576 → applyL A ((A.length - common A B : Nat) : Int) (B.drop (common A B)) = (B, true) := by
  intro hA
  have h1 := common_le A B
  rw [applyL_of (by omega)]
  have e : A.length - ((A.length - common A B : Nat) : Int).toNat = common A B := by omega
  rw [e, take_common, List.take_append_drop]

theorem applyL_nothing (A : List Int) : applyL A 0 [] = (A, true) := by
  rw [applyL_of (by omega)]; simp

theorem applyL_back {A B X : List Int} {r : Int} (h : applyL A r B = (X, true)) : B.length ≤ X.length ∧ ((A.length - common A X : Nat) : Int) ≤ r := by
  obtain ⟨h1, h2, h3, rfl⟩ := applyL_yes h
  have := common_prefix A B (A.length - r.toNat) (by omega)
  refine ⟨by simp, by omega⟩

/-- What has been made of the first k views. -/
def RowP (R : List (List Int)) (k : Nat) (r : Int) (C : List Int) : Prop :=
  0 ≤ r ∧ r ≤ 1048576 ∧ C.length ≤ 60 ∧ if k = 0 then r = 0 ∧ C = [] else (rx R 0).length ≤ 60 ∧ (rx R (k - 1)).length ≤ 60 ∧ applyL (rx R 0) r C = (rx R (k - 1), true)

theorem rowP_zero (R : List (List Int)) : RowP R 0 0 [] := ⟨by omega, by omega, by simp, by simp⟩
theorem rowP_one {R : List (List Int)} {r : Int} {C : List Int} (h : RowP R 0 r C) (hl : (rx R 0).length ≤ 60) : RowP R 1 r C := by
  obtain ⟨h1, h2, h3, h4⟩ := h
  simp at h4
  obtain ⟨rfl, rfl⟩ := h4
  exact ⟨h1, h2, h3, by simp [hl, applyL_nothing]⟩
theorem rowP_next {R : List (List Int)} {k : Nat} {r r' : Int} {C C' : List Int} {ok : Bool} (hk : k ≠ 0) (h : RowP R k r C) (hl : (rx R k).length ≤ 60)
    (hT : thenL C r (((rx R (k - 1)).length - common (rx R (k - 1)) (rx R k) : Nat) : Int) ((rx R k).drop (common (rx R (k - 1)) (rx R k))) = ((r', C'), ok)) : ok = true ∧ RowP R (k + 1) r' C' := by
  obtain ⟨h1, h2, h3, h4⟩ := h
  rw [if_neg hk] at h4
  obtain ⟨l0, l1, hX⟩ := h4
  obtain ⟨Z, f, hZ⟩ : ∃ Z f, applyL (rx R 0) r' C' = (Z, f) := ⟨_, _, rfl⟩
  obtain ⟨rfl, rfl, rfl⟩ := plain_yes (by omega) hX (applyL_next _ _ (by omega)) hT hZ
  have hy := applyL_yes hZ
  have hb := applyL_back hZ
  exact ⟨rfl, hy.1, hy.2.1, by omega, by rw [if_neg (by omega)]; exact ⟨l0, hl, hZ⟩⟩

/-- Behind the statement that makes the next edit: it lies at g. -/
structure NextE (w w' : World) (r' : Int) (L : Nat) (C : List Int) (g : Nat) (vo : Option Addr) (vc : Nat) (r : Int) (a : Value) : Prop where
  h0 : w'.cell? ⟨g, 0, none⟩ = some (.int .i64 r')
  h1 : w'.cell? ⟨g, 1, none⟩ = some (.slice vo L vc)
  own : Own w' (w.heap.size + 1) (.slice vo L vc) C
  c0 : w'.cell? ⟨w.heap.size, 0, none⟩ = some (.int .i64 r)
  c1 : w'.cell? ⟨w.heap.size, 1, none⟩ = some a
  f0 : ∀ o, w'.frozen? ⟨w.heap.size, o, none⟩ = false
  lt : w.heap.size < w'.heap.size
  ne : w.heap.size < g
  below : Below w.heap.size w w'
def IsNext (w w' : World) (r' : Int) (L : Nat) (C : List Int) (p ok : Value) (r : Int) (a : Value) : Prop :=
  ok = .bool true ∧ ∃ g vo vc, p = .pointer (some ⟨g, 0, none⟩) ∧ NextE w w' r' L C g vo vc r a

section
variable {w w2 W w3 : World} {r r' : Int} {L vc : Nat} {vo : Option Addr} {C : List Int} {a : Value}
theorem next_new (c0 : w2.cell? ⟨w.heap.size, 0, none⟩ = some (.int .i64 r)) (c1 : w2.cell? ⟨w.heap.size, 1, none⟩ = some a) (f0 : ∀ o, w2.frozen? ⟨w.heap.size, o, none⟩ = false) (lt : w.heap.size < w2.heap.size)
    (bz : Below w.heap.size w w2) (hW : Below w2.heap.size w2 W) (hb : Below W.heap.size W w3) (ho : Own w3 W.heap.size (.slice vo L vc) C) (t : TypeId) :
    IsNext w (w3.alloc (.cells #[.int .i64 r', .slice vo L vc] t)) r' L C (.pointer (some ⟨w3.heap.size, 0, none⟩)) (.bool true) r a := by
  have h2 : Below w2.heap.size w2 w3 := hW.trans (hb.mono hW.size)
  have h3 : Below w2.heap.size w2 (w3.alloc (.cells #[.int .i64 r', .slice vo L vc] t)) := h2.alloc h2.size _
  have hs := hW.size
  have hs3 := h2.size
  exact ⟨rfl, _, vo, vc, rfl, by simp, by simp, (ho.mono (by omega)).alloc _, cell_below h3 _ _ c0, cell_below h3 _ _ c1, fun o => (h3.frozen (p := ⟨w.heap.size, o, none⟩) lt).trans (f0 o), by simp; omega, by omega, bz.trans (h3.mono bz.size)⟩

theorem next_set (c0 : w2.cell? ⟨w.heap.size, 0, none⟩ = some (.int .i64 r)) (c1 : w2.cell? ⟨w.heap.size, 1, none⟩ = some a) (f0 : ∀ o, w2.frozen? ⟨w.heap.size, o, none⟩ = false) (lt : w.heap.size < w2.heap.size)
    (bz : Below w.heap.size w w2) (hW : Below w2.heap.size w2 W) (hb : Below W.heap.size W w3) (ho : Own w3 W.heap.size (.slice vo L vc) C)
    {g : Nat} {u0 u1 : Value} (hg : w2.heap.size ≤ g) (g0 : W.cell? ⟨g, 0, none⟩ = some u0) (g1 : W.cell? ⟨g, 1, none⟩ = some u1) :
    IsNext w ((w3.setCell ⟨g, 0, none⟩ (.int .i64 r')).setCell ⟨g, 1, none⟩ (.slice vo L vc)) r' L C (.pointer (some ⟨g, 0, none⟩)) (.bool true) r a := by
  have hgW : g < W.heap.size := World.block_lt_of_cell? W _ g0
  have h2 : Below w2.heap.size w2 w3 := hW.trans (hb.mono hW.size)
  have h3 : Below w2.heap.size w2 ((w3.setCell ⟨g, 0, none⟩ (.int .i64 r')).setCell ⟨g, 1, none⟩ (.slice vo L vc)) := (h2.setCell (by simp only []; omega) _).setCell (by simp only []; omega) _
  have hs := hW.size
  have hs3 := h3.size
  have k0 := cell_below hb _ _ g0
  have k1 := cell_below hb _ _ g1
  exact ⟨rfl, g, vo, vc, rfl, by simp [go_sem, k0], by simp [go_sem, k1], Own.mono (ownsRow_setCell_below (ownsRow_setCell_below ho hgW _) hgW _) (by omega), cell_below h3 _ _ c0, cell_below h3 _ _ c1, fun o => (h3.frozen (p := ⟨w.heap.size, o, none⟩) lt).trans (f0 o), by omega, by omega, bz.trans (h3.mono bz.size)⟩
end

theorem of_agg {A B : List Int} {ao bo : Option Addr} {n m c d k : Nat} (hk : common A B = k) (w : World) (hA : SlI w ao n c A) (hB : SlI w bo m d B) (hreach : m * 8 ≤ 140737488355328) :
    Calls Try.prog 10 #[.slice ao n c, .slice bo m d] w fun e w' => ∃ vo vc, e = .returned (.agg #[.int .i64 ((n - k : Nat) : Int), .slice vo (m - k) vc]) ∧ Own w' w.heap.size (.slice vo (m - k) vc) (B.drop k) ∧ Below w.heap.size w w' :=
  of_k hk w hA hB hreach

theorem keep5 {w0 w w' : World} {p1 p2 p3 p4 : Addr} {v1 v2 v3 v4 : Value} (h : w.cell? p1 = some v1 ∧ w.cell? p2 = some v2 ∧ w.cell? p3 = some v3 ∧ w.cell? p4 = some v4 ∧ Below w0.heap.size w0 w) (hb : Below w.heap.size w w') :
    w'.cell? p1 = some v1 ∧ w'.cell? p2 = some v2 ∧ w'.cell? p3 = some v3 ∧ w'.cell? p4 = some v4 ∧ Below w0.heap.size w0 w' :=
  ⟨cell_below hb _ _ h.1, cell_below hb _ _ h.2.1, cell_below hb _ _ h.2.2.1, cell_below hb _ _ h.2.2.2.1, h.2.2.2.2.trans (hb.mono h.2.2.2.2.size)⟩

theorem keep5_set {w0 w : World} {p p1 p2 p3 p4 : Addr} {v v1 v2 v3 v4 : Value} (h : w.cell? p1 = some v1 ∧ w.cell? p2 = some v2 ∧ w.cell? p3 = some v3 ∧ w.cell? p4 = some v4 ∧ Below w0.heap.size w0 w)
    (hp : p1.block < p.block ∧ p2.block < p.block ∧ p3.block < p.block ∧ p4.block < p.block ∧ w0.heap.size ≤ p.block) :
    (w.setCell p v).cell? p1 = some v1 ∧ (w.setCell p v).cell? p2 = some v2 ∧ (w.setCell p v).cell? p3 = some v3 ∧ (w.setCell p v).cell? p4 = some v4 ∧ Below w0.heap.size w0 (w.setCell p v) := by
  have e : ∀ q : Addr, q.block < p.block → (w.setCell p v).cell? q = w.cell? q := fun q hq => World.cell?_of_block (w := w) (Below.heap_setCell _ _ _ _ (by omega))
  exact ⟨(e _ hp.1).trans h.1, (e _ hp.2.1).trans h.2.1, (e _ hp.2.2.1).trans h.2.2.1, (e _ hp.2.2.2.1).trans h.2.2.2.1, h.2.2.2.2.setCell hp.2.2.2.2 _⟩

set_option maxHeartbeats 8000000 in
theorem row_walk {R : List (List Int)} {ao : Option Addr} {n c : Nat} (w : World) (hR : SlRows w ao n c R) :
    Frame.Law Try.prog 6 #[.slice ao n c] w := by
  unfold Frame.Law
  have hm := Nat.le_trans hR.le hR.max
  unfold maxLen at hm
  have hlR := Lib.hid hR.len
  by_cases hn : (20 : Int) < n
  · go_enter Try.func6, Try.ntmps6
    go_wp2_with (go_at_call 8; refine (fixed_calls _).mono ?_; rintro e w1 ⟨rfl, hb1⟩)
    go_ret
    exact ⟨rfl, hb1⟩
  by_cases h0 : n = 0
  · have h0' : ((n : Int) == 0) = true := by simp; omega
    go_enter Try.func6, Try.ntmps6
    go_wp2_with (go_at_call 8; refine (fixed_calls _).mono ?_; rintro e w1 ⟨rfl, hb1⟩)
    go_ret
    exact ⟨rfl, hb1⟩
  have h0' : ((n : Int) == 0) = false := by simp; omega
  have h20 : n ≤ 20 := by omega
  go_enter Try.func6, Try.ntmps6
  go_wp2_with fail
  go_loopw [23] (fun i wr => ∃ (k L vc : Nat) (r : Int) (vo : Option Addr) (C : List Int), k ≤ n ∧ i = .int .i64 k ∧ wr.cell? ⟨w.heap.size, 0, none⟩ = some (.int .i64 r) ∧ wr.cell? ⟨w.heap.size, 1, none⟩ = some (.slice vo L vc) ∧ (∀ o, wr.frozen? ⟨w.heap.size, o, none⟩ = false) ∧ w.heap.size < wr.heap.size ∧
      Own wr (w.heap.size + 1) (.slice vo L vc) C ∧ Below w.heap.size w wr ∧ RowP R k r C) (fun i _ => n - (intOf i).toNat)
  case atStart => exact ⟨0, 0, 0, 0, none, [], Nat.zero_le _, rfl, by simp, by simp, by intro o; simp, by simp, Own.nil _ _, below_alloc w _, rowP_zero R⟩
  case round =>
    obtain ⟨k, L, vc, r, vo, C, hk, rfl, c0, c1, f0, lt, ho, bz, hP⟩ := hrel
    have hRr := hR.below bz
    have HP := Lib.hid hP
    have hCL := ho.block.1
    have hr0 := hP.1
    have hr1 := hP.2.1
    have hL60 : L ≤ 60 := by rw [← hCL]; exact hP.2.2.1
    have HCL := Lib.hid hCL
    clear hP hCL
    by_cases hlt : k < n
    · obtain ⟨b1, o1, ra, rc, rfl, d1, s1⟩ := hRr.at_ k hlt
      obtain ⟨lk, hlk⟩ : ∃ lk, (rx R k).length = lk := ⟨_, rfl⟩
      rw [hlk] at d1 s1
      have Hlk := Lib.hid hlk
      clear hlk
      have s1m := Nat.le_trans (Sl.le s1) (Sl.max s1)
      unfold maxLen at s1m
      by_cases h60 : (60 : Int) < lk
      · go_wp2_with (go_at_call 8; refine (fixed_calls _).mono ?_; rintro e w1 ⟨rfl, hb1⟩)
        go_ret
        exact ⟨rfl, bz.trans (hb1.mono bz.size)⟩
      · have hlk60 : lk ≤ 60 := by omega
        by_cases hk0 : k = 0
        · subst hk0
          have d10 : wr.cell? ⟨b1, o1, none⟩ = some (.slice ra lk rc) := by simpa using d1
          go_wp2_with fail
          go_roundw
          case rel => exact ⟨1, L, vc, r, vo, C, by omega, by go_num, c0, c1, f0, lt, ho, bz, rowP_one HP.out (by rw [Hlk.out]; exact hlk60)⟩
          case measure => simp [intOf]; omega
        · have hk0' : ((k : Int) == 0) = false := by simp; omega
          obtain ⟨b2, o2, rb, rd, e2, d2, s2⟩ := hRr.at_ (k - 1) (by omega)
          simp only [Option.some.injEq, Addr.mk.injEq, and_true] at e2
          obtain ⟨rfl, rfl⟩ := e2
          obtain ⟨lp, hlp⟩ : ∃ lp, (rx R (k - 1)).length = lp := ⟨_, rfl⟩
          rw [hlp] at d2 s2
          have hlp60 : lp ≤ 60 := by
            have := HP.out.2.2.2
            rw [if_neg hk0] at this
            omega
          have Hlp := Lib.hid hlp
          clear hlp
          obtain ⟨cm, hcm⟩ : ∃ cm, common (rx R (k - 1)) (rx R k) = cm := ⟨_, rfl⟩
          have cm1 : cm ≤ lp := by rw [← hcm, ← Hlp.out]; exact (common_le _ _).1
          have cm2 : cm ≤ lk := by rw [← hcm, ← Hlk.out]; exact (common_le _ _).2
          obtain ⟨r', C', ok, hT⟩ : ∃ r' C' ok, thenL C r ((lp - cm : Nat) : Int) ((rx R k).drop cm) = ((r', C'), ok) := ⟨_, _, _, rfl⟩
          have hnx := rowP_next (r' := r') (C' := C') (ok := ok) hk0 HP.out (by rw [Hlk.out]; exact hlk60) (by rw [Hlp.out, hcm]; exact hT)
          obtain ⟨rfl, hP2⟩ := hnx
          obtain ⟨L2, hL2⟩ : ∃ L2, C'.length = L2 := ⟨_, rfl⟩
          have Hcm := Lib.hid hcm
          have HT := Lib.hid hT
          have HP2 := Lib.hid hP2
          have HL2 := Lib.hid hL2
          clear hcm hT hP2 hL2
          have sC := ho.sli
          have hkm : ((k : Int) - 1).toNat = k - 1 := by omega
          go_wp2_with fail
          go_cut [5, 6] (fun s5 s6 wx => IsNext w wx r' L2 C' s5 s6 r (.slice vo L vc))
          case first =>
            have hb1lt : b1 < wr.heap.size := World.block_lt_of_cell? wr _ d1
            have e1 : IntKind.i64.wrap ((k : Int) - 1) = (k : Int) - 1 := by rw [IntKind.wrap_i64]; omega
            have e2 : (0 : Int) ≤ (k : Int) - 1 := by omega
            have e3 : (1 : Int) ≤ (k : Int) := by omega
            have e4 : (k : Int) - 1 < (n : Int) := by omega
            go_region_held3 (fun w' => w'.cell? ⟨w.heap.size, 0, none⟩ = some (.int .i64 r) ∧ w'.cell? ⟨w.heap.size, 1, none⟩ = some (.slice vo L vc) ∧ w'.cell? ⟨b1, o1 + (k - 1), none⟩ = some (.slice rb lp rd) ∧ w'.cell? ⟨b1, o1 + k, none⟩ = some (.slice ra lk rc) ∧ Below wr.heap.size wr w')
              (first | exact ⟨c0, c1, d2, d1, (Below.refl _ _).drew⟩ | assumption | exact keep5 (by assumption) (by assumption) | exact keep5 (by assumption) (below_alloc _ _) | exact keep5 k3 (below_alloc _ _) | exact keep5_set (keep5_set k3 (by simp only []; omega)) (by simp only []; omega))
              (first
                | (go_at_call 10; refine (of_k Hcm.out _ (s2.below (And.right (And.right (And.right (And.right (by assumption)))))) (s1.below (And.right (And.right (And.right (And.right (by assumption)))))) (by omega)).mono ?_; rintro e w4 ⟨vo5, vc5, rfl, ho5, hb4⟩; have hs5 := ho5.sli; have hz4 : wr.heap.size ≤ w4.heap.size := (by have := hb4.size; simp at this; omega); obtain ⟨hc4, hf4⟩ := bcell hb4; (try have hz5 : wr.heap.size < w4.heap.size := (by have := hb4.size; simp at this; omega)))
                | (go_at_call 11; refine (then_n HT.out HL2.out _ (sC.below (And.right (And.right (And.right (And.right (by assumption)))))) (by first | exact hs5 | exact hs5.alloc _) (by omega)).mono ?_; rintro e w5 ⟨vo6, vc6, rfl, ho6, hb6⟩; have k3 := keep5 (w0 := wr) (p1 := ⟨w.heap.size, 0, none⟩) (p2 := ⟨w.heap.size, 1, none⟩) (p3 := ⟨b1, o1 + (k - 1), none⟩) (p4 := ⟨b1, o1 + k, none⟩) (by assumption) hb6; obtain ⟨hc6, hf6⟩ := bcell hb6))
            all_goals (go_wp2_with fail; go_meet)
            · exact next_new c0 c1 f0 lt bz (((Below.refl wr.heap.size wr).drew).trans hb4) hb6 ho6 _
            · exact next_set c0 c1 f0 lt bz ((((Below.refl wr.heap.size wr).drew).trans hb4).alloc hz4 _) hb6 ho6 hz4 (by simp; rfl) (by simp; rfl)
            · exact next_set c0 c1 f0 lt bz (((below_alloc wr _).drew).trans (hb4.mono (below_alloc wr _).size)) hb6 ho6 (Nat.le_refl _) (by rw [hc4 _ _ (by simp)]; simp; rfl) (by rw [hc4 _ _ (by simp)]; simp; rfl)
          case rest =>
            obtain ⟨rfl, g, vo2, vc2, rfl, hN⟩ := hcut
            obtain ⟨n0, n1, nown, nc0, nc1, nf0, nlt, nne, nbel⟩ := hN
            go_wp2_with fail
            go_roundw
            case rel =>
              refine ⟨k + 1, L2, vc2, r', vo2, C', by omega, by go_num, by simp [go_sem, nc0], by simp [go_sem, nc1], ?_, ?_, ?_, ?_, HP2.out⟩
              · intro o; simp [nf0]
              · simpa using nlt
              · exact ownsRow_setCell_below (ownsRow_setCell_below nown (Nat.lt_succ_self _) _) (Nat.lt_succ_self _) _
              · exact (nbel.setCell (Nat.le_refl _) _).setCell (Nat.le_refl _) _
            case measure => simp [intOf]; omega
    · obtain rfl : k = n := by omega
      obtain ⟨b1, o1, ra, rc, rfl, d1, s1⟩ := hRr.at_ 0 (by omega)
      obtain ⟨b2, o2, rb, rd, e2, d2, s2⟩ := hRr.at_ (k - 1) (by omega)
      simp only [Option.some.injEq, Addr.mk.injEq, and_true] at e2
      obtain ⟨rfl, rfl⟩ := e2
      have hX := HP.out.2.2.2
      rw [if_neg h0] at hX
      obtain ⟨hl0, hl1, hX⟩ := hX
      obtain ⟨lf, hlf⟩ : ∃ l, (rx R 0).length = l := ⟨_, rfl⟩
      obtain ⟨ll, hll⟩ : ∃ l, (rx R (k - 1)).length = l := ⟨_, rfl⟩
      rw [hlf] at d1 s1
      rw [hll] at d2 s2
      obtain ⟨cm, hcm⟩ : ∃ cm, common (rx R 0) (rx R (k - 1)) = cm := ⟨_, rfl⟩
      have hback := (applyL_back hX).2
      rw [hcm, hlf] at hback
      have cm1 : cm ≤ lf := by rw [← hcm, ← hlf]; exact (common_le _ _).1
      obtain ⟨Q, rfl⟩ := Int.eq_ofNat_of_zero_le hr0
      have hlf60 : lf ≤ 60 := by omega
      have hll60 : ll ≤ 60 := by omega
      have hXy := applyL_yes hX
      have HX := Lib.hid hX
      have Hcm := Lib.hid hcm
      have Hlf := Lib.hid hlf
      have Hll := Lib.hid hll
      have hQf : Q ≤ lf := by have := hXy.2.2.1; omega
      have HE := Lib.hid (show (rx R 0).take (lf - Q) ++ C = rx R (k - 1) by have := hXy.2.2.2; rw [hlf] at this; simpa using this.symm)
      have HLL := Lib.hid (show lf - Q + L = ll by
        have h1 := congrArg List.length (HE.out)
        rw [hll, List.length_append, List.length_take, hlf, HCL.out] at h1
        omega)
      clear hX hcm hlf hll hXy hl0 hl1
      have sC := ho.sli
      have d10 : wr.cell? ⟨b1, o1, none⟩ = some (.slice ra lf rc) := by simpa using d1
      have e1 : IntKind.i64.wrap ((k : Int) - 1) = (k : Int) - 1 := by rw [IntKind.wrap_i64]; omega
      have e2 : (0 : Int) ≤ (k : Int) - 1 := by omega
      have e3 : (1 : Int) ≤ (k : Int) := by omega
      have e4 : (k : Int) - 1 < (k : Int) := by omega
      have e5 : (0 : Int) < (k : Int) := by omega
      have e6 : 0 < k := by omega
      have e7 : ((k : Int) - 1).toNat = k - 1 := by omega
      clear d1
      go_wp2_with fail
      go_quiet (fail)
      go_wp2_with fail
      refine (apply_len (C := rx R (k - 1)) (L := ll) Q _ (s1.drewN _) (sC.drewN _) (by omega) (by omega) hQf HE.out HLL.out).mono ?_
      rintro e w6 ⟨vo6, vc6, rfl, ho6, hb6⟩
      have c06 := cell_below hb6 _ _ (show (wr.drewN nq).cell? _ = _ from c0)
      have bz6 : Below w.heap.size w w6 := (below_drewN bz nq).trans (hb6.mono bz.size)
      have s16 := (s1.drewN nq).below hb6
      have s26 := (s2.drewN nq).below hb6
      have s66 := ho6.sli
      clear hb6 ho6 d10 d2 c0 c1 sC
      go_wp2_with fail
      have hag := fun x v w => edit_field0 x v w
      go_region_held3 (fun w' => w'.cell? ⟨w.heap.size, 0, none⟩ = some (.int .i64 (Q : Int)) ∧ w'.cell? ⟨w.heap.size, 0, none⟩ = some (.int .i64 (Q : Int)) ∧ Below w6.heap.size w6 w') (first | exact keepB (by assumption) (by assumption) | exact ⟨c06, c06, (Below.refl _ _).drew⟩)
        (first
          | (go_at_call 8; refine (fixed_calls _).mono ?_; rintro e w7 ⟨rfl, hb7⟩)
          | (go_at_call 12; refine (same10_true rfl _ (s66.below (And.right (And.right (by assumption)))) (s26.below (And.right (And.right (by assumption))))).mono ?_; rintro e w7 ⟨rfl, hb7⟩)
          | (go_at_call 10; refine (of_agg Hcm.out _ (s16.below (And.right (And.right (by assumption)))) (s26.below (And.right (And.right (by assumption)))) (by omega)).mono ?_; rintro e w7 ⟨vo7, vc7, rfl, ho7, hb7⟩))
      all_goals (go_wp2_with fail; go_ret; exact ⟨rfl, bz6.trans (Below.mono (And.right (And.right (by assumption))) bz6.size)⟩)

theorem editRow_law (W : World) (base : Nat) {H : Type} {enc : TypeId × Value → H} (args : Array Value) (ds : List (DataW H)) (p : List MemPlace)
    (hval : ∀ (j : Nat) t v, Try.f6.params[j]? = some t → args[j]? = some v → Value.okWide Try.prog W .any base t v)
    (hA : DataW.TrodAll enc Try.prog W 0 (fun _ => true) true Try.f6.params.toList args.toList ds p) :
    Frame.Law Try.prog 6 args W := by
  rw [Try.params6] at hA hval
  obtain ⟨v0, d0, rfl, rfl, h0⟩ := Go.ChangeShapes.trodAll_one hA
  obtain ⟨ao0, n0, c0, R0, rfl, hs0⟩ := rows_open Try.underlying34 Try.underlying22 Try.underlying3 (by kernel_rfl) cellsInt (hval 0 34 v0 rfl rfl) h0
  exact row_walk W hs0

set_option maxRecDepth 100000 in
theorem editRow_lifted (os : Os) (started : os.Started) (H : Type) (enc : TypeId × Value → H) :
    ReturnsInHanded {} Try.checked os 6 .any (Rows.editRowSpec.pre6 enc Try.prog Try.f6 Rows.editRowRow.domain false) (Rows.editRowSpec.post enc Try.prog Try.f6 false true false false) :=
  Frame.law_lift (C := Try.checked) (fn := Try.f6) own started (by kernel_rfl) Try.func6 laidOut (by decide +kernel) rfl Try.underlying4 rfl
    (fun ds h => by match ds, h with | [d1], _ => rfl)
    (ChangeSpec.witness6 (enc := enc) (C := Try.checked) false ⟨#[], #[.slice none 0 0], []⟩ 8 (by kernel_rfl) (by kernel_rfl) (by kernel_rfl) (by kernel_rfl))
    (fun W base args ds p hval hA => editRow_law W base args ds p hval hA)

theorem editRow_holds : Rows.EditRowSaid :=
  OpenClaim.holds_of_wide 6 Try.f6 rfl rfl rfl rfl rfl rfl rfl ⟨rfl, rfl, rfl, rfl, rfl⟩ rfl rfl rfl rfl rfl (by kernel_rfl) Try.func6 (by kernel_rfl)
    (of_decide_eq_true (by kernel_rfl)) (by unfold Func.isWrapper; rw [if_neg (of_decide_eq_false (by kernel_rfl))]; exact ⟨rfl, rfl⟩)
    (fun os started H enc _ => editRow_lifted os started H enc)

#print axioms editRow_holds
end Go.Proofs.Ytkceidcedkknfaa
