/- CacheOwn: whoever writes into the rows that were put, or got, changes nothing of a cache. No condition. (Printed by gOwn.py.) -/
import Derived.Test.YtjfpbhdcbjaahaaCRepB
import Derived.Test.YtjfpbhdcbjaahaaCacheNil
namespace Go.Proofs.Ytjfpbhdcbjaahaa
open Go.RowKit Go.WideShapes
set_option linter.unusedVariables false
set_option linter.unusedSimpArgs false

def allR (R : List (List Int)) (k : Nat) : List Row := (List.range k).map fun i => (keyOf (48 + i), rx R i)
theorem allR_zero (R : List (List Int)) : allR R 0 = [] := rfl
theorem allR_succ (R : List (List Int)) (k : Nat) : allR R (k + 1) = allR R k ++ [(keyOf (48 + k), rx R k)] := by
  unfold allR; rw [List.range_succ, List.map_append]; rfl
theorem allR_len (R : List (List Int)) (k : Nat) : (allR R k).length = k := by unfold allR; simp
theorem allR_mem (R : List (List Int)) (k : Nat) (p : Row) : p ∈ allR R k ↔ ∃ i, i < k ∧ p = (keyOf (48 + i), rx R i) := by
  unfold allR
  rw [List.mem_map]
  constructor
  · rintro ⟨i, hi, rfl⟩; exact ⟨i, List.mem_range.1 hi, rfl⟩
  · rintro ⟨i, hi, rfl⟩; exact ⟨i, List.mem_range.2 hi, rfl⟩
theorem allR_fresh (R : List (List Int)) {k : Nat} (hk : k < 200) : ∀ p ∈ allR R k, p.1 ≠ keyOf (48 + k) := by
  intro p hp e
  obtain ⟨i, h2, rfl⟩ := (allR_mem R k p).1 hp
  have e' : keyOf (48 + i) = keyOf (48 + k) := e
  have := keyOf_inj (by omega) (by omega) e'
  omega
theorem young_last {l : List Row} {k : ByteArray} {A : List Int} (h : ∀ p ∈ l, p.1 ≠ k) : young (l ++ [(k, A)]) k A = l ++ [(k, A)] := by
  unfold young
  rw [List.filter_append]
  have e1 : l.filter (fun p => p.1 ≠ k) = l := by
    rw [List.filter_eq_self]
    intro p hp
    simpa using h p hp
  rw [e1]
  simp

theorem Own.store {w : World} {base g n c : Nat} {A : List Int} (h : Own w base (.slice (some ⟨g, 0, none⟩) n c) A) {k : Nat} (x : Int) :
    Own (w.setCell ⟨g, k, none⟩ (.int .i64 x)) base (.slice (some ⟨g, 0, none⟩) n c) (A.set k x) := by
  have h1 := h.block.1
  subst h1
  have := (World.ownsRow.stored h k (.int .i64 x)).1
  unfold Own
  rw [List.length_set, List.map_set]
  exact this

theorem Own.cell {w : World} {base g n c : Nat} {A : List Int} (h : Own w base (.slice (some ⟨g, 0, none⟩) n c) A) {k : Nat} (hk : k < n) :
    w.cell? ⟨g, k, none⟩ = some (.int .i64 (ix A k)) ∧ w.frozen? ⟨g, k, none⟩ = false := by
  have h1 := h.block.1
  subst h1
  refine ⟨?_, World.ownsRow.frozenAt h k⟩
  rw [World.ownsRow.cellAt h k (by simpa using hk), List.getElem?_map, ix_eq hk]
  rfl

theorem Own.some {w : World} {base : Nat} {vo : Option Addr} {n vc : Nat} {A : List Int} (h : Own w base (.slice vo n vc) A) (hn : 0 < n) : ∃ g, vo = some ⟨g, 0, none⟩ ∧ base ≤ g ∧ g < w.heap.size ∧ n ≤ vc ∧ vc ≤ maxLen := by
  obtain ⟨_, h2⟩ := h.block
  rcases h2 with ⟨_, h3, _⟩ | ⟨g, cur, h3, h4, h5, h6, h7, _⟩
  · omega
  · have hlt : g < w.heap.size := by
      rcases Nat.lt_or_ge g w.heap.size with h' | h'
      · exact h'
      · rw [Array.getElem?_eq_none h'] at h5; cases h5
    exact ⟨g, h3, h4, hlt, h6, h7⟩

set_option maxHeartbeats 8000000 in
set_option maxRecDepth 100000 in
theorem own_walk {R : List (List Int)} {ao : Option Addr} {n c : Nat} (x : Int) (w : World) (hR : SlRows w ao n c R) : Frame.Law Try.prog 3 #[.slice ao n c, .int .i64 x] w := by
  unfold Frame.Law
  have hnm := Nat.le_trans hR.le hR.max
  unfold maxLen at hnm
  obtain ⟨i0, hi, hz0, hz1, hz2⟩ := info_parts infoInt
  by_cases h100 : (100 : Int) < n
  · go_enter Try.func3, Try.ntmps3
    go_wp2_with (fail)
    refine (fixed_calls w).mono ?_
    rintro en w1 ⟨rfl, hb1⟩
    go_wp2
    go_ret
    exact ⟨rfl, hb1⟩
  · have hn : n ≤ 100 := by omega
    have HR := Lib.hid hR
    clear hR
    go_enter Try.func3, Try.ntmps3
    go_wp2_with (fail)
    refine (crep_new 100 (by omega) (by omega) w).mono ?_
    rintro en w1 ⟨cb, mb, rfl, h1, hb1⟩
    have H1 := Lib.hid (And.intro h1 hb1)
    clear h1 hb1
    go_wp2_with (fail)
    go_loopw [6, 7, 8, 9, 10, 11, 12, 24] (fun _ _ _ _ _ _ _ i wr => ∃ (k : Nat) (no : Option Addr) (hits : Int), k ≤ n ∧ i = .int .i64 k ∧ 0 ≤ hits ∧ hits ≤ k ∧ CRep wr w.heap.size wr.heap.size cb mb no (allR R k) 100 hits 0 ∧ Below w.heap.size w wr) (fun _ _ _ _ _ _ _ i _ => n - (intOf i).toNat)
    case atStart => exact ⟨0, none, 0, Nat.zero_le _, rfl, by omega, by omega, H1.out.1, H1.out.2⟩
    case round =>
      obtain ⟨k, no, hits, hk, rfl, hh0, hh1, hc, hb⟩ := hrel
      have HC := Lib.hid hc
      have HB := Lib.hid hb
      clear hc hb
      by_cases hlt : k < n
      · have hRr := HR.out.below HB.out
        obtain ⟨b1, o1, ra, rc, rfl, d1, s1⟩ := hRr.at_ k hlt
        obtain ⟨lk, hlk⟩ : ∃ lk, (rx R k).length = lk := ⟨_, rfl⟩
        rw [hlk] at d1 s1
        have Hlk := Lib.hid hlk
        clear hlk
        have s1m := Nat.le_trans (Sl.le s1) (Sl.max s1)
        unfold maxLen at s1m
        by_cases h50 : (50 : Int) < lk
        · go_wp2_with (fail)
          refine (fixed_calls wr).mono ?_
          rintro en w2 ⟨rfl, hb2⟩
          go_wp2
          go_ret
          exact ⟨rfl, HB.out.trans (hb2.mono HB.out.size)⟩
        · have hlk50 : lk ≤ 50 := by omega
          have wa : IntKind.i64.wrap (48 + (k : Int)) = 48 + (k : Int) := by rw [IntKind.wrap_i64]; omega
          have wk : IntKind.i32.wrap (48 + (k : Int)) = 48 + (k : Int) := by rw [IntKind.wrap_i32]; omega
          have hke : Utf8.encode (48 + (k : Int)) = keyOf (48 + k) := encode_keyOf 48 k
          have hw0 := below_alloc wr (.cells #[] 3)
          have hown0 := own_made0 wr
          have s2 := s1.below hw0
          go_wp2_with (at_builtin; refine wpList_int_app rfl _ _ 26 rfl i0 Try.underlying26 hi hz0 hz1 hz2 rfl hown0 rfl s2 (by simp; omega) (by simp) ?_)
          intro v1 w2 ho1 hg1 hb1
          have hw2 : Below wr.heap.size wr w2 := hw0.trans hb1
          obtain ⟨vo1, vc1, rfl, hs1⟩ := ho1.sl
          rw [Hlk.out] at ho1 hs1
          rw [Hlk.out]
          have hrow := (ho1.rowOK (base := 0) (cb := cb) (mb := mb) (no := no) (Nat.zero_le _) (fun q hq => (HC.out.ft q hq).2)).2
          have hg3 : Hid (∀ g : Nat, vo1 = some ⟨g, 0, none⟩ → wr.heap.size ≤ g ∧ g < w2.heap.size) := Lib.hid fun g e => ⟨ho1.from _ e, (hrow _ e).2.1⟩
          clear hg1 hb1 hw0 hown0 s2
          go_wp2_with (fail)
          refine (crep_putB (HC.out.below hw2) hw2.size (keyOf (48 + k)) (keyOf_size (by omega)) (by omega) (by omega) (by rw [allR_len]; omega) (by rw [allR_len]; omega) hs1 (fun ad e => (hrow ad e).2) (by omega) (allR_fresh R (by omega)) (by rw [allR_len]; omega)).mono ?_
          rintro en w3 ⟨rfl, no3, hput, hk3⟩
          rw [← allR_succ] at hput
          have HO3 := Lib.hid (ho1.stay (fun q h1 h2 => hk3.block q h2 fun hf => by have := (HC.out.ft q hf).2; omega))
          have hB2 := HB.out.trans (hw2.mono HB.out.size)
          have HB3 := Lib.hid (hB2.trans (hk3.below hB2.size fun q hq => (HC.out.ft q hq).1))
          have HPUT := Lib.hid hput
          have hTle : w.heap.size ≤ wr.heap.size := HB.out.size
          clear hput hk3 hrow hs1 ho1 hw2 hB2 d1 s1
          generalize wr.heap.size = T at HO3 HPUT hg3 hTle
          go_wp2_with (fail)
          go_loopw [9, 45] (fun _ i wq => ∃ (j : Nat) (B : List Int), j ≤ lk ∧ i = .int .i64 j ∧ Own wq T (.slice vo1 lk vc1) B ∧ Keeps (fun q => T ≤ q ∧ q < w2.heap.size) w3 wq) (fun _ i _ => lk - (intOf i).toNat)
          case atStart => exact ⟨0, rx R k, Nat.zero_le _, rfl, HO3.out, Keeps.refl _ _⟩
          case round =>
            obtain ⟨j, B, hj, rfl, hob, hkb⟩ := hrel
            by_cases hjl : j < lk
            · obtain ⟨g, rfl, hg1, hg2, hg4, hg5⟩ := hob.some (by omega)
              obtain ⟨cj, fj⟩ := hob.cell hjl
              have hgg := hg3.out g rfl
              have HO' := Lib.hid (hob.store (k := j) x)
              have HK' := Lib.hid (hkb.set (p := ⟨g, j, none⟩) hgg (.int .i64 x))
              unfold maxLen at hg5
              clear hob hkb
              go_wp2_with (fail)
              go_roundw
              case rel => exact ⟨j + 1, _, by omega, by go_num, HO'.out, HK'.out⟩
              case measure => simp [intOf]; omega
            · have hcq := HPUT.out wr hkb
              have hBq := HB3.out.trans (hkb.below HB3.out.size fun q hq => Nat.le_trans hTle hq.1)
              have HCQ := Lib.hid hcq
              have HBQ := Lib.hid hBq
              have hin : (keyOf (48 + k), rx R k) ∈ allR R (k + 1) := by rw [allR_succ]; simp
              clear hcq hBq hob hkb
              go_wp2_with (fail)
              refine (crep_hit HCQ.out (Nat.le_refl _) (keyOf (48 + k)) (rx R k) (keyOf_size (by omega)) hin hh0 (by omega)).mono ?_
              rintro en w4 ⟨vo2, vn2, vc2, rfl, ho4, h4, hk4⟩
              have hy : young (allR R (k + 1)) (keyOf (48 + k)) (rx R k) = allR R (k + 1) := by rw [allR_succ]; exact young_last (allR_fresh R (by omega))
              rw [hy] at h4
              have hvn := ho4.sl2.1
              rw [Hlk.out] at hvn
              subst hvn
              have HB4 := Lib.hid (HBQ.out.trans (hk4.below HBQ.out.size fun q hq => (HCQ.out.ft q hq).1))
              have hT2 : w.heap.size ≤ wr.heap.size := HBQ.out.size
              have hT3 : wr.heap.size ≤ w4.heap.size := hk4.size
              have HO4 := Lib.hid ho4
              have H4 := Lib.hid h4
              clear ho4 h4 hk4 hy hin
              generalize wr.heap.size = T2 at HO4 H4 hT2 hT3
              go_wp2_with (fail)
              go_loopw [12, 64] (fun _ i wq => ∃ (j : Nat) (B : List Int), j ≤ vn2 ∧ i = .int .i64 j ∧ Own wq T2 (.slice vo2 vn2 vc2) B ∧ Keeps (fun q => T2 ≤ q) w4 wq) (fun _ i _ => vn2 - (intOf i).toNat)
              case atStart => exact ⟨0, rx R k, Nat.zero_le _, rfl, HO4.out, Keeps.refl _ _⟩
              case round =>
                obtain ⟨j2, B2, hj2, rfl, hob, hkb⟩ := hrel
                by_cases hjl2 : j2 < vn2
                · obtain ⟨g, rfl, hg1, hg2, hg4, hg5⟩ := hob.some (by omega)
                  obtain ⟨cj, fj⟩ := hob.cell hjl2
                  have HO' := Lib.hid (hob.store (k := j2) x)
                  have HK' := Lib.hid (hkb.set (p := ⟨g, j2, none⟩) hg1 (.int .i64 x))
                  unfold maxLen at hg5
                  clear hob hkb
                  go_wp2_with (fail)
                  go_roundw
                  case rel => exact ⟨j2 + 1, _, by omega, by go_num, HO'.out, HK'.out⟩
                  case measure => simp [intOf]; omega
                · have hBl := hob.block.1
                  have hw5 := below_alloc wr (.cells #[.int .i64 x] 3)
                  have hown5 := hob.below hw5
                  have s5 := SlI.one wr x 3
                  have hT5 : T2 ≤ wr.heap.size := Nat.le_trans hT3 hkb.size
                  have HB5 := Lib.hid (hkb.below hT3 fun q hq => hq)
                  have hT6 : T2 ≤ (wr.alloc (.cells #[.int .i64 x] 3)).heap.size := Nat.le_trans hT5 hw5.size
                  clear hob hkb
                  go_wp2_with (at_builtin; refine wpList_int_app rfl _ _ 26 rfl i0 Try.underlying26 hi hz0 hz1 hz2 rfl hown5 rfl s5 (by omega) hT6 ?_)
                  intro v6 w6 ho6 hg6 hb6
                  have hb7 : Below T2 w4 w6 := (HB5.out.trans (hw5.mono hT5)).trans hb6
                  have H7 := Lib.hid ((H4.out.below hb7).up (Nat.le_trans hT3 hb7.size))
                  have HB7 := Lib.hid (HB4.out.trans (hb7.mono hT2))
                  clear hb7 hb6 hg6 ho6 hown5 s5 hw5
                  go_wp2_with (fail)
                  go_roundw
                  case rel => exact ⟨k + 1, no3, hits + 1, by omega, by go_num, by omega, by omega, H7.out, HB7.out⟩
                  case measure => simp [intOf]; omega
      · have e : k = n := by omega
        subst e
        go_wp2_with (fail)
        go_loopw [13, 14, 15, 16, 79] (fun _ _ _ _ i wq => ∃ (j : Nat) (no : Option Addr) (l : List Row) (hits : Int), j ≤ k ∧ i = .int .i64 j ∧ CRep wq w.heap.size wq.heap.size cb mb no l 100 hits 0 ∧
          Hid (∀ p, p ∈ l ↔ p ∈ allR R k) ∧ Hid (l.length = k) ∧ 0 ≤ hits ∧ hits ≤ k + j ∧ Below w.heap.size w wq) (fun _ _ _ _ i _ => k - (intOf i).toNat)
        case atStart => exact ⟨0, no, _, hits, Nat.zero_le _, rfl, HC.out, Lib.hid (fun p => Iff.rfl), Lib.hid (allR_len _ _), hh0, by omega, HB.out⟩
        case round =>
          obtain ⟨j, no2, l, hits2, hj, rfl, hc, hmem, hlen, hq0, hq1, hb⟩ := hrel
          have HC2 := Lib.hid hc
          have HB2 := Lib.hid hb
          clear hc hb
          by_cases hlt : j < k
          · obtain ⟨b1, o1, ra, rc, rfl, d0, s0⟩ := HR.out.at_ j hlt
            obtain ⟨lk, hlk⟩ : ∃ lk, (rx R j).length = lk := ⟨_, rfl⟩
            rw [hlk] at d0 s0
            have d1 := cell_below HB2.out _ _ d0
            have Hlk := Lib.hid hlk
            clear hlk
            have wa : IntKind.i64.wrap (48 + (j : Int)) = 48 + (j : Int) := by rw [IntKind.wrap_i64]; omega
            have wk : IntKind.i32.wrap (48 + (j : Int)) = 48 + (j : Int) := by rw [IntKind.wrap_i32]; omega
            have hke : Utf8.encode (48 + (j : Int)) = keyOf (48 + j) := encode_keyOf 48 j
            have hin : (keyOf (48 + j), rx R j) ∈ l := (hmem.out _).2 ((allR_mem _ _ _).2 ⟨j, hlt, rfl⟩)
            go_wp2_with (fail)
            refine (crep_hit HC2.out (Nat.le_refl _) (keyOf (48 + j)) (rx R j) (keyOf_size (by omega)) hin hq0 (by omega)).mono ?_
            rintro en w3 ⟨vo, vn, vc, rfl, hown, h3, hk3⟩
            have hsz3 : wr.heap.size ≤ w3.heap.size := hk3.size
            obtain ⟨hvn, hs3⟩ := hown.sl2
            rw [Hlk.out] at hvn
            subst hvn
            have HM : Hid (∀ p, p ∈ young l (keyOf (48 + j)) (rx R j) ↔ p ∈ allR R k) := Lib.hid fun p => Iff.trans (young_mem HC2.out.apart hin p) (hmem.out p)
            have hL3 := Lib.hid ((young_len HC2.out.apart hin).trans hlen.out)
            have HB3 := Lib.hid (HB2.out.trans (hk3.below HB2.out.size fun q hq => (HC2.out.ft q hq).1))
            have H3a := Lib.hid (h3.up hsz3)
            have s3 := s0.below HB3.out
            clear h3 hk3 hown s0 d0 d1
            go_wp2_with (fail)
            refine (same_true (A := rx R j) (B := rx R j) rfl _ hs3 s3).mono ?_
            rintro en w6 ⟨rfl, hb6⟩
            have HB7 := Lib.hid (HB3.out.trans (hb6.mono HB3.out.size))
            have H7 := Lib.hid ((H3a.out.below hb6).up hb6.size)
            clear hb6 hs3 s3
            go_wp2_with (fail)
            go_roundw
            case rel => exact ⟨j + 1, no2, young l (keyOf (48 + j)) (rx R j), hits2 + 1, by omega, by go_num, H7.out, HM, hL3, by omega, by omega, HB7.out⟩
            case measure => simp [intOf]; omega
          · have e : j = k := by omega
            subst e
            go_wp2_with (fail)
            refine (fixed_calls wr).mono ?_
            rintro en w3 ⟨rfl, hb3⟩
            have HB3 := Lib.hid (HB2.out.trans (hb3.mono HB2.out.size))
            have H3a := Lib.hid (HC2.out.below hb3)
            clear hb3
            go_wp2_with (fail)
            refine (crep_len H3a.out).mono ?_
            rintro en w4 ⟨rfl, hb4⟩
            have HB4 := Lib.hid (HB3.out.trans (hb4.mono HB3.out.size))
            rw [hlen.out]
            go_wp2
            all_goals go_ret
            all_goals exact ⟨rfl, HB4.out⟩

theorem cacheOwn_law (W : World) (base : Nat) {H : Type} {enc : TypeId × Value → H} (args : Array Value) (ds : List (DataW H)) (p : List MemPlace)
    (hval : ∀ (j : Nat) t v, Try.f3.params[j]? = some t → args[j]? = some v → Value.okWide Try.prog W .any base t v)
    (hA : DataW.TrodAll enc Try.prog W 0 (fun _ => true) true Try.f3.params.toList args.toList ds p) :
    Frame.Law Try.prog 3 args W := by
  rw [Try.params3] at hA hval
  obtain ⟨v0, v1, d0, d1, p0, p1, rfl, rfl, rfl, h0, h1⟩ := Go.ChangeShapes.trodAll_two hA
  obtain ⟨ao0, n0, c0, R0, rfl, hs0⟩ := rows_open Try.underlying22 Try.underlying26 Try.underlying3 (by kernel_rfl) cellsInt (hval 0 22 v0 rfl rfl) h0
  obtain ⟨z1, rfl⟩ := okWide_int Try.underlying3 (hval 1 3 v1 rfl rfl)
  exact own_walk z1 W hs0

set_option maxRecDepth 100000 in
theorem cacheOwn_lifted (os : Os) (started : os.Started) (H : Type) (enc : TypeId × Value → H) :
    ReturnsInHanded {} Try.checked os 3 .any (Rows.cacheOwnSpec.pre6 enc Try.prog Try.f3 Rows.cacheOwnRow.domain false) (Rows.cacheOwnSpec.post enc Try.prog Try.f3 false true false false) :=
  Frame.law_lift (C := Try.checked) (fn := Try.f3) own started (by kernel_rfl) Try.func3 laidOut (by decide +kernel) rfl Try.underlying4 rfl
    (fun ds h => by match ds, h with | [d1, d2], _ => rfl)
    (ChangeSpec.witness6 (enc := enc) (C := Try.checked) false ⟨#[], #[.slice none 0 0, .int .i64 0], []⟩ 8 (by kernel_rfl) (by kernel_rfl) (by kernel_rfl) (by kernel_rfl))
    (fun W base args ds p hval hA => cacheOwn_law W base args ds p hval hA)

theorem cacheOwn_holds : Rows.CacheOwnSaid :=
  OpenClaim.holds_of_wide 3 Try.f3 rfl rfl rfl rfl rfl rfl rfl ⟨rfl, rfl, rfl, rfl, rfl⟩ rfl rfl rfl rfl rfl (by kernel_rfl) Try.func3 (by kernel_rfl)
    (of_decide_eq_true (by kernel_rfl)) (by unfold Func.isWrapper; rw [if_neg (of_decide_eq_false (by kernel_rfl))]; exact ⟨rfl, rfl⟩)
    (fun os started H enc _ => cacheOwn_lifted os started H enc)

#print axioms cacheOwn_holds
end Go.Proofs.Ytjfpbhdcbjaahaa
