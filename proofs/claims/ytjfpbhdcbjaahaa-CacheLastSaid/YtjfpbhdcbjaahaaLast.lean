/- CacheLast: of what was put, each key once, the last ones are there. No condition. (Printed by gLast.py.) -/
import Derived.Test.YtjfpbhdcbjaahaaRunes
import Derived.Test.YtjfpbhdcbjaahaaCacheNil
namespace Go.Proofs.Ytjfpbhdcbjaahaa
open Go.RowKit Go.WideShapes
set_option linter.unusedVariables false
set_option linter.unusedSimpArgs false

theorem u8_open {H : Type} {enc : TypeId × Value → H} {P : Program} {W : World} {held : Bool} {t : TypeId} {v : Value} {d : DataW H} {p : List MemPlace} {r : Reach} {b0 : Nat} (ht : P.underlying t = some (.int .u8))
    (hv : Value.okWide P W r b0 t v) (h : DataW.Trod enc P W 0 (fun _ => true) held t v d p) : ∃ z : Nat, v = .int .u8 z ∧ z ≤ 255 := by
  obtain ⟨z, rfl⟩ := okWide_int ht hv
  obtain ⟨fuel, hf⟩ := h
  obtain ⟨z', e0, _, wz⟩ := DataW.trod_int ht hf
  simp [Value.cells] at e0
  subst e0
  simp [Lit.wf, IntKind.min, IntKind.max, IntKind.signed, IntKind.bits] at wz
  exact ⟨z.toNat, by rw [Int.toNat_of_nonneg wz.1], by omega⟩

theorem lastR_zero (b R : Nat) (A : Nat → List Int) : lastR b R 0 A = [] := by simp [lastR]

def twoA (i : Nat) : List Int := [(i : Int), -(i : Int)]

set_option maxHeartbeats 4000000 in
theorem last_walk (R n : Nat) (hR : R ≤ 255) (hn : n ≤ 255) (w : World) : Frame.Law Try.prog 4 #[.int .u8 R, .int .u8 n] w := by
  unfold Frame.Law
  have wR : IntKind.i64.wrap (R : Int) = R := by rw [IntKind.wrap_i64]; omega
  have wn : IntKind.i64.wrap (n : Int) = n := by rw [IntKind.wrap_i64]; omega
  go_enter Try.func4, Try.ntmps4
  go_wp2_with (fail)
  refine (crep_new (R : Int) (by omega) (by omega) w).mono ?_
  rintro en w1 ⟨cb, mb, rfl, h1, hb1⟩
  have H1 := Lib.hid (And.intro h1 hb1)
  clear h1 hb1
  go_wp2_with (fail)
  go_loopw [6, 16] (fun _ i wr => ∃ (k : Nat) (no : Option Addr), k ≤ n ∧ i = .int .i64 k ∧ CRep wr w.heap.size wr.heap.size cb mb no (lastR 97 R k twoA) R 0 0 ∧ Below w.heap.size w wr) (fun _ i _ => n - (intOf i).toNat)
  case atStart => exact ⟨0, none, Nat.zero_le _, rfl, by rw [lastR_zero]; exact H1.out.1, H1.out.2⟩
  case round =>
    obtain ⟨k, no, hk, rfl, hc, hb⟩ := hrel
    by_cases hlt : k < n
    · have wa : IntKind.i64.wrap (97 + (k : Int)) = 97 + (k : Int) := by rw [IntKind.wrap_i64]; omega
      have wk : IntKind.i32.wrap (97 + (k : Int)) = 97 + (k : Int) := by rw [IntKind.wrap_i32]; omega
      have wm : IntKind.i64.wrap (-(k : Int)) = -(k : Int) := by rw [IntKind.wrap_i64]; omega
      have hke : Utf8.encode (97 + (k : Int)) = keyOf (97 + k) := encode_keyOf 97 k
      have hw := below_alloc wr (.cells #[.int .i64 (k : Int), .int .i64 (-(k : Int))] 3)
      have HCa := Lib.hid ((hc.below hw).up hw.size)
      have hft := Lib.hid hc.ft
      have HB := Lib.hid (hb.trans (hw.mono hb.size))
      have hs2 := SlI.two wr (k : Int) (-(k : Int)) 3
      clear hc hb hw
      go_wp2_with (fail)
      refine (put_last HCa.out (by omega) (by omega) (A := twoA) hs2 (fun ad e => by
        simp at e; subst e
        exact ⟨by simp, fun hf => by have := (hft.out _ hf).2; simp at this⟩) (by omega)).mono ?_
      rintro en w2 ⟨rfl, no2, h2, hk2⟩
      have HB2 := Lib.hid (HB.out.trans (hk2.below HB.out.size fun k hk => (HCa.out.ft k hk).1))
      have H2 := Lib.hid h2
      clear h2 hk2 hs2
      go_wp2
      go_roundw
      case rel => exact ⟨k + 1, no2, by omega, by go_num, H2.out, HB2.out⟩
      case measure => simp [intOf]; omega
    · have e : k = n := by omega
      subst e
      have H3 := Lib.hid (And.intro hc hb)
      clear hc hb hk hlt
      go_wp2_with (fail)
      go_loopw [7, 8, 9, 10, 32] (fun _ _ _ _ i w2 => ∃ (j : Nat) (no : Option Addr) (l : List Row) (hits misses : Int), j ≤ k ∧ i = .int .i64 j ∧ CRep w2 w.heap.size w2.heap.size cb mb no l R hits misses ∧
        Hid (∀ p, p ∈ l ↔ p ∈ lastR 97 R k twoA) ∧ Hid (l.length = min k R) ∧ 0 ≤ hits ∧ hits ≤ j ∧ 0 ≤ misses ∧ misses ≤ j ∧ Below w.heap.size w w2) (fun _ _ _ _ i _ => k - (intOf i).toNat)
      case atStart => exact ⟨0, no, _, 0, 0, Nat.zero_le _, rfl, H3.out.1, Lib.hid (fun p => Iff.rfl), Lib.hid (lastR_len _ _ _ _), by omega, by omega, by omega, by omega, H3.out.2⟩
      case round =>
        obtain ⟨j, no2, l, hits, misses, hj, rfl, hc, hmem, hlen, hh0, hh1, hm0, hm1, hb⟩ := hrel
        by_cases hlt : j < k
        · have wa : IntKind.i64.wrap (97 + (j : Int)) = 97 + (j : Int) := by rw [IntKind.wrap_i64]; omega
          have wk : IntKind.i32.wrap (97 + (j : Int)) = 97 + (j : Int) := by rw [IntKind.wrap_i32]; omega
          have wm : IntKind.i64.wrap (-(j : Int)) = -(j : Int) := by rw [IntKind.wrap_i64]; omega
          have ws : IntKind.i64.wrap ((k : Int) - (R : Int)) = (k : Int) - (R : Int) := by rw [IntKind.wrap_i64]; omega
          have hke : Utf8.encode (97 + (j : Int)) = keyOf (97 + j) := encode_keyOf 97 j
          have HC := Lib.hid hc
          have HB := Lib.hid hb
          clear hc hb
          by_cases hth : k - R ≤ j
          · have hin : (keyOf (97 + j), twoA j) ∈ l := (hmem.out _).2 ((lastR_mem _ _ _ _ _).2 ⟨j, hth, hlt, rfl⟩)
            have hge : (k : Int) - (R : Int) ≤ (j : Int) := by omega
            have hgd : decide ((k : Int) - (R : Int) ≤ (j : Int)) = true := by simpa using hge
            go_wp2_with (fail)
            refine (crep_hit HC.out (Nat.le_refl _) (keyOf (97 + j)) (twoA j) (keyOf_size (by omega)) hin hh0 (by omega)).mono ?_
            rintro en w3 ⟨vo, vn, vc, rfl, hown, h3, hk3⟩
            have hlen3 := young_len HC.out.apart hin
            have hmem3 := Lib.hid (young_mem HC.out.apart hin)
            have HB3 := Lib.hid (HB.out.trans (hk3.below HB.out.size fun k hk => (HC.out.ft k hk).1))
            have hsz3 : wr.heap.size ≤ w3.heap.size := hk3.size
            obtain ⟨hvn, hs3⟩ := hown.sl2
            obtain rfl : vn = 2 := hvn
            have H3a := Lib.hid (h3.up hsz3)
            have hL3 := Lib.hid (hlen3.trans hlen.out)
            have hw4 := below_alloc w3 (.cells #[.int .i64 (j : Int), .int .i64 (-(j : Int))] 3)
            have hs4 := hs3.below hw4
            have hs5 := SlI.two w3 (j : Int) (-(j : Int)) 3
            have HM : Hid (∀ p, p ∈ young l (keyOf (97 + j)) (twoA j) ↔ p ∈ lastR 97 R k twoA) := Lib.hid fun p => Iff.trans (hmem3.out p) (hmem.out p)
            clear h3 hk3 hlen3
            go_wp2_with (fail)
            refine (same_true (A := twoA j) (B := [(j : Int), -(j : Int)]) rfl _ hs4 hs5).mono ?_
            rintro en w6 ⟨rfl, hb6⟩
            have hb7 := (hw4.trans (hb6.mono hw4.size))
            have HB7 := Lib.hid (HB3.out.trans (hb7.mono HB3.out.size))
            have H7 := Lib.hid ((H3a.out.below hb7).up hb7.size)
            clear hb6 hs4 hs5 hs3
            go_wp2
            go_roundw
            case rel => exact ⟨j + 1, no2, young l (keyOf (97 + j)) (twoA j), hits + 1, misses, by omega, by go_num, H7.out, HM, hL3, by omega, by omega, by omega, by omega, HB7.out⟩
            case measure => simp [intOf]; omega
          · have hnot : ∀ p ∈ l, p.1 ≠ keyOf (97 + j) := by
              intro p hp e
              obtain ⟨i, h1, h2, rfl⟩ := (lastR_mem _ _ _ _ _).1 ((hmem.out p).1 hp)
              have e' : keyOf (97 + i) = keyOf (97 + j) := e
              have := keyOf_inj (by omega) (by omega) e'
              omega
            have hgd : decide ((k : Int) - (R : Int) ≤ (j : Int)) = false := by simp; omega
            go_wp2_with (fail)
            refine (crep_miss HC.out (Nat.le_refl _) (keyOf (97 + j)) (keyOf_size (by omega)) hnot hm0 (by omega)).mono ?_
            rintro en w3 ⟨rfl, h3, hk3⟩
            have HB3 := Lib.hid (HB.out.trans (hk3.below HB.out.size fun k hk => (HC.out.ft k hk).1))
            have H3a := Lib.hid (h3.up hk3.size)
            clear h3 hk3
            go_wp2
            go_roundw
            case rel => exact ⟨j + 1, _, _, _, _, by omega, by go_num, H3a.out, hmem, hlen, by omega, by omega, by omega, by omega, HB3.out⟩
            case measure => simp [intOf]; omega
        · have e : j = k := by omega
          subst e
          have HC := Lib.hid hc
          have HB := Lib.hid hb
          clear hc hb
          go_wp2_with (fail)
          refine (fixed_calls wr).mono ?_
          rintro en w3 ⟨rfl, hb3⟩
          have HB3 := Lib.hid (HB.out.trans (hb3.mono HB.out.size))
          have H3a := Lib.hid (HC.out.below hb3)
          clear hb3
          go_wp2_with (fail)
          refine (crep_len H3a.out).mono ?_
          rintro en w4 ⟨rfl, hb4⟩
          have HB4 := Lib.hid (HB3.out.trans (hb4.mono HB3.out.size))
          rw [hlen.out]
          go_wp2
          all_goals go_ret
          all_goals refine ⟨ret_bool ?_, HB4.out⟩
          all_goals simp
          all_goals omega

theorem cacheLast_law (W : World) (base : Nat) {H : Type} {enc : TypeId × Value → H} (args : Array Value) (ds : List (DataW H)) (p : List MemPlace)
    (hval : ∀ (j : Nat) t v, Try.f4.params[j]? = some t → args[j]? = some v → Value.okWide Try.prog W .any base t v)
    (hA : DataW.TrodAll enc Try.prog W 0 (fun _ => true) true Try.f4.params.toList args.toList ds p) :
    Frame.Law Try.prog 4 args W := by
  rw [Try.params4] at hA hval
  obtain ⟨v0, v1, d0, d1, p0, p1, rfl, rfl, rfl, h0, h1⟩ := Go.ChangeShapes.trodAll_two hA
  obtain ⟨z0, rfl, hz0⟩ := u8_open Try.underlying5 (hval 0 5 v0 rfl rfl) h0
  obtain ⟨z1, rfl, hz1⟩ := u8_open Try.underlying5 (hval 1 5 v1 rfl rfl) h1
  exact last_walk z0 z1 hz0 hz1 W

set_option maxRecDepth 100000 in
theorem cacheLast_lifted (os : Os) (started : os.Started) (H : Type) (enc : TypeId × Value → H) :
    ReturnsInHanded {} Try.checked os 4 .any (Rows.cacheLastSpec.pre6 enc Try.prog Try.f4 Rows.cacheLastRow.domain false) (Rows.cacheLastSpec.post enc Try.prog Try.f4 false true false false) :=
  Frame.law_lift (C := Try.checked) (fn := Try.f4) own started (by kernel_rfl) Try.func4 laidOut (by decide +kernel) rfl Try.underlying4 rfl
    (fun ds h => by match ds, h with | [d1, d2], _ => rfl)
    (ChangeSpec.witness6 (enc := enc) (C := Try.checked) false ⟨#[], #[.int .u8 0, .int .u8 0], []⟩ 8 (by kernel_rfl) (by kernel_rfl) (by kernel_rfl) (by kernel_rfl))
    (fun W base args ds p hval hA => cacheLast_law W base args ds p hval hA)

theorem cacheLast_holds : Rows.CacheLastSaid :=
  OpenClaim.holds_of_wide 4 Try.f4 rfl rfl rfl rfl rfl rfl rfl ⟨rfl, rfl, rfl, rfl, rfl⟩ rfl rfl rfl rfl rfl (by kernel_rfl) Try.func4 (by kernel_rfl)
    (of_decide_eq_true (by kernel_rfl)) (by unfold Func.isWrapper; rw [if_neg (of_decide_eq_false (by kernel_rfl))]; exact ⟨rfl, rfl⟩)
    (fun os started H enc _ => cacheLast_lifted os started H enc)

#print axioms cacheLast_holds
end Go.Proofs.Ytjfpbhdcbjaahaa
