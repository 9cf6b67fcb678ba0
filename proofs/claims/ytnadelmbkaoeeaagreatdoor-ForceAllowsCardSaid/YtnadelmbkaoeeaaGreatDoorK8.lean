/- Walks: the index's Len, Longest, Allowed. -/
import Derived.Test.YtnadelmbkaoeeaaGreatDoorK7
import Derived.Test.YtnadelmbkaoeeaaGreatDoorK5
import Derived.Test.YtnadelmbkaoeeaaGreatDoorK3
import Derived.Deep.LoopGhost
import Derived.Test.YtnadelmbkaoeeaaGreatDoorK1
import Derived.Test.YtnadelmbkaoeeaaGreatDoorK4
import Derived.Deep.AppendLies
import Derived.Deep.RegionLaw
import Derived.Shelf.SlSortCmp.WholeK
import Derived.Shelf.SlSortCmp.InsertionK
import Derived.Test.YtnadelmbkaoeeaaGreatDoorProg
namespace Go.Proofs.YtnadelmbkaoeeaaGreatDoor
open Go.RowKit
set_option linter.unusedVariables false

set_option maxHeartbeats 400000 in
theorem lenF_calls {P : List FP} {g : Nat} (w : World) (hI : IdxR w g P) :
    Calls Tryz.prog 20 #[.pointer (some ⟨g, 0, none⟩)] w fun e w' => e = .returned (.int .i64 P.length) ∧ w = w' := by
  obtain ⟨⟨ro, rc, hg, hr⟩, _⟩ := hI
  obtain ⟨c0, _⟩ := box1 hg
  clear hg hr
  generalize P.length = N at *
  go_enter Tryz.func20, Tryz.ntmps20
  go_wp2_with (fail)
  go_ret
  exact ⟨rfl, rfl⟩
theorem lenF_nil (w : World) :
    Calls Tryz.prog 20 #[.pointer none] w fun e w' => e = .returned (.int .i64 0) ∧ w = w' := by
  go_enter Tryz.func20, Tryz.ntmps20
  go_wp2_with (fail)
  go_ret
  exact ⟨rfl, rfl⟩
theorem longest_nil (v : Value) (w : World) :
    Calls Tryz.prog 24 #[.pointer none, v] w fun e w' => e = .returned (.int .i64 (-1)) ∧ w = w' := by
  go_enter Tryz.func24, Tryz.ntmps24
  go_wp2_with (fail)
  go_ret
  exact ⟨rfl, rfl⟩
theorem allowed_nil (v : Value) (w : World) :
    Calls Tryz.prog 22 #[.pointer none, v] w fun e w' => e = .returned (.slice none 0 0) ∧ ∃ q, w' = w.drewN q := by
  go_enter Tryz.func22, Tryz.ntmps22
  go_wp2_with (fail)
  go_ret
  exact ⟨rfl, 0, rfl⟩

theorem longTo_yes {rows : List Fr} {s : List Int} {k : Nat} {p : FP} (h : rows.find? (fun r => decide (r.1 = s.take (k + 1))) = some p.fr) : longTo rows s (k + 1) = p.id := by
  simp only [longTo, h]; rfl
theorem longTo_no {rows : List Fr} {s : List Int} {k : Nat} (h : rows.find? (fun r => decide (r.1 = s.take (k + 1))) = none) : longTo rows s (k + 1) = longTo rows s k := by
  simp only [longTo, h]

set_option maxHeartbeats 1000000 in
set_option maxRecDepth 100000 in
theorem longest_calls {P : List FP} {g : Nat} {S : List Int} {so : Option Addr} {sn sc : Nat} (w : World) (hI : IdxR w g P) (hS : SlI w so sn sc S) (hN : P.length ≤ 1048576) (hs : SortedF (P.map FP.fr)) (hu : ∀ a ∈ P.map FP.fr, ∀ b ∈ P.map FP.fr, a.1 = b.1 → a = b) :
    Calls Tryz.prog 24 #[.pointer (some ⟨g, 0, none⟩), .slice so sn sc] w fun e w' => e = .returned (.int .i64 (longTo (P.map FP.fr) S (min sn 64))) ∧ Below w.heap.size w w' := by
  have HI := Lib.hid hI
  have HS := Lib.hid hS
  have HSO := Lib.hid hs
  have HU := Lib.hid hu
  have HN := Lib.hid hN
  obtain ⟨m0, hm0⟩ : ∃ m0, min sn 64 = m0 := ⟨_, rfl⟩
  have hle := Sl.le hS
  have hmx := Sl.max hS
  unfold maxLen at hmx
  have hmin : min (sn : Int) 64 = (m0 : Int) := by omega
  have hm64 : m0 ≤ 64 := by omega
  have hmsn : m0 ≤ sn := by omega
  obtain ⟨i0, hi, hz0, hz1, hz2⟩ := info_parts infoInt3
  rw [hm0]
  clear hI hS hs hu hN hm0
  go_enter Tryz.func24, Tryz.ntmps24
  go_wp2_with (fail)
  go_loopw [5] (fun i wr => ∃ k : Nat, k ≤ m0 ∧ i = .int .i64 k ∧ Hid (longTo (P.map FP.fr) S k = longTo (P.map FP.fr) S m0) ∧ Below w.heap.size w wr) (fun i _ => (intOf i).toNat)
  case atStart => exact ⟨m0, Nat.le_refl _, rfl, Lib.hid rfl, Below.refl _ _⟩
  case round =>
    obtain ⟨k, hk, rfl, HK, hb⟩ := hrel
    have HB := Lib.hid hb
    clear hb
    by_cases h0 : 0 < k
    · obtain ⟨j, hj⟩ : ∃ j, k - 1 = j := ⟨_, rfl⟩
      have hjk : j + 1 = k := by omega
      rw [← hjk] at HK
      obtain ⟨k0, bb, q1, q2, q3, q4, q5⟩ := exact_of HSO.out HU.out (S.take k)
      have hex := exact_calls wr (HI.out.below HB.out) ((HS.out.below HB.out).take (by omega)) HN.out q1 q2 q3
      have hkn : k ≤ sn := by omega
      have hkc : k ≤ sc := by omega
      have gk : (0 : Int) < (k : Int) := by omega
      have gkn : (k : Int) ≤ (sn : Int) := by omega
      have gkc : (k : Int) ≤ (sc : Int) := by omega
      have hwr : IntKind.i64.wrap ((k : Int) - 1) = (j : Int) := by rw [IntKind.wrap_i64]; omega
      have HJK := Lib.hid hjk
      obtain ⟨⟨ro, rc, hg, hr⟩, hsy⟩ := HI.out
      have hgw := (Array.getElem?_eq_some_iff.1 hg).1
      cases bb with
      | true =>
        obtain ⟨r1, _⟩ := q3.1 rfl
        obtain ⟨b, of, hao, hce⟩ := hr.elem FP.enc_len (by omega) (fp_eq r1)
        subst hao
        have HL : Hid (longTo (P.map FP.fr) S m0 = (fp P k0).id) := Lib.hid (by rw [← HK.out]; exact longTo_yes (by rw [HJK.out]; exact q4 rfl))
        obtain ⟨p, hp⟩ : ∃ p, fp P k0 = p := ⟨_, rfl⟩
        rw [hp] at hce HL
        obtain ⟨ao, n, c, id, sy⟩ := p
        have d1 := hce 1 _ rfl
        simp only at d1 HL
        have gk0 : (k0 : Int) < (P.length : Int) := by omega
        have HG := Lib.hid hg
        have HD := Lib.hid d1
        clear q1 q2 q3 q4 q5 r1 hce hp hr hsy hg d1 hj hjk
        generalize P.length = pn at *
        go_wp2_with (fail)
        refine hex.mono ?_
        rintro e w9 ⟨rfl, hb9⟩
        have HB9 := Lib.hid (HB.out.trans (hb9.mono HB.out.size))
        obtain ⟨c0, _⟩ := box1 ((HB9.out.block g hgw).trans HG.out)
        have d1 := cell_below HB9.out _ _ HD.out
        clear hb9 hex
        go_wp2_with (fail)
        go_ret
        exact ⟨ret_i64 HL.out.symm, HB9.out⟩
      | false =>
        have HL : Hid (longTo (P.map FP.fr) S j = longTo (P.map FP.fr) S m0) := Lib.hid (by rw [← HK.out]; exact (longTo_no (by rw [HJK.out]; exact q5 rfl)).symm)
        clear q1 q2 q3 q4 q5 hr hsy hg hj hjk
        go_wp2_with (fail)
        refine hex.mono ?_
        rintro e w9 ⟨rfl, hb9⟩
        have HB9 := Lib.hid (HB.out.trans (hb9.mono HB.out.size))
        clear hb9 hex
        go_wp2_with (fail)
        go_roundw
        case rel => exact ⟨j, by have := HJK.out; omega, rfl, HL, HB9.out⟩
        case measure => have := HJK.out; simp [intOf]; omega
    · obtain rfl : k = 0 := by omega
      have HL : Hid (longTo (P.map FP.fr) S m0 = -1) := Lib.hid (by rw [← HK.out]; rfl)
      go_wp2_with (fail)
      go_ret
      exact ⟨ret_i64 HL.out.symm, HB.out⟩

theorem take_snoc_id {P : List FP} {k0 k1 t : Nat} {A : List Int} (h : t < k1) (h2 : k0 + k1 ≤ P.length) : (A ++ ((((P.take (k0 + k1)).drop k0).map (·.id)).take t)) ++ [(fp P (k0 + t)).id] = A ++ ((((P.take (k0 + k1)).drop k0).map (·.id)).take (t + 1)) := by
  rw [List.append_assoc]
  congr 1
  rw [List.take_add_one, List.getElem?_map, List.getElem?_drop, List.getElem?_take, if_pos (by omega), fp_eq (by omega)]
  rfl

set_option maxHeartbeats 2000000 in
set_option maxRecDepth 100000 in
theorem allowed_calls {P : List FP} {g : Nat} {S : List Int} {so : Option Addr} {sn sc : Nat} (w : World) (hI : IdxR w g P) (hS : SlI w so sn sc S) (hN : P.length ≤ 1048576) (hs : SortedF (P.map FP.fr)) (hu : ∀ a ∈ P.map FP.fr, ∀ b ∈ P.map FP.fr, a.1 = b.1 → a = b) (h0 : 0 < sn) :
    Calls Tryz.prog 22 #[.pointer (some ⟨g, 0, none⟩), .slice so sn sc] w fun e w' => (∃ v, e = .returned v ∧ Own w' w.heap.size v ((partsF (P.map FP.fr) S (min (sn - 1) 64) ++ spanF (P.map FP.fr) S).mergeSort fun x y => decide (x ≤ y))) ∧ Below w.heap.size w w' := by
  have HI := Lib.hid hI
  have HS := Lib.hid hS
  have HSO := Lib.hid hs
  have HU := Lib.hid hu
  have HN := Lib.hid hN
  obtain ⟨m0, hm0⟩ : ∃ m0, min (sn - 1) 64 = m0 := ⟨_, rfl⟩
  have hle := Sl.le hS
  have hmx := Sl.max hS
  unfold maxLen at hmx
  have hm64 : m0 ≤ 64 := by omega
  have hmsn : m0 < sn := by omega
  have HMM : Hid (m0 = 64 ∨ m0 + 1 = sn) := Lib.hid (by omega)
  obtain ⟨i0, hi, hz0, hz1, hz2⟩ := info_parts infoInt3
  obtain ⟨j0, z0, hj, hy0, hy1, hy2, hy3⟩ := info_row infoRow
  obtain ⟨⟨ro, rc, hg, hr⟩, hsy⟩ := hI
  have hgw := (Array.getElem?_eq_some_iff.1 hg).1
  have HG := Lib.hid hg
  have HR := Lib.hid hr
  rw [hm0]
  have hsn0 : ((sn : Int) == 0) = false := by simp; omega
  have hsn1 : ¬ (sn : Int) = 0 := by omega
  have hsn2 : ¬ sn = 0 := by omega
  clear hS hs hu hN hm0 hg hr hsy h0
  go_enter Tryz.func22, Tryz.ntmps22
  go_wp2_with (fail)
  go_loopw [5, 6] (fun v i wr => ∃ k : Nat, 1 ≤ k ∧ k ≤ m0 + 1 ∧ i = .int .i64 k ∧ Own wr w.heap.size v (partsF (P.map FP.fr) S (k - 1)) ∧ Below w.heap.size w wr) (fun _ i _ => m0 + 1 - (intOf i).toNat)
  case atStart => exact ⟨1, Nat.le_refl _, by omega, rfl, by simpa [partsF] using Own.nil w w.heap.size, Below.refl _ _⟩
  case round =>
    obtain ⟨k, hk1, hkm, rfl, ho, hb⟩ := hrel
    have HB := Lib.hid hb
    have HO := Lib.hid ho
    clear hb ho
    by_cases hlt : k ≤ m0
    · obtain ⟨k0, bb, q1, q2, q3, q4, q5⟩ := exact_of HSO.out HU.out (S.take k)
      have hex := exact_calls wr (HI.out.below HB.out) ((HS.out.below HB.out).take (by omega)) HN.out q1 q2 q3
      have hkn : k ≤ sn := by omega
      have hkc : k ≤ sc := by omega
      have gk1 : (k : Int) < (sn : Int) := by omega
      have gk2 : (k : Int) ≤ 64 := by omega
      have gkn : (k : Int) ≤ (sn : Int) := by omega
      have gkc : (k : Int) ≤ (sc : Int) := by omega
      have HPS : Hid (partsF (P.map FP.fr) S k = partsF (P.map FP.fr) S (k - 1) ++ exactF (P.map FP.fr) (S.take k)) := Lib.hid (by
        have := partsF_succ (P.map FP.fr) S (k - 1)
        rwa [show k - 1 + 1 = k by omega] at this)
      cases bb with
      | true =>
        obtain ⟨r1, _⟩ := q3.1 rfl
        obtain ⟨b, of, hao, hce⟩ := HR.out.elem FP.enc_len (by omega) (fp_eq r1)
        subst hao
        rw [exactF_some (q4 rfl)] at HPS
        obtain ⟨p, hp⟩ : ∃ p, fp P k0 = p := ⟨_, rfl⟩
        rw [hp] at hce HPS
        obtain ⟨ao, n, c, id, sy⟩ := p
        have d1 := hce 1 _ rfl
        simp only at d1 HPS
        have gk0 : (k0 : Int) < (P.length : Int) := by omega
        have HD := Lib.hid d1
        have HPN : Hid (((partsF (P.map FP.fr) S (k - 1))).length ≤ k - 1) := Lib.hid (partsF_le _ _ _)
        clear q1 q2 q3 q4 q5 r1 hce hp d1
        obtain ⟨pn, hpn⟩ : ∃ pn, P.length = pn := ⟨_, rfl⟩
        have HPL := Lib.hid hpn
        rw [hpn] at gk0
        clear hpn
        go_wp2_with (fail)
        refine hex.mono ?_
        rintro e w9 ⟨rfl, hb9⟩
        have HB9 := Lib.hid (HB.out.trans (hb9.mono HB.out.size))
        obtain ⟨c0, _⟩ := box1 ((HB9.out.block g hgw).trans HG.out)
        rw [HPL.out] at c0
        have d1 := cell_below HB9.out _ _ HD.out
        have HO9 : Hid (Own (w9.alloc (.cells #[.int .i64 id] 3)) w.heap.size u5 (partsF (P.map FP.fr) S (k - 1))) := Lib.hid ((HO.out.below hb9).alloc _)
        have HS9 : Hid (SlI (w9.alloc (.cells #[.int .i64 id] 3)) (some ⟨w9.heap.size, 0, none⟩) 1 1 [id]) := Lib.hid (SlI.one w9 id _)
        have HSZ : Hid (w.heap.size ≤ w9.heap.size) := Lib.hid HB9.out.size
        clear hb9 hex
        go_wp2_with (at_builtin; go_loud (refine wpList_int_app rfl _ _ 41 rfl i0 Tryz.underlying41 hi hz0 hz1 hz2 rfl HO9.out rfl HS9.out (by have := HPN.out; omega) (by have := HSZ.out; simp; omega) ?_))
        intro v1 w2 ho2 hg2 hb2
        rw [← HPS.out] at ho2
        have HO2 := Lib.hid ho2
        have HB2 := Lib.hid ((HB9.out.alloc HB9.out.size _).trans hb2)
        clear ho2 hg2 hb2
        go_wp2_with (fail)
        go_roundw
        case rel => exact ⟨k + 1, by omega, by omega, by go_num, by simpa using HO2.out, HB2.out⟩
        case measure => simp [intOf]; omega
      | false =>
        rw [exactF_none (q5 rfl), List.append_nil] at HPS
        clear q1 q2 q3 q4 q5
        go_wp2_with (fail)
        refine hex.mono ?_
        rintro e w9 ⟨rfl, hb9⟩
        have HO9 := Lib.hid (HO.out.below hb9)
        have HB9 := Lib.hid (HB.out.trans (hb9.mono HB.out.size))
        rw [← HPS.out] at HO9
        clear hb9 hex
        go_wp2_with (fail)
        go_roundw
        case rel => exact ⟨k + 1, by omega, by omega, by go_num, by simpa using HO9.out, HB9.out⟩
        case measure => simp [intOf]; omega
    · obtain rfl : k = m0 + 1 := by omega
      rw [Nat.add_sub_cancel] at HO
      obtain ⟨A, hA⟩ : ∃ A, partsF (P.map FP.fr) S m0 = A := ⟨_, rfl⟩
      have HAL : Hid (A.length ≤ 64) := Lib.hid (by rw [← hA]; have := partsF_le (P.map FP.fr) S m0; omega)
      rw [hA] at HO
      have HA := Lib.hid hA
      obtain ⟨k0, k1, q1, q2, q3, q4, q5⟩ := span_of HSO.out S
      have hsp := span_calls wr (HI.out.below HB.out) (HS.out.below HB.out) HN.out q1 q2 q3 q4
      obtain ⟨K, hK⟩ : ∃ K, k0 + k1 = K := ⟨_, rfl⟩
      rw [hK] at hsp q3
      have HK := Lib.hid hK
      have HQ3 := Lib.hid q3
      obtain ⟨pn, hpn⟩ : ∃ pn, P.length = pn := ⟨_, rfl⟩
      have HPL := Lib.hid hpn
      rw [hpn] at q3
      have HD : Hid ((P.drop k0).take k1 = (P.take K).drop k0) := Lib.hid (by rw [← hK, List.drop_take]; congr 1; omega)
      rw [HD.out] at q5
      have HQ5 := Lib.hid q5
      have HSL : Hid (SlF 2 w ro pn rc (flat FP.enc P)) := Lib.hid (by rw [← hpn]; exact HR.out)
      have hk0 : k0 ≤ K := by omega
      obtain ⟨D, hDD⟩ : ∃ D, K - k0 = D := ⟨_, rfl⟩
      have hkd : k1 = D := by omega
      have HKD := Lib.hid hkd
      clear q1 q2 q4 q5 hpn hA hlt hK hkd
      have fin : ∀ n m : Nat, (m0 = 64 ∨ m0 + 1 = sn) := fun _ _ => HMM.out
      clear fin
      have hguard : (¬ ((m0 + 1 : Nat) : Int) < (sn : Int)) ∨ ((((m0 + 1 : Nat) : Int) < (sn : Int)) ∧ ¬ ((m0 + 1 : Nat) : Int) ≤ 64) := by have := HMM.out; omega
      obtain ⟨q, hq⟩ : ∃ q, m0 + 1 = q := ⟨_, rfl⟩
      rw [hq] at hguard ⊢
      clear hkm hk1 hq
      rcases hguard with hg1 | ⟨hg1, hg2⟩
      all_goals (
        go_wp2_with (fail)
        refine hsp.mono ?_
        rintro e w9 ⟨rfl, hb9⟩
        have HB9 := Lib.hid (HB.out.trans (hb9.mono HB.out.size))
        obtain ⟨c0, _⟩ := box1 ((HB9.out.block g hgw).trans HG.out)
        rw [HPL.out] at c0
        have HO9 := Lib.hid (HO.out.below hb9)
        clear hb9 hsp
        go_wp2_with (refine wpList_flat_lh (enc := FP.enc) rfl _ _ _ _ rfl j0 Tryz.underlying89 hj hy1 FP.enc_len rfl HSL.out (k := k0) (m := K) rfl rfl rfl rfl hk0 q3 ?_; intro so2 hs2)

        rw [hDD] at hs2
        have HS2 := Lib.hid hs2
        clear hs2
        go_loopw [5, 64] (fun v i wr2 => ∃ t : Nat, t ≤ D ∧ i = .int .i64 t ∧ Own wr2 w.heap.size v (A ++ (((P.take K).drop k0).map (·.id)).take t) ∧ Below w.heap.size w wr2) (fun _ i _ => D - (intOf i).toNat)
        case atStart => exact ⟨0, Nat.zero_le _, rfl, by simpa using HO9.out, HB9.out⟩
        case round =>
          obtain ⟨t, ht, rfl, ho2, hb2⟩ := hrel
          have HB2 := Lib.hid hb2
          have HO2 := Lib.hid ho2
          clear hb2 ho2
          by_cases hlt : t < D
          · obtain ⟨b, of, hao, hce⟩ := (HS2.out.below HB2.out).elem (x := fp P (k0 + t)) FP.enc_len (by omega) (k := t) (by
              have := HKD.out; have := HK.out; have := HQ3.out
              rw [List.getElem?_drop, List.getElem?_take, if_pos (by omega), fp_eq (by omega)])
            subst hao
            have HNX := Lib.hid (take_snoc_id (A := A) (P := P) (k0 := k0) (k1 := k1) (t := t) (by have := HKD.out; omega) (by have := HK.out; have := HQ3.out; omega))
            rw [HK.out] at HNX
            have HLN : Hid ((A ++ (((P.take K).drop k0).map (·.id)).take t).length ≤ 64 + t) := Lib.hid (by rw [List.length_append, List.length_take]; have := HAL.out; omega)
            obtain ⟨p, hp⟩ : ∃ p, fp P (k0 + t) = p := ⟨_, rfl⟩
            rw [hp] at hce HNX
            obtain ⟨X, hX⟩ : ∃ X, A ++ (((P.take K).drop k0).map (·.id)).take t = X := ⟨_, rfl⟩
            obtain ⟨Y, hY⟩ : ∃ Y, A ++ (((P.take K).drop k0).map (·.id)).take (t + 1) = Y := ⟨_, rfl⟩
            rw [hX] at HNX HO2 HLN
            rw [hY] at HNX
            have HY := Lib.hid hY
            clear hX hY
            obtain ⟨ao, n, c, id, sy⟩ := p
            have d0 := hce 0 _ rfl
            have d1 := hce 1 _ rfl
            rw [Nat.add_zero] at d0
            simp only at d0 d1 HNX
            have gt : (t : Int) < (D : Int) := by omega
            have HO8 : Hid (Own ((wr.alloc (.cells #[.slice ao n c, .int .i64 id] 93)).alloc (.cells #[.int .i64 id] 3)) w.heap.size u5 X) := Lib.hid ((HO2.out.alloc _).alloc _)
            have HS8 : Hid (SlI ((wr.alloc (.cells #[.slice ao n c, .int .i64 id] 93)).alloc (.cells #[.int .i64 id] 3)) (some ⟨wr.heap.size + 1, 0, none⟩) 1 1 [id]) := Lib.hid (by
              have := SlI.one (wr.alloc (.cells #[.slice ao n c, .int .i64 id] 93)) id 3
              simpa using this)
            have HSZ : Hid (w.heap.size ≤ wr.heap.size) := Lib.hid HB2.out.size
            have hdl : D ≤ 1048576 := (by have := HKD.out; have := HK.out; have := HQ3.out; have := HN.out; omega)
            clear hce hp
            go_wp2_with (at_builtin; go_loud (refine wpList_int_app rfl _ _ 41 rfl i0 Tryz.underlying41 hi hz0 hz1 hz2 rfl HO8.out rfl HS8.out (by have := HLN.out; omega) (by have := HSZ.out; simp; omega) ?_))
            intro v1 w2 ho2 hg2 hb2
            rw [HNX.out] at ho2
            have HO3 := Lib.hid ho2
            have HB3 := Lib.hid (((HB2.out.alloc HB2.out.size _).alloc (by have := HSZ.out; simp; omega) _).trans hb2)
            clear ho2 hg2 hb2
            go_wp2_with (fail)
            go_roundw
            case rel => exact ⟨t + 1, by omega, by go_num, by rw [HY.out]; exact HO3.out, HB3.out⟩
            case measure => simp [intOf]; omega
          · obtain rfl : t = D := by omega
            have HF : Hid (A ++ (((P.take K).drop k0).map (·.id)).take t = A ++ spanF (P.map FP.fr) S) := Lib.hid (by
              rw [HQ5.out, List.take_of_length_le]
              rw [← HQ5.out, List.length_map, List.length_drop, List.length_take]
              have := HKD.out; have := HK.out
              omega)
            rw [HF.out] at HO2
            have HLN : Hid ((A ++ spanF (P.map FP.fr) S).length ≤ 4194304) := Lib.hid (by
              rw [← HQ5.out, List.length_append, List.length_map, List.length_drop, List.length_take]
              have := HAL.out; have := HN.out; omega)
            have hso := sortI_calls HO2.out HB2.out.size (by have := HLN.out; omega)
            have gt : ¬ (t : Int) < (t : Int) := by omega
            go_wp2_with (fail)
            refine hso.mono ?_
            rintro e w10 ⟨rfl, ho10, hb10⟩
            have HO10 := Lib.hid ho10
            have HB10 := Lib.hid (HB2.out.trans hb10)
            clear ho10 hb10 hso
            go_wp2_with (fail)
            go_ret
            exact ⟨⟨_, rfl, by rw [HA.out]; exact HO10.out⟩, HB10.out⟩)

end Go.Proofs.YtnadelmbkaoeeaaGreatDoor

/- Walks: cmp.Less, isNaN and slices.BinarySearch at strings. -/
namespace Go.Proofs.YtnadelmbkaoeeaaGreatDoor
open Go.RowKit
set_option linter.unusedVariables false

set_option maxHeartbeats 400000 in
theorem nanC_calls (x : ByteArray) (w : World) : Calls Tryz.prog 98 #[.string x] w fun e w' => e = .returned (.bool false) ∧ w = w' := by
  go_enter Tryz.func98, Tryz.ntmps98
  go_wp2
  go_ret
  exact ⟨by simp, rfl⟩
set_option maxHeartbeats 400000 in
theorem nanS_calls (x : ByteArray) (w : World) : Calls Tryz.prog 72 #[.string x] w fun e w' => e = .returned (.bool false) ∧ w = w' := by
  go_enter Tryz.func72, Tryz.ntmps72
  go_wp2
  go_ret
  exact ⟨by simp, rfl⟩
set_option maxHeartbeats 400000 in
theorem lessS_calls (x y : ByteArray) (w : World) : Calls Tryz.prog 71 #[.string x, .string y] w fun e w' => e = .returned (.bool (sless x y)) ∧ w = w' := by
  go_enter Tryz.func71, Tryz.ntmps71
  go_wp2_with (go_at_call 98; refine (nanC_calls _ _).mono ?_; rintro e w' ⟨rfl, rfl⟩)
  go_ret
  exact ⟨rfl, rfl⟩

set_option maxHeartbeats 1000000 in
set_option maxRecDepth 100000 in
theorem binS_calls {N : List ByteArray} {no : Option Addr} {nn nc : Nat} (x : ByteArray) (w : World) (hN : SlS w no nn nc N) {k0 : Nat} (hk : k0 ≤ N.length) (hbig : nn ≤ 1048576)
    (h1 : ∀ t, t < k0 → sless (tk N t) x = true) (h2 : ∀ t, k0 ≤ t → t < N.length → sless (tk N t) x = false) {bb : Bool} (hbb : bb = true ↔ (k0 < N.length ∧ tk N k0 = x)) :
    Calls Tryz.prog 46 #[.slice no nn nc, .string x] w fun e w' => e = .returned (.tuple #[.int .i64 (k0 : Int), .bool bb]) ∧ Below w.heap.size w w' := by
  have HL := Lib.hid hN.count
  have HN := Lib.hid hN
  have H1 := Lib.hid h1
  have H2 := Lib.hid h2
  have HK := Lib.hid hk
  have HBB := Lib.hid hbb
  clear hN h1 h2 hk hbb
  go_enter Tryz.func46, Tryz.ntmps46
  go_wp2_with (fail)
  go_loopw [7, 8] (fun a b wr => ∃ lo hi : Nat, a = .int .i64 lo ∧ b = .int .i64 hi ∧ Hid (lo ≤ k0) ∧ Hid (k0 ≤ hi) ∧ lo ≤ hi ∧ hi ≤ nn ∧ Below w.heap.size w wr) (fun a b _ => (intOf b).toNat - (intOf a).toNat)
  case atStart => exact ⟨0, nn, rfl, rfl, Lib.hid (by omega), Lib.hid (by have := HK.out; have := HL.out; omega), by omega, by omega, Below.refl _ _⟩
  case round =>
    obtain ⟨lo, hi, rfl, rfl, Hlo, Hhi, hlh, hhn, hb⟩ := hrel
    by_cases hlt : lo < hi
    · obtain ⟨m, hm⟩ : ∃ m, (lo + hi) / 2 = m := ⟨_, rfl⟩
      have hmN : m < N.length := by have := HL.out; omega
      obtain ⟨b, o, hao, hc⟩ := SlS.cell (Sl.below HN.out hb) (tk_eq hmN)
      subst hao
      have HM : Hid ((lo + hi) / 2 = m) := Lib.hid hm
      rw [← hm] at hc
      have HB := Lib.hid hb
      obtain ⟨y, hy⟩ : ∃ y, tk N ((lo + hi) / 2) = y := ⟨_, rfl⟩
      rw [hy] at hc
      have HY := Lib.hid hy
      have hmlt : (lo + hi) / 2 < nn := by omega
      clear hm hy hb hmN
      cases hyx : sless y x with
      | false =>
        have HMH : Hid (k0 ≤ (lo + hi) / 2) := Lib.hid (by
          rcases Nat.lt_or_ge ((lo + hi) / 2) k0 with h | h
          · have := H1.out _ h
            rw [HY.out, hyx] at this; cases this
          · exact h)
        go_wp2_with (first
          | (go_at_call 71; refine (lessS_calls _ _ _).mono ?_; rintro e w' ⟨rfl, rfl⟩))
        go_roundw
        case rel => exact ⟨lo, (lo + hi) / 2, rfl, by rw [show ((lo : Int) + (hi : Int)) / 2 = (((lo + hi) / 2 : Nat) : Int) by omega], Hlo, HMH, by omega, by omega, HB.out⟩
        case measure => simp [intOf]; omega
      | true =>
        have HMH : Hid ((lo + hi) / 2 + 1 ≤ k0) := Lib.hid (by
          rcases Nat.lt_or_ge ((lo + hi) / 2) k0 with h | h
          · exact h
          · have := H2.out _ h (by have := HL.out; omega)
            rw [HY.out, hyx] at this; cases this)
        go_wp2_with (first
          | (go_at_call 71; refine (lessS_calls _ _ _).mono ?_; rintro e w' ⟨rfl, rfl⟩))
        go_roundw
        case rel => exact ⟨(lo + hi) / 2 + 1, hi, by rw [show ((lo : Int) + (hi : Int)) / 2 + 1 = (((lo + hi) / 2 + 1 : Nat) : Int) by omega], rfl, HMH, Hhi, by omega, by omega, HB.out⟩
        case measure => simp [intOf]; omega
    · have hE : lo = k0 ∧ hi = k0 := by have := Hlo.out; have := Hhi.out; omega
      obtain ⟨hlo, hhi⟩ := hE
      obtain rfl : hi = lo := by omega
      subst hlo
      have HB := Lib.hid hb
      by_cases hn : hi < nn
      · have hmN : hi < N.length := by have := HL.out; omega
        obtain ⟨b, o, hao, hc⟩ := SlS.cell (Sl.below HN.out hb) (tk_eq hmN)
        subst hao
        obtain ⟨y, hy⟩ : ∃ y, tk N hi = y := ⟨_, rfl⟩
        rw [hy] at hc
        have HY := Lib.hid hy
        have HMN := Lib.hid hmN
        clear hy hb hmN
        by_cases hyx : y = x
        · have hb2 := beqS_yes hyx
          obtain rfl : bb = true := HBB.out.2 ⟨HMN.out, by rw [HY.out]; exact hyx⟩
          clear hyx
          go_wp2_with (first
            | (go_at_call 72; refine (nanS_calls _ _).mono ?_; rintro e w' ⟨rfl, rfl⟩))
          refine bodyPost_ret (v := .tuple #[.int .i64 hi, .bool true]) ?_ rfl ⟨rfl, HB.out⟩
          simp [results, Tryz.results46, go_sem]
        · have hb2 := beqS_no hyx
          obtain rfl : bb = false := by
            cases bb with
            | false => rfl
            | true => exact absurd (HBB.out.1 rfl).2 (by rw [HY.out]; exact hyx)
          clear hyx
          go_wp2_with (first
            | (go_at_call 72; refine (nanS_calls _ _).mono ?_; rintro e w' ⟨rfl, rfl⟩))
          refine bodyPost_ret (v := .tuple #[.int .i64 hi, .bool false]) ?_ rfl ⟨rfl, HB.out⟩
          simp [results, Tryz.results46, go_sem]
      · obtain rfl : bb = false := by
          cases bb with
          | false => rfl
          | true => exact absurd (HBB.out.1 rfl).1 (by have := HL.out; omega)
        go_wp2_with (first
          | (go_at_call 72; refine (nanS_calls _ _).mono ?_; rintro e w' ⟨rfl, rfl⟩))
        refine bodyPost_ret (v := .tuple #[.int .i64 hi, .bool false]) ?_ rfl ⟨rfl, HB.out⟩
        simp [results, Tryz.results46, go_sem]

/-- Of rising names: where one stands. -/
theorem names_cut {N : List ByteArray} (h : MayNames N) (x : ByteArray) : ∃ k0, k0 ≤ N.length ∧ (∀ t, t < k0 → sless (tk N t) x = true) ∧ (∀ t, k0 ≤ t → t < N.length → sless (tk N t) x = false) ∧
    ((k0 < N.length ∧ tk N k0 = x ∧ nameAt N x = some k0) ∨ (¬ (k0 < N.length ∧ tk N k0 = x) ∧ nameAt N x = none)) := by
  have hp : ∀ i j, i < j → j < N.length → sless (tk N i) (tk N j) = true := fun i j hij hj => by
    have h1 := List.pairwise_iff_getElem.1 h.2.2 i j (by omega) hj hij
    have e1 : N[i]'(by omega) = tk N i := by simp [tk, List.getD, show i < N.length by omega]
    have e2 : N[j] = tk N j := by simp [tk, List.getD, hj]
    rwa [e1, e2] at h1
  have key : ∃ k0, k0 ≤ N.length ∧ (∀ t, t < k0 → sless (tk N t) x = true) ∧ (∀ t, k0 ≤ t → t < N.length → sless (tk N t) x = false) := by
    have : ∀ d, d ≤ N.length → ∃ k0, k0 ≤ d ∧ (∀ t, t < k0 → sless (tk N t) x = true) ∧ (∀ t, k0 ≤ t → t < d → sless (tk N t) x = false) := by
      intro d
      induction d with
      | zero => intro _; exact ⟨0, by omega, fun t h => by omega, fun t h1 h2 => by omega⟩
      | succ d ih =>
        intro hd
        obtain ⟨k0, a, b, c⟩ := ih (by omega)
        by_cases hk : k0 = d
        · cases hs : sless (tk N d) x with
          | true =>
            refine ⟨d + 1, by omega, fun t ht => ?_, fun t h1 h2 => by omega⟩
            by_cases e : t = d
            · subst e; exact hs
            · exact b t (by omega)
          | false =>
            refine ⟨d, by omega, fun t ht => b t (by omega), fun t h1 h2 => ?_⟩
            have : t = d := by omega
            subst this; exact hs
        · refine ⟨k0, by omega, b, fun t h1 h2 => ?_⟩
          by_cases e : t = d
          · subst e
            have h3 := c k0 (Nat.le_refl _) (by omega)
            cases hs : sless (tk N t) x with
            | false => rfl
            | true =>
              have := sless_trans (hp k0 t (by omega) (by omega)) hs
              rw [h3] at this; cases this
          · exact c t h1 (by omega)
    exact this _ (Nat.le_refl _)
  obtain ⟨k0, a, b, c⟩ := key
  refine ⟨k0, a, b, c, ?_⟩
  by_cases hx : k0 < N.length ∧ tk N k0 = x
  · exact .inl ⟨hx.1, hx.2, nameAt_some hx.1 hx.2 fun j hj e => by
      have := b j hj
      rw [e, sless_irrefl] at this; cases this⟩
  · refine .inr ⟨hx, nameAt_none fun j hj e => ?_⟩
    rcases Nat.lt_trichotomy j k0 with h1 | h1 | h1
    · have := b j h1
      rw [e, sless_irrefl] at this; cases this
    · subst h1; exact hx ⟨hj, e⟩
    · have h2 := c k0 (Nat.le_refl _) (by omega)
      have h3 := hp k0 j h1 hj
      rw [e, h2] at h3; cases h3

end Go.Proofs.YtnadelmbkaoeeaaGreatDoor

/- The document's usual table, in plain Lean: no program here. -/
namespace Go.Proofs.YtnadelmbkaoeeaaGreatDoor
open Go
set_option linter.unusedVariables false

/-- Ranges of a class, by their ends. -/
def rowRg (c : Int) (A : List Int) (k : Nat) : List Rg := (List.range k).map (fun j => ⟨ix A (2 * j), ix A (2 * j + 1), c⟩)
theorem rowRg_len (c : Int) (A : List Int) (k : Nat) : (rowRg c A k).length = k := by simp [rowRg]
theorem rowRg_succ (c : Int) (A : List Int) (k : Nat) : rowRg c A k ++ [⟨ix A (2 * k), ix A (2 * k + 1), c⟩] = rowRg c A (k + 1) := by
  unfold rowRg
  rw [List.range_succ, List.map_append]
  rfl
def us1 : List Int := [0x41, 0x5a, 0x61, 0x7a, 0xaa, 0xaa, 0xb5, 0xb5, 0xba, 0xba, 0xc0, 0xd6, 0xd8, 0xf6, 0xf8, 0x2c1, 0x370, 0x373, 0x376, 0x377, 0x37b, 0x37d, 0x37f, 0x37f, 0x386, 0x386, 0x388, 0x3f5, 0x3f7, 0x481, 0x48a, 0x52f, 0x531, 0x556, 0x561, 0x587, 0x5d0, 0x5ea, 0x620, 0x64a, 0x904, 0x939, 0xe01, 0xe30, 0x10a0, 0x10ff, 0x1100, 0x1248, 0x1e00, 0x1fbc, 0x3041, 0x3096, 0x30a1, 0x30fa, 0x4e00, 0x9fff, 0xac00, 0xd7a3, 0x20000, 0x2a6df]
def us2 : List Int := [0x30, 0x39, 0xb2, 0xb3, 0xb9, 0xb9, 0xbc, 0xbe, 0x660, 0x669, 0x966, 0x96f, 0x2160, 0x2188, 0xff10, 0xff19]
def us4 : List Int := [0xa, 0xa, 0xd, 0xd]
def us3 : List Int := [0x9, 0x9, 0xb, 0xc, 0x20, 0x20, 0x85, 0x85, 0xa0, 0xa0, 0x1680, 0x1680, 0x2000, 0x200a, 0x2028, 0x2029, 0x202f, 0x202f, 0x205f, 0x205f, 0x3000, 0x3000]
/-- The document's usual table, in no order. -/
def usU : List Rg := rowRg 1 us1 30 ++ rowRg 2 us2 8 ++ rowRg 4 us4 2 ++ rowRg 3 us3 11
/-- A range among others, rising. -/
def insRg (S : List Rg) (r : Rg) : List Rg := S.takeWhile (fun x => decide (x.lo < r.lo)) ++ r :: S.dropWhile (fun x => decide (x.lo < r.lo))
theorem insRg_at {S : List Rg} {r : Rg} {k : Nat} (hk : k ≤ S.length) (h1 : ∀ j, j < k → (rg S j).lo < r.lo) (h2 : k = S.length ∨ ¬ (rg S k).lo < r.lo) : insRg S r = S.take k ++ r :: S.drop k := by
  unfold insRg
  have e : S.takeWhile (fun x => decide (x.lo < r.lo)) = S.take k ∧ S.dropWhile (fun x => decide (x.lo < r.lo)) = S.drop k := by
    induction S generalizing k with
    | nil => simp at hk; subst hk; simp
    | cons x S ih =>
      cases k with
      | zero =>
        rcases h2 with h | h
        · simp at h
        · simp [rg] at h
          simp [h]
      | succ k =>
        have h0 := h1 0 (by omega)
        simp [rg] at h0
        have := ih (k := k) (by simp at hk; omega) (fun j hj => by have := h1 (j + 1) (by omega); simpa [rg] using this) (by
          rcases h2 with h | h
          · left; simpa using h
          · right; simpa [rg] using h)
        simp [h0, this.1, this.2]
  rw [e.1, e.2]
def insTo (L : List Rg) (k : Nat) : List Rg := (L.take k).foldl insRg []
theorem insTo_succ {L : List Rg} {k : Nat} (h : k < L.length) : insTo L (k + 1) = insRg (insTo L k) (rg L k) := by
  unfold insTo
  rw [List.take_add_one, rg_eq h]
  simp
theorem insRg_len (S : List Rg) (r : Rg) : (insRg S r).length = S.length + 1 := by
  unfold insRg
  have := congrArg List.length (List.takeWhile_append_dropWhile (p := fun x : Rg => decide (x.lo < r.lo)) (l := S))
  rw [List.length_append] at this
  rw [List.length_append, List.length_cons]
  omega
theorem insTo_len (L : List Rg) : ∀ {k : Nat}, k ≤ L.length → (insTo L k).length = k
  | 0, _ => rfl
  | k + 1, h => by rw [insTo_succ h, insRg_len, insTo_len L (by omega)]

end Go.Proofs.YtnadelmbkaoeeaaGreatDoor

/- Walk: may a table of classes be, by the document? (Printed by gClass3.py.) -/
namespace Go.Proofs.YtnadelmbkaoeeaaGreatDoor
open Go.RowKit
set_option linter.unusedVariables false

set_option maxHeartbeats 2000000 in
set_option maxRecDepth 100000 in
theorem rclassMay_calls {t : List Rg} {to_ : Option Addr} {tn tc : Nat} (w : World) (hR : SlF 3 w to_ tn tc (flat Rg.enc t)) :
    Calls Tryz.prog 41 #[.slice to_ tn tc] w (TabPost1 t w) := by
  have hm := Nat.le_trans hR.le hR.max
  unfold maxLen at hm
  have HL := Lib.hid (hR.count Rg.enc_len (by omega))
  have HR := Lib.hid hR
  clear hR
  by_cases h200 : (200 : Int) < tn
  · have HF : Hid (false = true ↔ MayTab t) := Lib.hid (notTab_len (by have := HL.out; omega))
    go_enter Tryz.func41, Tryz.ntmps41
    go_wp2_with (fail)
    go_ret
    exact ⟨⟨_, rfl, HF.out⟩, Below.refl _ _⟩
  go_enter Tryz.func41, Tryz.ntmps41
  go_wp2_with (fail)
  go_loopw [3, 10] (fun v i wr => ∃ (k : Nat) (la : Int), k ≤ tn ∧ i = .int .i64 k ∧ v = .int .i64 la ∧ Hid ((k = 0 ∧ la = -1) ∨ (0 < k ∧ la = (rg t (k - 1)).hi)) ∧ Hid (TabTo t k) ∧ Below w.heap.size w wr) (fun _ i _ => tn - (intOf i).toNat)
  case atStart => exact ⟨0, -1, Nat.zero_le _, rfl, rfl, Lib.hid (.inl ⟨rfl, rfl⟩), Lib.hid (TabTo.zero t), Below.refl _ _⟩
  case round =>
    obtain ⟨k, la, hk, rfl, rfl, HLA, HT, hb⟩ := hrel
    have HB := Lib.hid hb
    clear hb
    by_cases hlt : k < tn
    · have hkT : k < t.length := by have := HL.out; omega
      obtain ⟨b, of, rfl, hce⟩ := (HR.out.below HB.out).elem Rg.enc_len (by omega) (rg_eq hkT)
      obtain ⟨⟨lo, hi, cl⟩, hseq⟩ : ∃ m, rg t k = m := ⟨_, rfl⟩
      rw [hseq] at hce
      have d0 := hce 0 _ rfl
      have d1 := hce 1 _ rfl
      have d2 := hce 2 _ rfl
      rw [Nat.add_zero] at d0
      simp only at d0 d1 d2
      have HRK := Lib.hid hseq
      have gk : (k : Int) < (tn : Int) := by omega
      clear hce hseq
      by_cases r0 : lo ≤ la
      · have g0 : decide (lo ≤ la) = true := by simpa using r0
        have HF : Hid (false = true ↔ MayTab t) := Lib.hid (by
          rcases HLA.out with ⟨e1, e2⟩ | ⟨e1, e2⟩
          · exact notTab_ok hkT (by rw [HRK.out]; unfold OkRg; simp only; omega)
          · exact notTab_rise e1 hkT (by rw [HRK.out]; simp only; omega))
        clear r0
        go_wp2_with (fail)
        go_quiet (fail)
        go_wp2_with (fail)
        go_ret
        exact ⟨⟨_, rfl, HF.out⟩, below_drewN HB.out _⟩
      have g0 : decide (lo ≤ la) = false := by simpa using r0
      by_cases r1 : hi < lo
      · have g1 : decide (hi < lo) = true := by simpa using r1
        have HF := Lib.hid (notTab_ok hkT (by rw [HRK.out]; unfold OkRg; simp only; omega))
        clear r0 r1
        go_wp2_with (fail)
        go_quiet (fail)
        go_wp2_with (fail)
        go_ret
        exact ⟨⟨_, rfl, HF.out⟩, below_drewN HB.out _⟩
      have g1 : decide (hi < lo) = false := by simpa using r1
      by_cases r2 : 1114111 < hi
      · have g2 : decide (1114111 < hi) = true := by simpa using r2
        have HF := Lib.hid (notTab_ok hkT (by rw [HRK.out]; unfold OkRg; simp only; omega))
        clear r0 r1 r2
        go_wp2_with (fail)
        go_quiet (fail)
        go_wp2_with (fail)
        go_ret
        exact ⟨⟨_, rfl, HF.out⟩, below_drewN HB.out _⟩
      have g2 : decide (1114111 < hi) = false := by simpa using r2
      by_cases r3 : cl < 1
      · have g3 : decide (cl < 1) = true := by simpa using r3
        have HF := Lib.hid (notTab_ok hkT (by rw [HRK.out]; unfold OkRg; simp only; omega))
        clear r0 r1 r2 r3
        go_wp2_with (fail)
        go_quiet (fail)
        go_wp2_with (fail)
        go_ret
        exact ⟨⟨_, rfl, HF.out⟩, below_drewN HB.out _⟩
      have g3 : decide (cl < 1) = false := by simpa using r3
      by_cases r4 : 4 < cl
      · have g4 : decide (4 < cl) = true := by simpa using r4
        have HF := Lib.hid (notTab_ok hkT (by rw [HRK.out]; unfold OkRg; simp only; omega))
        clear r0 r1 r2 r3 r4
        go_wp2_with (fail)
        go_quiet (fail)
        go_wp2_with (fail)
        go_ret
        exact ⟨⟨_, rfl, HF.out⟩, below_drewN HB.out _⟩
      have g4 : decide (4 < cl) = false := by simpa using r4
      have HT2 : Hid (TabTo t (k + 1)) := Lib.hid (HT.out.next (by
        rw [HRK.out]; unfold OkRg; simp only
        rcases HLA.out with ⟨e1, e2⟩ | ⟨e1, e2⟩
        · omega
        · have h3 := (HT.out.ok (k - 1) (by omega)).1
          have h4 := (HT.out.ok (k - 1) (by omega)).2.1
          omega) (fun h => by
        rcases HLA.out with ⟨e1, e2⟩ | ⟨e1, e2⟩
        · omega
        · rw [← e2, HRK.out]; simp only; omega))
      have HLA2 : Hid ((k + 1 = 0 ∧ hi = -1) ∨ (0 < k + 1 ∧ hi = (rg t (k + 1 - 1)).hi)) := Lib.hid (.inr ⟨by omega, by rw [show k + 1 - 1 = k by omega, HRK.out]⟩)
      clear r0 r1 r2 r3 r4
      go_wp2_with (fail)
      go_quiet (fail)
      go_wp2_with (fail)
      go_roundw
      case rel => exact ⟨k + 1, hi, by omega, by go_num, rfl, HLA2, HT2, below_drewN HB.out _⟩
      case measure => simp [intOf]; omega
    · have HF : Hid (MayTab t) := Lib.hid (HT.out.all (by have := HL.out; omega) (by have := HL.out; omega))
      go_wp2_with (fail)
      go_ret
      exact ⟨⟨true, rfl, (fun _ => HF.out), (fun _ => rfl)⟩, HB.out⟩

end Go.Proofs.YtnadelmbkaoeeaaGreatDoor

/- Walks: the document's usual table. (Printed by gRTabs.py.) -/
namespace Go.Proofs.YtnadelmbkaoeeaaGreatDoor
open Go.RowKit
set_option linter.unusedVariables false

set_option maxHeartbeats 1000000 in
set_option maxRecDepth 100000 in
theorem rrow_calls (c : Int) {A : List Int} {ao : Option Addr} {n cap k : Nat} (w : World) (hA : SlI w ao n cap A) (hk : n = 2 * k) (hn : n ≤ 100) :
    Calls Tryz.prog 97 #[.int .i64 c, .slice ao n cap] w fun e w' => ∃ v, e = .returned v ∧ OwnF Rg.enc 3 72 w' w.heap.size v (rowRg c A k) ∧ Below w.heap.size w w' := by
  obtain ⟨i0, z0, hi, hz0, hz1, hz2, hz3⟩ := info_row infoRg
  have HA := Lib.hid hA
  have HK := Lib.hid hk
  obtain ⟨w1, hw1⟩ : ∃ w1, w.alloc (.cells #[] 72) = w1 := ⟨_, rfl⟩
  have HB1 : Hid (Below w.heap.size w w1) := Lib.hid (by rw [← hw1]; exact below_alloc w _)
  have HO1 : Hid (OwnF Rg.enc 3 72 w1 w.heap.size (.slice (some ⟨w.heap.size, 0, none⟩) 0 0) []) := Lib.hid (by rw [← hw1]; exact OwnF.made0 w)
  have HW1 := Lib.hid hw1
  clear hA hk hw1
  go_enter Tryz.func97, Tryz.ntmps97
  go_wp2_with (fail)
  rw [HW1.out]
  go_loopw [5, 6] (fun v i wr => ∃ j q : Nat, q ≤ n ∧ Hid (q = 2 * j) ∧ i = .int .i64 q ∧ OwnF Rg.enc 3 72 wr w.heap.size v (rowRg c A j) ∧ Below w.heap.size w wr) (fun _ i _ => n - (intOf i).toNat)
  case atStart => exact ⟨0, 0, by omega, Lib.hid rfl, rfl, by simpa [rowRg] using HO1.out, HB1.out⟩
  case round =>
    obtain ⟨j, q, hq, HQ, rfl, ho, hb⟩ := hrel
    have HO := Lib.hid ho
    have HB := Lib.hid hb
    clear ho hb
    by_cases hlt : q + 1 < n
    · obtain ⟨b, o, rfl, hc0⟩ := (HA.out.below HB.out).at_ (i := q) (by omega)
      obtain ⟨b', o', e', hc1⟩ := (HA.out.below HB.out).at_ (i := q + 1) (by omega)
      simp only [Option.some.injEq, Addr.mk.injEq, and_true] at e'
      obtain ⟨rfl, rfl⟩ := e'
      obtain ⟨x0, hx0⟩ : ∃ x0, ix A q = x0 := ⟨_, rfl⟩
      obtain ⟨x1, hx1⟩ : ∃ x1, ix A (q + 1) = x1 := ⟨_, rfl⟩
      rw [hx0] at hc0
      rw [hx1] at hc1
      have HX0 := Lib.hid hx0
      have HX1 := Lib.hid hx1
      clear hx0 hx1
      obtain ⟨q1, hq1⟩ : ∃ q1 : Nat, q + 1 = q1 := ⟨_, rfl⟩
      rw [hq1] at hc1 HX1
      have hwr : IntKind.i64.wrap ((q : Int) + 1) = (q1 : Int) := by rw [IntKind.wrap_i64]; omega
      have hlt2 : (q1 : Int) < (n : Int) := by omega
      have hq2 : (q : Int) < (n : Int) := by omega
      have HQ1 := Lib.hid hq1
      clear hq1
      go_wp2_with (fail)
      have hjl : 2 * j + 1 < 100 := by have := HQ.out; omega
      have HOa : Hid ((wr.drew.alloc (.cells #[.int .i64 x0, .int .i64 x1, .int .i64 c] 72)).ownsRow w.heap.size 72 3 u5 j (flat Rg.enc (rowRg c A j))) := Lib.hid (by
        have h := (HO.out.drewN 1).alloc (.cells #[.int .i64 x0, .int .i64 x1, .int .i64 c] 72)
        unfold OwnF at h
        rw [rowRg_len] at h
        exact h)
      have HBa : Hid (Below w.heap.size w (wr.drew.alloc (.cells #[.int .i64 x0, .int .i64 x1, .int .i64 c] 72))) := Lib.hid ((HB.out.drew).alloc HB.out.size _)
      have HLT := Lib.hid (World.ownsRow.lt HO.out)
      go_region_law (refine step_append_lies _ (by rfl) _ _ _ (by rfl) w.heap.size 72 i0 z0 3 24 Tryz.underlying27 hi hz0 hz1 hz2 hz3 (by omega) u5 j (flat Rg.enc (rowRg c A j)) (by rfl) HOa.out ⟨wr.heap.size, 0, none⟩ 1 1 [.int .i64 x0, .int .i64 x1, .int .i64 c] (by rfl) (by rfl) (World.news_of_block (cs := #[.int .i64 x0, .int .i64 x1, .int .i64 c]) (heap_alloc_new wr.drew _)) (by simp [Value.oneCell']) (by omega) (by unfold maxLen; omega) (by omega) HBa.out.size wr.heap.size.succ (by simp) ?_; intro gg cap2 w2 ho2 hg2 hat hb2)
      all_goals (
        have HO2 : Hid (OwnF Rg.enc 3 72 w2 w.heap.size (.slice (some ⟨gg, 0, none⟩) (j + 1) cap2) (rowRg c A j ++ [⟨x0, x1, c⟩])) := Lib.hid (by
          unfold OwnF
          rw [List.length_append, rowRg_len, flat_append]
          exact ho2)
        have HB2 : Hid (Below w.heap.size w w2) := Lib.hid (HBa.out.grown hg2 HBa.out.size fun q hq => (HLT.out q hq).1)
        clear ho2 hg2 hb2 hat
        go_wp2_with (fail)
        go_roundw
        · have h1 := HO2.out
          have e1 : x0 = ix A (2 * j) := by rw [← HX0.out, HQ.out]
          have e2 : x1 = ix A (2 * j + 1) := by rw [← HX1.out, ← HQ1.out, HQ.out]
          rw [e1, e2, rowRg_succ] at h1
          exact ⟨j + 1, q + 2, by omega, Lib.hid (by have := HQ.out; omega), by simp, h1, HB2.out⟩
        · simp [intOf]; omega)
    · have hlt2 : ¬ ((q : Int) + 1 < (n : Int)) := by omega
      have hlt3 : (n : Int) ≤ (q : Int) + 1 := by omega
      go_wp2_with (fail)
      go_ret
      have e : j = k := by have := HQ.out; have := HK.out; omega
      subst e
      exact ⟨_, rfl, HO.out, HB.out⟩

theorem SlI.lit (w : World) {cs : Array Value} {A : List Int} {n : Nat} (t : TypeId) (hcs : cs.toList = A.map (.int .i64)) (hn : A.length = n) (hm : n ≤ maxLen) : SlI (w.alloc (.cells cs t)) (some ⟨w.heap.size, 0, .none⟩) n n A := by
  have hsz : cs.size = n := by rw [← Array.length_toList, hcs, List.length_map, hn]
  refine ⟨by simp [hn], Nat.le_refl _, hm, by simp, fun j u hu => ⟨_, _, rfl, ?_⟩⟩
  have hb : (w.alloc (.cells cs t)).heap[w.heap.size]? = some (.cells cs t) := heap_alloc_new w _
  simp only [World.cell?, hb, Nat.zero_add]
  rw [← Array.getElem?_toList, hcs]
  exact hu

set_option maxHeartbeats 2000000 in
set_option maxRecDepth 100000 in
theorem rusual_calls (w : World) :
    Calls Tryz.prog 68 #[] w fun e w' => ∃ v, e = .returned v ∧ OwnF Rg.enc 3 72 w' w.heap.size v usU ∧ Below w.heap.size w w' := by
  obtain ⟨i0, z0, hi, hz0, hz1, hz2, hz3⟩ := info_row infoRg
  go_enter Tryz.func68, Tryz.ntmps68
  obtain ⟨wa, hwa⟩ : ∃ wa, w.alloc (.cells (us1.map (Value.int .i64)).toArray 3) = wa := ⟨_, rfl⟩
  have HA1 : Hid (SlI wa (some ⟨w.heap.size, 0, none⟩) 60 60 us1) := Lib.hid (by rw [← hwa]; exact SlI.lit w _ (by simp) rfl (by unfold maxLen; omega))
  have HBA : Hid (Below w.heap.size w wa) := Lib.hid (by rw [← hwa]; exact below_alloc w _)
  have HWA := Lib.hid hwa
  clear hwa
  go_wp2_with (fail)
  refine Calls.mono (R := _) (by
    have h := rrow_calls 1 wa HA1.out (k := 30) rfl (by omega)
    rw [← HWA.out] at h
    exact h) ?_
  rintro e w1 ⟨v1, rfl, ho1, hb1⟩
  rw [HWA.out] at ho1 hb1
  have HO1 := Lib.hid (OwnF.mono ho1 HBA.out.size)
  have HB1 := Lib.hid (HBA.out.trans (hb1.mono HBA.out.size))
  clear ho1 hb1
  obtain ⟨wa2, hwa2⟩ : ∃ wa2, w1.alloc (.cells (us2.map (Value.int .i64)).toArray 3) = wa2 := ⟨_, rfl⟩
  have HA2 : Hid (SlI wa2 (some ⟨w1.heap.size, 0, none⟩) 16 16 us2) := Lib.hid (by rw [← hwa2]; exact SlI.lit w1 _ (by simp) rfl (by unfold maxLen; omega))
  have HBA2 : Hid (Below w1.heap.size w1 wa2) := Lib.hid (by rw [← hwa2]; exact below_alloc w1 _)
  have HWA2 := Lib.hid hwa2
  clear hwa2
  go_wp2_with (fail)
  refine Calls.mono (R := _) (by
    have h := rrow_calls 2 wa2 HA2.out (k := 8) rfl (by omega)
    rw [← HWA2.out] at h
    exact h) ?_
  rintro e wb2 ⟨vb2, rfl, hob2, hbb2⟩
  rw [HWA2.out] at hob2 hbb2
  obtain ⟨ra2, rc2, rfl, hsr2⟩ := hob2.sl
  rw [rowRg_len] at hsr2 ⊢
  have HS2 := Lib.hid hsr2
  have HBB2 := Lib.hid (HB1.out.trans ((HBA2.out.trans (hbb2.mono HBA2.out.size)).mono HB1.out.size))
  have HOO2 := Lib.hid (OwnF.below (OwnF.below HO1.out HBA2.out) hbb2)
  clear hob2 hbb2 hsr2
  go_wp2_with (at_builtin; go_loud (refine wpList_flat_app rfl _ _ 27 rfl i0 z0 24 Tryz.underlying27 hi hz0 hz1 hz2 hz3 Rg.enc_len (by omega) Rg.enc_one rfl HOO2.out rfl HS2.out (by simp only [rowRg_len]; unfold maxLen; omega) (by simp only [rowRg_len]; omega) HBB2.out.size ?_))
  intro v2 w2 ho2 hg2 hb2
  have HO2 := Lib.hid ho2
  have HB2 := Lib.hid (HBB2.out.trans hb2)
  clear ho2 hg2 hb2
  obtain ⟨wa3, hwa3⟩ : ∃ wa3, w2.alloc (.cells (us4.map (Value.int .i64)).toArray 3) = wa3 := ⟨_, rfl⟩
  have HA3 : Hid (SlI wa3 (some ⟨w2.heap.size, 0, none⟩) 4 4 us4) := Lib.hid (by rw [← hwa3]; exact SlI.lit w2 _ (by simp) rfl (by unfold maxLen; omega))
  have HBA3 : Hid (Below w2.heap.size w2 wa3) := Lib.hid (by rw [← hwa3]; exact below_alloc w2 _)
  have HWA3 := Lib.hid hwa3
  clear hwa3
  go_wp2_with (fail)
  refine Calls.mono (R := _) (by
    have h := rrow_calls 4 wa3 HA3.out (k := 2) rfl (by omega)
    rw [← HWA3.out] at h
    exact h) ?_
  rintro e wb3 ⟨vb3, rfl, hob3, hbb3⟩
  rw [HWA3.out] at hob3 hbb3
  obtain ⟨ra3, rc3, rfl, hsr3⟩ := hob3.sl
  rw [rowRg_len] at hsr3 ⊢
  have HS3 := Lib.hid hsr3
  have HBB3 := Lib.hid (HB2.out.trans ((HBA3.out.trans (hbb3.mono HBA3.out.size)).mono HB2.out.size))
  have HOO3 := Lib.hid (OwnF.below (OwnF.below HO2.out HBA3.out) hbb3)
  clear hob3 hbb3 hsr3
  go_wp2_with (at_builtin; go_loud (refine wpList_flat_app rfl _ _ 27 rfl i0 z0 24 Tryz.underlying27 hi hz0 hz1 hz2 hz3 Rg.enc_len (by omega) Rg.enc_one rfl HOO3.out rfl HS3.out (by simp only [List.length_append, rowRg_len]; unfold maxLen; omega) (by simp only [List.length_append, rowRg_len]; omega) HBB3.out.size ?_))
  intro v3 w3 ho3 hg3 hb3
  have HO3 := Lib.hid ho3
  have HB3 := Lib.hid (HBB3.out.trans hb3)
  clear ho3 hg3 hb3
  obtain ⟨wa4, hwa4⟩ : ∃ wa4, w3.alloc (.cells (us3.map (Value.int .i64)).toArray 3) = wa4 := ⟨_, rfl⟩
  have HA4 : Hid (SlI wa4 (some ⟨w3.heap.size, 0, none⟩) 22 22 us3) := Lib.hid (by rw [← hwa4]; exact SlI.lit w3 _ (by simp) rfl (by unfold maxLen; omega))
  have HBA4 : Hid (Below w3.heap.size w3 wa4) := Lib.hid (by rw [← hwa4]; exact below_alloc w3 _)
  have HWA4 := Lib.hid hwa4
  clear hwa4
  go_wp2_with (fail)
  refine Calls.mono (R := _) (by
    have h := rrow_calls 3 wa4 HA4.out (k := 11) rfl (by omega)
    rw [← HWA4.out] at h
    exact h) ?_
  rintro e wb4 ⟨vb4, rfl, hob4, hbb4⟩
  rw [HWA4.out] at hob4 hbb4
  obtain ⟨ra4, rc4, rfl, hsr4⟩ := hob4.sl
  rw [rowRg_len] at hsr4 ⊢
  have HS4 := Lib.hid hsr4
  have HBB4 := Lib.hid (HB3.out.trans ((HBA4.out.trans (hbb4.mono HBA4.out.size)).mono HB3.out.size))
  have HOO4 := Lib.hid (OwnF.below (OwnF.below HO3.out HBA4.out) hbb4)
  clear hob4 hbb4 hsr4
  go_wp2_with (at_builtin; go_loud (refine wpList_flat_app rfl _ _ 27 rfl i0 z0 24 Tryz.underlying27 hi hz0 hz1 hz2 hz3 Rg.enc_len (by omega) Rg.enc_one rfl HOO4.out rfl HS4.out (by simp only [List.length_append, rowRg_len]; unfold maxLen; omega) (by simp only [List.length_append, rowRg_len]; omega) HBB4.out.size ?_))
  intro v4 w4 ho4 hg4 hb4
  have HO4 := Lib.hid ho4
  have HB4 := Lib.hid (HBB4.out.trans hb4)
  clear ho4 hg4 hb4
  go_wp2_with (fail)
  go_ret
  exact ⟨_, rfl, HO4.out, HB4.out⟩

end Go.Proofs.YtnadelmbkaoeeaaGreatDoor

/- Walk: may names be, by the document? (Printed by gNamesR.py.) -/
namespace Go.Proofs.YtnadelmbkaoeeaaGreatDoor
open Go.RowKit
set_option linter.unusedVariables false

theorem rname_q (s : ByteArray) (hs : s.size ≤ maxLen) (b : Bool) (hb : b = true ↔ MayName s) {w : World} (m : Nat) :
    Calls Tryz.prog 67 #[.string s] (w.drewN m) fun e w' => e = .returned (.bool b) ∧ w' = w.drewN m :=
  (rmayName_calls s hs (w.drewN m)).mono fun e w' ⟨⟨b', he, hb'⟩, hw⟩ => ⟨by rw [he, bool_eq hb' hb], hw.symm⟩

set_option maxHeartbeats 2000000 in
theorem rmayNames_calls {N : List ByteArray} {no : Option Addr} {nn nc : Nat} (w : World) (hN : SlS w no nn nc N) (hsz : ∀ s ∈ N, s.size ≤ maxLen) :
    Calls Tryz.prog 40 #[.slice no nn nc] w (NamesPost N w) := by
  have hm := Nat.le_trans (Sl.le hN) (Sl.max hN)
  unfold maxLen at hm
  have HL := Lib.hid hN.count
  have HN := Lib.hid hN
  have HSZ := Lib.hid hsz
  clear hN hsz
  go_enter Tryz.func40, Tryz.ntmps40
  go_wp2_with (fail)
  go_loopw [6] (fun i wr => ∃ k : Nat, k ≤ nn ∧ i = .int .i64 k ∧ Hid (NamesTo N k) ∧ Below w.heap.size w wr) (fun i _ => nn - (intOf i).toNat)
  case atStart => exact ⟨0, Nat.zero_le _, rfl, Lib.hid (NamesTo.zero N), Below.refl _ _⟩
  case round =>
    obtain ⟨k, hk, rfl, HT, hb⟩ := hrel
    have HB := Lib.hid hb
    clear hb
    by_cases hlt : k < nn
    · have hkN : k < N.length := by have := HL.out; omega
      obtain ⟨b, o, rfl, hc⟩ := SlS.cell (Sl.below HN.out HB.out) (tk_eq hkN)
      have HS1 := Lib.hid (HSZ.out _ (tk_mem hkN))
      obtain ⟨s, hs⟩ : ∃ s, tk N k = s := ⟨_, rfl⟩
      rw [hs] at hc HS1
      have HSE := Lib.hid hs
      have gk : (k : Int) < (nn : Int) := by omega
      clear hs
      by_cases hnm : MayName s
      · have HM := Lib.hid hnm
        have HQ := Lib.hid (fun (w : World) (m : Nat) => rname_q s HS1.out true ⟨fun _ => HM.out, fun _ => rfl⟩ (w := w) m)
        clear hnm
        by_cases hk0 : k = 0
        · have HT2 := Lib.hid (HT.out.next (by rw [HSE.out]; exact HM.out) (fun h => by omega))
          have q0 : decide ((0 : Int) < (k : Int)) = false := by simp; omega
          have q1 : decide (0 < k) = false := by simp; omega
          clear hk0
          go_wp2_with (fail)
          go_quiet ((go_at_call 67; exact Calls.quiet_of_same (HQ.out _ _)))
          go_wp2_with (fail)
          go_roundw
          case rel => exact ⟨k + 1, by omega, by go_num, HT2, below_drewN HB.out _⟩
          case measure => simp [intOf]; omega
        obtain ⟨q, rfl⟩ : ∃ q, k = q + 1 := ⟨k - 1, by omega⟩
        obtain ⟨b', o', hao, hp⟩ := SlS.cell (Sl.below HN.out HB.out) (tk_eq (T := N) (i := q) (by omega))
        simp only [Option.some.injEq, Addr.mk.injEq, and_true] at hao
        obtain ⟨rfl, rfl⟩ := hao
        obtain ⟨p, hpq⟩ : ∃ p, tk N q = p := ⟨_, rfl⟩
        rw [hpq] at hp
        have HPE := Lib.hid hpq
        have q0 : decide ((0 : Int) < ((q + 1 : Nat) : Int)) = true := by simp
        have q1 : decide (0 < q + 1) = true := by simp
        have q2 : IntKind.i64.wrap (((q + 1 : Nat) : Int) - 1) = (q : Int) := by rw [IntKind.wrap_i64]; omega
        have q3 : ((q + 1 : Nat) : Int) - 1 = (q : Int) := by omega
        have q4 : (q : Int) < (nn : Int) := by omega
        have q5 : ((q : Int) + 1 - 1).toNat = q := by omega
        have q6 : (q : Int) + 1 - 1 = (q : Int) := by omega
        clear hpq hk0
        cases hbl : Op.bytesLess p.toList s.toList with
        | false =>
          have HF := Lib.hid (notNames_rise (N := N) (k := q + 1) (by omega) hkN (by rw [HSE.out, show q + 1 - 1 = q by omega, HPE.out]; exact hbl))
          go_wp2_with (fail)
          go_quiet ((go_at_call 67; exact Calls.quiet_of_same (HQ.out _ _)))
          go_wp2_with (fail)
          go_ret
          exact ⟨⟨_, rfl, HF.out⟩, below_drewN HB.out _⟩
        | true =>
          have HT2 := Lib.hid (HT.out.next (by rw [HSE.out]; exact HM.out) (fun _ => by rw [HSE.out, show q + 1 - 1 = q by omega, HPE.out]; exact hbl))
          go_wp2_with (fail)
          go_quiet ((go_at_call 67; exact Calls.quiet_of_same (HQ.out _ _)))
          go_wp2_with (fail)
          go_roundw
          case rel => exact ⟨q + 1 + 1, by omega, by go_num, HT2, below_drewN HB.out _⟩
          case measure => simp [intOf]; omega
      · have HF := Lib.hid (notNames_name hkN (by rw [HSE.out]; exact hnm))
        have HQ := Lib.hid (fun (w : World) (m : Nat) => rname_q s HS1.out false ⟨(fun h => by cases h), (fun h => absurd h hnm)⟩ (w := w) m)
        clear hnm
        go_wp2_with (fail)
        go_quiet ((go_at_call 67; exact Calls.quiet_of_same (HQ.out _ _)))
        go_wp2_with (fail)
        go_ret
        exact ⟨⟨_, rfl, HF.out⟩, below_drewN HB.out _⟩
    · by_cases h2 : (nn : Int) ≤ 16
      · have HF : Hid (MayNames N) := Lib.hid (HT.out.all (by have := HL.out; omega) (by have := HL.out; omega))
        have h2' : nn ≤ 16 := by omega
        go_wp2_with (fail)
        go_ret
        exact ⟨⟨_, rfl, (fun _ => HF.out), (fun _ => by simp <;> omega)⟩, HB.out⟩
      · have HF : Hid (¬ MayNames N) := Lib.hid (fun h => by have := h.1; have := HL.out; omega)
        have h2' : ¬ nn ≤ 16 := by omega
        go_wp2_with (fail)
        go_ret
        exact ⟨⟨false, by simp <;> omega, (fun h => by cases h), (fun h => absurd h HF.out)⟩, HB.out⟩

end Go.Proofs.YtnadelmbkaoeeaaGreatDoor

/- Walk: has a vocabulary more than is gone through? (The second half of what gMay.py prints.) -/
namespace Go.Proofs.YtnadelmbkaoeeaaGreatDoor
open Go.RowKit
set_option linter.unusedVariables false

/-- Has a vocabulary more than is gone through? -/
def GreatV (V : Vc) : Prop := 400 < V.tokens.length ∨ 300 < V.merges.length ∨ 20 < V.specials.length ∨ (∃ s ∈ V.tokens, 80 < s.size) ∨ ∃ s ∈ V.specials, 40 < s.name.size
def GreatPost (V : Vc) (w : World) (e : Ending) (w' : World) : Prop := (∃ b, e = .returned (.bool b) ∧ (b = true ↔ GreatV V)) ∧ Below w.heap.size w w'

set_option maxHeartbeats 2000000 in
theorem greatV_calls {V : Vc} {dd : Vd} (w : World) (hV : VocR w dd V) (hok : (∀ s ∈ V.tokens, s.size ≤ maxLen) ∧ Sized V.specials) :
    Calls Tryz.prog 27 #[dd.val] w (GreatPost V w) := by
  have hcs := hV.spc.count Sp.enc_len (by omega)
  have hcm := hV.mrg.count Mg.enc_len (by omega)
  have hct := hV.tok.count
  have hm1 := Nat.le_trans (Sl.le hV.tok) (Sl.max hV.tok)
  have hm2 := Nat.le_trans hV.mrg.le hV.mrg.max
  have hm3 := Nat.le_trans hV.spc.le hV.spc.max
  obtain ⟨ta, tn, tc, ma, mn, mc, sa, sn, sc⟩ := dd
  simp only at hcs hcm hct hm1 hm2 hm3 ⊢
  unfold maxLen at hm1 hm2 hm3
  obtain ⟨w0, hw0⟩ : ∃ w0, w.alloc (.cells #[.slice ta tn tc, .slice ma mn mc, .slice sa sn sc] 26) = w0 := ⟨_, rfl⟩
  have hb0 : Below w.heap.size w w0 := hw0 ▸ below_alloc w _
  have hx0 : w0.heap[w.heap.size]? = some (.cells #[.slice ta tn tc, .slice ma mn mc, .slice sa sn sc] 26) := by rw [← hw0]; exact heap_alloc_new w _
  obtain ⟨c0, c1, c2⟩ := box3v hx0
  have HV := Lib.hid (hV.below hb0)
  have HB0 := Lib.hid hb0
  have HOK := Lib.hid hok
  have HW0 := Lib.hid hw0
  have HCS := Lib.hid hcs
  have HCM := Lib.hid hcm
  have HCT := Lib.hid hct
  clear hV hok hb0 hx0 hw0 hcs hcm hct
  by_cases h1 : (400 : Int) < tn
  · have HF : Hid (true = true ↔ GreatV V) := Lib.hid ⟨fun _ => .inl (by rw [HCT.out]; omega), fun _ => rfl⟩
    go_enter Tryz.func27, Tryz.ntmps27
    go_wp2_with (fail)
    go_ret
    exact ⟨⟨_, rfl, by simpa using HF.out⟩, by rw [HW0.out]; exact HB0.out⟩
  by_cases h2 : (300 : Int) < mn
  · have HF : Hid (true = true ↔ GreatV V) := Lib.hid ⟨fun _ => .inr (.inl (by rw [HCM.out]; omega)), fun _ => rfl⟩
    go_enter Tryz.func27, Tryz.ntmps27
    go_wp2_with (fail)
    go_ret
    exact ⟨⟨_, rfl, by simpa using HF.out⟩, by rw [HW0.out]; exact HB0.out⟩
  by_cases h3 : (20 : Int) < sn
  · have HF : Hid (true = true ↔ GreatV V) := Lib.hid ⟨fun _ => .inr (.inr (.inl (by rw [HCS.out]; omega))), fun _ => rfl⟩
    go_enter Tryz.func27, Tryz.ntmps27
    go_wp2_with (fail)
    go_ret
    exact ⟨⟨_, rfl, by simpa using HF.out⟩, by rw [HW0.out]; exact HB0.out⟩
  go_enter Tryz.func27, Tryz.ntmps27
  go_wp2_with (fail)
  rw [HW0.out]
  go_loop [3, 24] (fun _ i => ∃ k : Nat, k ≤ tn ∧ i = .int .i64 k ∧ Hid (∀ j, j < k → ¬ 80 < (tk V.tokens j).size)) (fun _ i => tn - (intOf i).toNat)
  case atStart => exact ⟨0, Nat.zero_le _, rfl, Lib.hid (fun j h => by omega)⟩
  case round =>
    obtain ⟨k, hk, rfl, HK⟩ := hrel
    by_cases hlt : k < tn
    · have hkT : k < V.tokens.length := by have := HCT.out; omega
      obtain ⟨b, o, hao, hc⟩ := SlS.cell HV.out.tok (tk_eq hkT)
      simp only at hao
      subst hao
      have hks := HOK.out.1 _ (tk_mem hkT)
      unfold maxLen at hks
      by_cases h80 : (80 : Int) < (tk V.tokens k).size
      · have HF : Hid (GreatV V) := Lib.hid (.inr (.inr (.inr (.inl ⟨_, tk_mem hkT, by omega⟩))))
        go_wp2_with (fail)
        go_ret
        exact ⟨⟨_, rfl, (fun _ => HF.out), (fun _ => rfl)⟩, HB0.out⟩
      · have HK2 : Hid (∀ j, j < k + 1 → ¬ 80 < (tk V.tokens j).size) := Lib.hid (fun j hj => by
          by_cases e : j = k
          · subst e; omega
          · exact HK.out j (by omega))
        go_wp2_with (fail)
        go_round
        case rel => exact ⟨k + 1, by omega, by go_num, HK2⟩
        case measure => simp [intOf]; omega
    · have HKA : Hid (∀ s ∈ V.tokens, ¬ 80 < s.size) := Lib.hid (fun s hs => by
        obtain ⟨j, hj, rfl⟩ := mem_tk hs
        exact HK.out j (by have := HCT.out; omega))
      go_wp2_with (fail)
      go_loop [4, 38] (fun _ i => ∃ q : Nat, q ≤ sn ∧ i = .int .i64 q ∧ Hid (∀ j, j < q → ¬ 40 < (sp V.specials j).name.size)) (fun _ i => sn - (intOf i).toNat)
      case atStart => exact ⟨0, Nat.zero_le _, rfl, Lib.hid (fun j h => by omega)⟩
      case round =>
        obtain ⟨q, hq, rfl, HQ⟩ := hrel
        by_cases hltq : q < sn
        · have hqS : q < V.specials.length := by have := HCS.out; omega
          obtain ⟨b, o, hao, hce⟩ := HV.out.spc.elem Sp.enc_len (by omega) (sp_eq hqS)
          simp only at hao
          subst hao
          have d0 := hce 0 _ rfl
          rw [Nat.add_zero] at d0
          have hks := HOK.out.2 _ (List.mem_of_getElem? (sp_eq hqS))
          unfold maxLen at hks
          clear hce
          by_cases h40 : (40 : Int) < (sp V.specials q).name.size
          · have HF : Hid (GreatV V) := Lib.hid (.inr (.inr (.inr (.inr ⟨_, List.mem_of_getElem? (sp_eq hqS), by omega⟩))))
            go_wp2_with (fail)
            go_ret
            exact ⟨⟨_, rfl, (fun _ => HF.out), (fun _ => rfl)⟩, HB0.out⟩
          · have HQ2 : Hid (∀ j, j < q + 1 → ¬ 40 < (sp V.specials j).name.size) := Lib.hid (fun j hj => by
              by_cases e : j = q
              · subst e; omega
              · exact HQ.out j (by omega))
            go_wp2_with (fail)
            go_round
            case rel => exact ⟨q + 1, by omega, by go_num, HQ2⟩
            case measure => simp [intOf]; omega
        · have HF : Hid (¬ GreatV V) := Lib.hid (by
            rintro (h | h | h | ⟨s, hs, h⟩ | ⟨s, hs, h⟩)
            · have := HCT.out; omega
            · have := HCM.out; omega
            · have := HCS.out; omega
            · exact HKA.out s hs h
            · obtain ⟨j, hj, rfl⟩ := List.getElem_of_mem hs
              rw [sp_get hj] at h
              exact HQ.out j (by have := HCS.out; omega) h)
          go_wp2_with (fail)
          go_ret
          exact ⟨⟨_, rfl, (fun h => by cases h), (fun h => absurd h HF.out)⟩, HB0.out⟩

end Go.Proofs.YtnadelmbkaoeeaaGreatDoor

/- Walks: the document's usual table, rising; what is more than is gone through; the document's coder. (Printed by gTabl.py.) -/
namespace Go.Proofs.YtnadelmbkaoeeaaGreatDoor
open Go.RowKit
set_option linter.unusedVariables false

theorem hlenU : usU.length = 51 := by decide
theorem insTo_all : insTo usU 51 = usR := by
  have : (insTo usU 51).map (fun r => (r.lo, r.hi, r.cls)) = usR.map (fun r => (r.lo, r.hi, r.cls)) := by decide +kernel
  exact (List.map_inj_right (f := fun r : Rg => (r.lo, r.hi, r.cls)) (fun a b h => by cases a; cases b; simp only [Prod.mk.injEq] at h; obtain ⟨rfl, rfl, rfl⟩ := h; rfl)).1 this

set_option maxHeartbeats 2000000 in
set_option maxRecDepth 100000 in
theorem table_calls (w : World) :
    Calls Tryz.prog 42 #[] w fun e w' => ∃ v, e = .returned v ∧ OwnF Rg.enc 3 72 w' w.heap.size v usR ∧ Below w.heap.size w w' := by
  obtain ⟨i0, z0, hi, hz0, hz1, hz2, hz3⟩ := info_row infoRg
  have hus := rusual_calls w
  go_enter Tryz.func42, Tryz.ntmps42
  go_wp2_with (fail)
  refine hus.mono ?_
  rintro e w1 ⟨v, rfl, ho, hb⟩
  obtain ⟨uo, uc, rfl, hs⟩ := ho.sl
  rw [hlenU] at hs ⊢
  obtain ⟨w0, hw0⟩ : ∃ w0, w1.alloc (.cells #[] 72) = w0 := ⟨_, rfl⟩
  have HU : Hid (SlF 3 w0 uo 51 uc (flat Rg.enc usU)) := Lib.hid (by rw [← hw0]; exact hs.alloc _)
  have HB0 : Hid (Below w.heap.size w w0) := Lib.hid (by rw [← hw0]; exact hb.alloc hb.size _)
  have HOut : Hid (OwnF Rg.enc 3 72 w0 w.heap.size (.slice (some ⟨w1.heap.size, 0, none⟩) 0 0) []) := Lib.hid (by rw [← hw0]; exact OwnF.mono (OwnF.made0 w1) hb.size)
  have HW0 := Lib.hid hw0
  clear hus ho hb hs hw0
  go_wp2_with (fail)
  rw [HW0.out]
  go_loopw [2, 10] (fun v i wr => ∃ (k : Nat), k ≤ 51 ∧ i = .int .i64 k ∧ OwnF Rg.enc 3 72 wr w.heap.size v (insTo usU k) ∧ Below w0.heap.size w0 wr) (fun _ i _ => 51 - (intOf i).toNat)
  case atStart => exact ⟨0, Nat.zero_le _, rfl, HOut.out, Below.refl _ _⟩
  case round =>
    obtain ⟨k5, hk5, rfl, ho5, hb5⟩ := hrel
    have HB5 := Lib.hid hb5
    obtain ⟨S', hS'⟩ : ∃ S', insTo usU k5 = S' := ⟨_, rfl⟩
    rw [hS'] at ho5
    have HS' := Lib.hid hS'.symm
    have HSL' : Hid (S'.length = k5) := Lib.hid (by rw [← hS']; exact insTo_len _ (by rw [hlenU]; omega))
    obtain ⟨vo, vc, rfl, hvs⟩ := ho5.sl
    rw [HSL'.out] at hvs
    have HVS := Lib.hid hvs
    have HO5 := Lib.hid ho5
    rw [HSL'.out] at HO5 ⊢
    clear hb5 hvs ho5 hS'
    by_cases hlt5 : k5 < 51
    · obtain ⟨b, of, rfl, hce⟩ := (HU.out.below HB5.out).elem Rg.enc_len (by omega) (rg_eq (t := usU) (i := k5) (by rw [hlenU]; exact hlt5))
      obtain ⟨⟨lo, hi', cl⟩, hseq⟩ : ∃ m, rg usU k5 = m := ⟨_, rfl⟩
      rw [hseq] at hce
      have d0 := hce 0 _ rfl
      have d1 := hce 1 _ rfl
      have d2 := hce 2 _ rfl
      rw [Nat.add_zero] at d0
      simp only at d0 d1 d2
      have HSK := Lib.hid hseq
      have gk : (k5 : Int) < 51 := by omega
      clear hce hseq
      obtain ⟨wi, rfl⟩ : ∃ wi : World, wi = wr := ⟨_, rfl⟩
      go_wp2_with (fail)
      go_loopw [4] (fun i wr => ∃ q nn : Nat, q ≤ k5 ∧ i = .int .i64 q ∧ Hid (∀ j, j < q → (rg S' j).lo < lo) ∧ wr = wi.drewN nn) (fun i _ => k5 - (intOf i).toNat)
      case atStart => exact ⟨0, 0, Nat.zero_le _, rfl, Lib.hid (fun j h => by omega), rfl⟩
      case round =>
        obtain ⟨q, nn, hq, rfl, HQ, rfl⟩ := hrel
        by_cases hltq : q < k5
        · obtain ⟨b', of', rfl, hce⟩ := HVS.out.elem Rg.enc_len (by omega) (rg_eq (t := S') (i := q) (by rw [HSL'.out]; exact hltq))
          obtain ⟨⟨plo, phi, pcl⟩, hseq⟩ : ∃ m, rg S' q = m := ⟨_, rfl⟩
          rw [hseq] at hce
          have p0 := hce 0 _ rfl
          rw [Nat.add_zero] at p0
          simp only at p0
          have HSQ := Lib.hid hseq
          have gq : decide ((q : Int) < (k5 : Int)) = true := by simp; omega
          have gq2 : decide (q < k5) = true := by simpa using hltq
          clear hce hseq
          cases hbl : decide (plo < lo) with
          | true =>
            have HQ2 : Hid (∀ j, j < q + 1 → (rg S' j).lo < lo) := Lib.hid (fun j hj => by
              by_cases e : j = q
              · subst e; rw [HSQ.out]; simpa using hbl
              · exact HQ.out j (by omega))
            go_wp2_with (fail)
            go_quiet (fail)
            go_wp2_with (fail)
            go_roundw
            case rel => exact ⟨q + 1, _, by omega, by go_num, HQ2, rfl⟩
            case measure => simp [intOf]; omega
          | false =>
            have HST : Hid (q = S'.length ∨ ¬ (rg S' q).lo < lo) := Lib.hid (.inr (by rw [HSQ.out]; simpa using hbl))
            have hpl : ¬ plo < lo := by simpa using hbl
            have hpl2 : lo ≤ plo := by omega
            go_wp2_with (fail)
            go_quiet (fail)
            clear hbl hpl hpl2 gq gq2 p0
            obtain ⟨wq, hwq⟩ : ∃ wq, (wi.drewN nn).drewN nq = wq := ⟨_, rfl⟩
            have HINS : Hid (S'.take q ++ ⟨lo, hi', cl⟩ :: S'.drop q = insTo usU (k5 + 1)) := Lib.hid (by
              rw [insTo_succ (by rw [hlenU]; omega), HSK.out, HS'.out]
              exact (insRg_at (by rw [← HS'.out, HSL'.out]; omega) (fun j hj => by rw [← HS'.out]; exact HQ.out j hj) (by rw [← HS'.out]; exact HST.out.imp_right (fun h => by simp only [] at h ⊢; omega))).symm)
            have HLTk : Hid ((S'.take q).length = q) := Lib.hid (by rw [List.length_take, HSL'.out]; omega)
            have HBQ : Hid (Below w0.heap.size w0 wq) := Lib.hid (by rw [← hwq]; exact below_drewN (below_drewN HB5.out _) _)
            have hqi : Below wi.heap.size wi wq := by rw [← hwq]; exact below_drewN (below_drewN (Below.refl _ _) _) _
            have HMa : Hid (SlF 3 (wq.alloc (.cells #[] 72)) (some ⟨b', of', none⟩) k5 vc (flat Rg.enc S')) := Lib.hid ((HVS.out.below hqi).alloc _)
            have HMq : Hid (SlF 3 wq (some ⟨b', of', none⟩) k5 vc (flat Rg.enc S')) := Lib.hid (HVS.out.below hqi)
            have HOa : Hid (OwnF Rg.enc 3 72 (wq.alloc (.cells #[] 72)) wq.heap.size (.slice (some ⟨wq.heap.size, 0, none⟩) 0 0) []) := Lib.hid (OwnF.made0 wq)
            have e0 := cell_below hqi _ _ d0
            have e1 := cell_below hqi _ _ d1
            have e2 := cell_below hqi _ _ d2
            rw [hwq]
            clear hwq hqi d0 d1 d2
            go_wp2_with (first
              | (refine wpList_flat_high (enc := Rg.enc) rfl _ _ _ rfl i0 Tryz.underlying27 hi Rg.enc_len rfl HMa.out rfl (k := q) rfl (by omega) ?_; intro hs1)
              | (at_builtin; go_loud (refine wpList_flat_app rfl _ _ 27 rfl i0 z0 24 Tryz.underlying27 hi hz0 hz1 hz2 hz3 Rg.enc_len (by omega) Rg.enc_one rfl HOa.out rfl hs1 (by unfold maxLen; simp only [List.length_nil]; omega) (by simp only [List.length_nil]; omega) (by simp) ?_)))
            intro v1 wb ho1 hg1' hb1
            have hb1' := (below_alloc wq (.cells #[] 72)).trans hb1
            have HB1' := Lib.hid hb1'
            have f0 := cell_below hb1' _ _ e0
            have f1 := cell_below hb1' _ _ e1
            have f2 := cell_below hb1' _ _ e2
            have HOb : Hid (OwnF Rg.enc 3 72 (wb.alloc (.cells #[.int .i64 lo, .int .i64 hi', .int .i64 cl] 72)) wq.heap.size v1 (S'.take q)) := Lib.hid (ho1.alloc _)
            have HSb : Hid (SlF 3 (wb.alloc (.cells #[.int .i64 lo, .int .i64 hi', .int .i64 cl] 72)) (some ⟨wb.heap.size, 0, none⟩) 1 1 (flat Rg.enc [⟨lo, hi', cl⟩])) := Lib.hid (SlF.one Rg.enc_len wb ⟨lo, hi', cl⟩ 72 (cs := #[.int .i64 lo, .int .i64 hi', .int .i64 cl]) rfl)
            have HSZ' : Hid (wq.heap.size ≤ wb.heap.size) := Lib.hid hb1'.size
            clear ho1 hg1' hb1 hb1' e0 e1 e2
            go_wp2_with (at_builtin; go_loud (refine wpList_flat_app rfl _ _ 27 rfl i0 z0 24 Tryz.underlying27 hi hz0 hz1 hz2 hz3 Rg.enc_len (by omega) Rg.enc_one rfl HOb.out rfl HSb.out (by have := HLTk.out; unfold maxLen; omega) (by have := HLTk.out; omega) (by have := HSZ'.out; simp; omega) ?_))
            intro v2 wc ho2 hg2 hb2
            have hb2' := (HB1'.out.alloc HB1'.out.size _).trans hb2
            have HB2' := Lib.hid hb2'
            have HMc : Hid (SlF 3 wc (some ⟨b', of', none⟩) k5 vc (flat Rg.enc S')) := Lib.hid (HMq.out.below hb2')
            have HOc := Lib.hid ho2
            have HSZ2 : Hid (wq.heap.size ≤ wc.heap.size) := Lib.hid hb2'.size
            clear ho2 hg2 hb2 hb2' f0 f1 f2
            go_wp2_with (first
              | (refine wpList_flat_low (enc := Rg.enc) rfl _ _ _ rfl i0 Tryz.underlying27 hi hz1 Rg.enc_len rfl HMc.out rfl (k := q) rfl (by omega) ?_; intro ao' hs3 hao3)
              | (at_builtin; go_loud (refine wpList_flat_app rfl _ _ 27 rfl i0 z0 24 Tryz.underlying27 hi hz0 hz1 hz2 hz3 Rg.enc_len (by omega) Rg.enc_one rfl HOc.out rfl hs3 (by have := HLTk.out; unfold maxLen; rw [List.length_append]; simp only [List.length_singleton]; omega) (by have := HLTk.out; rw [List.length_append]; simp only [List.length_singleton]; omega) HSZ2.out ?_)))
            intro v3 wd ho3 hg3 hb3
            have HO9 := Lib.hid (ho3.mono (Nat.le_trans HB0.out.size HBQ.out.size))
            rw [HINS.out] at HO9
            have HB9 := Lib.hid (HBQ.out.trans ((HB2'.out.trans hb3).mono HBQ.out.size))
            clear ho3 hg3 hb3
            go_wp2_with (fail)
            go_roundw
            case rel => exact ⟨k5 + 1, by omega, by go_num, HO9.out, HB9.out⟩
            case measure => simp [intOf]; omega
        · obtain rfl : q = k5 := by omega
          have HST : Hid (q = S'.length ∨ ¬ (rg S' q).lo < lo) := Lib.hid (.inl HSL'.out.symm)
          have gq : decide ((q : Int) < (q : Int)) = false := by simp
          have gq2 : decide (q < q) = false := by simp
          go_wp2_with (fail)
          go_quiet (fail)
          clear gq gq2
          obtain ⟨wq, hwq⟩ : ∃ wq, (wi.drewN nn).drewN nq = wq := ⟨_, rfl⟩
          have HINS : Hid (S'.take q ++ ⟨lo, hi', cl⟩ :: S'.drop q = insTo usU (q + 1)) := Lib.hid (by
            rw [insTo_succ (by rw [hlenU]; omega), HSK.out, HS'.out]
            exact (insRg_at (by rw [← HS'.out, HSL'.out]; omega) (fun j hj => by rw [← HS'.out]; exact HQ.out j hj) (by rw [← HS'.out]; exact HST.out.imp_right (fun h => by simp only [] at h ⊢; omega))).symm)
          have HLTk : Hid ((S'.take q).length = q) := Lib.hid (by rw [List.length_take, HSL'.out]; omega)
          have HBQ : Hid (Below w0.heap.size w0 wq) := Lib.hid (by rw [← hwq]; exact below_drewN (below_drewN HB5.out _) _)
          have hqi : Below wi.heap.size wi wq := by rw [← hwq]; exact below_drewN (below_drewN (Below.refl _ _) _) _
          have HMa : Hid (SlF 3 (wq.alloc (.cells #[] 72)) vo q vc (flat Rg.enc S')) := Lib.hid ((HVS.out.below hqi).alloc _)
          have HMq : Hid (SlF 3 wq vo q vc (flat Rg.enc S')) := Lib.hid (HVS.out.below hqi)
          have HOa : Hid (OwnF Rg.enc 3 72 (wq.alloc (.cells #[] 72)) wq.heap.size (.slice (some ⟨wq.heap.size, 0, none⟩) 0 0) []) := Lib.hid (OwnF.made0 wq)
          have e0 := cell_below hqi _ _ d0
          have e1 := cell_below hqi _ _ d1
          have e2 := cell_below hqi _ _ d2
          rw [hwq]
          clear hwq hqi d0 d1 d2
          go_wp2_with (first
            | (refine wpList_flat_high (enc := Rg.enc) rfl _ _ _ rfl i0 Tryz.underlying27 hi Rg.enc_len rfl HMa.out rfl (k := q) rfl (by omega) ?_; intro hs1)
            | (at_builtin; go_loud (refine wpList_flat_app rfl _ _ 27 rfl i0 z0 24 Tryz.underlying27 hi hz0 hz1 hz2 hz3 Rg.enc_len (by omega) Rg.enc_one rfl HOa.out rfl hs1 (by unfold maxLen; simp only [List.length_nil]; omega) (by simp only [List.length_nil]; omega) (by simp) ?_)))
          intro v1 wb ho1 hg1' hb1
          have hb1' := (below_alloc wq (.cells #[] 72)).trans hb1
          have HB1' := Lib.hid hb1'
          have f0 := cell_below hb1' _ _ e0
          have f1 := cell_below hb1' _ _ e1
          have f2 := cell_below hb1' _ _ e2
          have HOb : Hid (OwnF Rg.enc 3 72 (wb.alloc (.cells #[.int .i64 lo, .int .i64 hi', .int .i64 cl] 72)) wq.heap.size v1 (S'.take q)) := Lib.hid (ho1.alloc _)
          have HSb : Hid (SlF 3 (wb.alloc (.cells #[.int .i64 lo, .int .i64 hi', .int .i64 cl] 72)) (some ⟨wb.heap.size, 0, none⟩) 1 1 (flat Rg.enc [⟨lo, hi', cl⟩])) := Lib.hid (SlF.one Rg.enc_len wb ⟨lo, hi', cl⟩ 72 (cs := #[.int .i64 lo, .int .i64 hi', .int .i64 cl]) rfl)
          have HSZ' : Hid (wq.heap.size ≤ wb.heap.size) := Lib.hid hb1'.size
          clear ho1 hg1' hb1 hb1' e0 e1 e2
          go_wp2_with (at_builtin; go_loud (refine wpList_flat_app rfl _ _ 27 rfl i0 z0 24 Tryz.underlying27 hi hz0 hz1 hz2 hz3 Rg.enc_len (by omega) Rg.enc_one rfl HOb.out rfl HSb.out (by have := HLTk.out; unfold maxLen; omega) (by have := HLTk.out; omega) (by have := HSZ'.out; simp; omega) ?_))
          intro v2 wc ho2 hg2 hb2
          have hb2' := (HB1'.out.alloc HB1'.out.size _).trans hb2
          have HB2' := Lib.hid hb2'
          have HMc : Hid (SlF 3 wc vo q vc (flat Rg.enc S')) := Lib.hid (HMq.out.below hb2')
          have HOc := Lib.hid ho2
          have HSZ2 : Hid (wq.heap.size ≤ wc.heap.size) := Lib.hid hb2'.size
          clear ho2 hg2 hb2 hb2' f0 f1 f2
          go_wp2_with (first
            | (refine wpList_flat_low (enc := Rg.enc) rfl _ _ _ rfl i0 Tryz.underlying27 hi hz1 Rg.enc_len rfl HMc.out rfl (k := q) rfl (by omega) ?_; intro ao' hs3 hao3)
            | (at_builtin; go_loud (refine wpList_flat_app rfl _ _ 27 rfl i0 z0 24 Tryz.underlying27 hi hz0 hz1 hz2 hz3 Rg.enc_len (by omega) Rg.enc_one rfl HOc.out rfl hs3 (by have := HLTk.out; unfold maxLen; rw [List.length_append]; simp only [List.length_singleton]; omega) (by have := HLTk.out; rw [List.length_append]; simp only [List.length_singleton]; omega) HSZ2.out ?_)))
          intro v3 wd ho3 hg3 hb3
          have HO9 := Lib.hid (ho3.mono (Nat.le_trans HB0.out.size HBQ.out.size))
          rw [HINS.out] at HO9
          have HB9 := Lib.hid (HBQ.out.trans ((HB2'.out.trans hb3).mono HBQ.out.size))
          clear ho3 hg3 hb3
          go_wp2_with (fail)
          go_roundw
          case rel => exact ⟨q + 1, by omega, by go_num, HO9.out, HB9.out⟩
          case measure => simp [intOf]; omega
    · obtain rfl : k5 = 51 := by omega
      have HO9 : Hid (OwnF Rg.enc 3 72 wr w.heap.size (.slice vo 51 vc) usR) := Lib.hid (by
        have h := HO5.out
        rw [HS'.out, insTo_all] at h
        exact h)
      go_wp2_with (fail)
      go_ret
      exact ⟨_, rfl, HO9.out, HB0.out.trans (HB5.out.mono HB0.out.size)⟩

end Go.Proofs.YtnadelmbkaoeeaaGreatDoor

/- Walks: what is more than is gone through; the document's coder. (Printed by gKit16.py.) -/
namespace Go.Proofs.YtnadelmbkaoeeaaGreatDoor
open Go.RowKit
set_option linter.unusedVariables false

def GreatK (V : Vc) (N : List ByteArray) (T : List Rg) : Prop := GreatV V ∨ 20 < N.length ∨ 80 < T.length ∨ ∃ s ∈ N, 40 < s.size
def Great16Post (V : Vc) (N : List ByteArray) (T : List Rg) (w : World) (e : Ending) (w' : World) : Prop := (∃ b, e = .returned (.bool b) ∧ (b = true ↔ GreatK V N T)) ∧ Below w.heap.size w w'

set_option maxHeartbeats 1000000 in
theorem great16_calls {V : Vc} {dd : Vd} {N : List ByteArray} {T : List Rg} {no to_ : Option Addr} {nn nc tn tc : Nat} (w : World) (hV : VocR w dd V) (hok : (∀ s ∈ V.tokens, s.size ≤ maxLen) ∧ Sized V.specials) (hN : SlS w no nn nc N) (hNs : ∀ s ∈ N, s.size ≤ maxLen)
    (hT : SlF 3 w to_ tn tc (flat Rg.enc T)) : Calls Tryz.prog 8 #[dd.val, .slice no nn nc, .slice to_ tn tc] w (Great16Post V N T w) := by
  obtain ⟨ta, tn', tc', ma, mn, mc, sa, sn, sc⟩ := dd
  obtain ⟨w0, hw0⟩ : ∃ w0, w.alloc (.cells #[.slice ta tn' tc', .slice ma mn mc, .slice sa sn sc] 26) = w0 := ⟨_, rfl⟩
  have hb0 : Below w.heap.size w w0 := hw0 ▸ below_alloc w _
  have hx0 : w0.heap[w.heap.size]? = some (.cells #[.slice ta tn' tc', .slice ma mn mc, .slice sa sn sc] 26) := by rw [← hw0]; exact heap_alloc_new w _
  obtain ⟨c0, c1, c2⟩ := box3v hx0
  have hgr := greatV_calls (dd := ⟨ta, tn', tc', ma, mn, mc, sa, sn, sc⟩) w0 (hV.below hb0) hok
  have HN := Lib.hid (hN.below hb0)
  have HB0 := Lib.hid hb0
  have HNS := Lib.hid hNs
  have HNL := Lib.hid hN.count
  have HTL := Lib.hid (hT.count Rg.enc_len (by omega))
  have hm1 := Nat.le_trans (Sl.le hN) (Sl.max hN)
  have hm2 := Nat.le_trans hT.le hT.max
  unfold maxLen at hm1 hm2
  have HW0 := Lib.hid hw0
  clear hV hN hT hNs hb0 hx0 hw0 hok
  go_enter Tryz.func8, Tryz.ntmps8
  go_wp2_with (fail)
  rw [HW0.out]
  refine hgr.mono ?_
  rintro e w1 ⟨⟨b, rfl, hb⟩, hb1⟩
  have HB1 := Lib.hid (HB0.out.trans (hb1.mono HB0.out.size))
  have HG := Lib.hid hb
  have HN1 := Lib.hid (Sl.below HN.out hb1)
  clear hb hb1 hgr c0 c1 c2 HN
  cases b with
  | true =>
    have HF : Hid (GreatK V N T) := Lib.hid (.inl (HG.out.1 rfl))
    go_wp2_with (fail)
    go_ret
    exact ⟨⟨_, rfl, (fun _ => HF.out), (fun _ => rfl)⟩, HB1.out⟩
  | false =>
  by_cases h20 : (20 : Int) < nn
  · have HF : Hid (GreatK V N T) := Lib.hid (.inr (.inl (by rw [HNL.out]; omega)))
    go_wp2_with (fail)
    go_ret
    exact ⟨⟨_, rfl, (fun _ => HF.out), (fun _ => rfl)⟩, HB1.out⟩
  by_cases h80 : (80 : Int) < tn
  · have HF : Hid (GreatK V N T) := Lib.hid (.inr (.inr (.inl (by rw [HTL.out]; omega))))
    go_wp2_with (fail)
    go_ret
    exact ⟨⟨_, rfl, (fun _ => HF.out), (fun _ => rfl)⟩, HB1.out⟩
  go_wp2_with (fail)
  go_loop [7, 22] (fun _ i => ∃ k : Nat, k ≤ nn ∧ i = .int .i64 k ∧ Hid (∀ j, j < k → ¬ 40 < (tk N j).size)) (fun _ i => nn - (intOf i).toNat)
  case atStart => exact ⟨0, Nat.zero_le _, rfl, Lib.hid (fun j h => by omega)⟩
  case round =>
    obtain ⟨k, hk, rfl, HK⟩ := hrel
    by_cases hlt : k < nn
    · have hkT : k < N.length := by have := HNL.out; omega
      obtain ⟨b, o, hao, hc⟩ := SlS.cell HN1.out (tk_eq hkT)
      subst hao
      have hks := HNS.out _ (tk_mem hkT)
      unfold maxLen at hks
      by_cases h40 : (40 : Int) < (tk N k).size
      · have HF : Hid (GreatK V N T) := Lib.hid (.inr (.inr (.inr ⟨_, tk_mem hkT, by omega⟩)))
        go_wp2_with (fail)
        go_ret
        exact ⟨⟨_, rfl, (fun _ => HF.out), (fun _ => rfl)⟩, HB1.out⟩
      · have HK2 : Hid (∀ j, j < k + 1 → ¬ 40 < (tk N j).size) := Lib.hid (fun j hj => by
          by_cases e : j = k
          · subst e; omega
          · exact HK.out j (by omega))
        go_wp2_with (fail)
        go_round
        case rel => exact ⟨k + 1, by omega, by go_num, HK2⟩
        case measure => simp [intOf]; omega
    · have HF : Hid (¬ GreatK V N T) := Lib.hid (by
        rintro (h | h | h | ⟨s, hs, h⟩)
        · have := HG.out.2 h; cases this
        · have := HNL.out; omega
        · have := HTL.out; omega
        · obtain ⟨j, hj, rfl⟩ := mem_tk hs
          exact HK.out j (by have := HNL.out; omega) h)
      go_wp2_with (fail)
      go_ret
      exact ⟨⟨_, rfl, (fun h => by cases h), (fun h => absurd h HF.out)⟩, HB1.out⟩

def noC : Value := .agg #[.slice none 0 0, .slice none 0 0, .slice none 0 0, .slice none 0 0, .int .i64 0, .slice none 0 0]
def New16Post (dd : Vd) (no : Option Addr) (nn nc : Nat) (V : Vc) (N : List ByteArray) (kind : Int) (T : List Rg) (room : Int) (w : World) (e : Ending) (w' : World) : Prop :=
  ((¬ May V ∧ e = .returned (.tuple #[noC, .int .i64 2])) ∨ (May V ∧ ¬ OkKit N kind T room ∧ e = .returned (.tuple #[noC, .int .i64 1])) ∨
    (May V ∧ OkKit N kind T room ∧ ∃ to_ tn tc, e = .returned (.tuple #[.agg #[.slice dd.ta dd.tn dd.tc, .slice dd.ma dd.mn dd.mc, .slice dd.sa dd.sn dd.sc, .slice no nn nc, .int .i64 kind, .slice to_ tn tc], .int .i64 0]) ∧ SlF 3 w' to_ tn tc (flat Rg.enc (tabOf T)))) ∧ Below w.heap.size w w'
theorem box6 {w : World} {g : Nat} {a b c d e f : Value} {t : TypeId} (h : w.heap[g]? = some (.cells #[a, b, c, d, e, f] t)) :
    w.cell? ⟨g, 0, none⟩ = some a ∧ w.cell? ⟨g, 1, none⟩ = some b ∧ w.cell? ⟨g, 2, none⟩ = some c ∧ w.cell? ⟨g, 3, none⟩ = some d ∧ w.cell? ⟨g, 4, none⟩ = some e ∧ w.cell? ⟨g, 5, none⟩ = some f ∧ ∀ o, w.frozen? ⟨g, o, none⟩ = false := by
  simp [World.cell?, World.frozen?, h]

set_option maxHeartbeats 2000000 in
set_option maxRecDepth 100000 in
theorem rnew16_calls {V : Vc} {dd : Vd} {N : List ByteArray} {kind : Int} {T : List Rg} {room : Int} {no to_ : Option Addr} {nn nc tn tc : Nat} (w : World) (hV : VocR w dd V) (hok : VOk V) (hN : SlS w no nn nc N) (hNs : ∀ s ∈ N, s.size ≤ maxLen)
    (hT : SlF 3 w to_ tn tc (flat Rg.enc T)) : Calls Tryz.prog 11 #[dd.val, .slice no nn nc, .int .i64 kind, .slice to_ tn tc, .int .i64 room] w (New16Post dd no nn nc V N kind T room w) := by
  obtain ⟨ta, tn', tc', ma, mn, mc, sa, sn, sc⟩ := dd
  obtain ⟨w0, hw0⟩ : ∃ w0, (w.alloc (.cells #[.slice ta tn' tc', .slice ma mn mc, .slice sa sn sc] 26)).alloc (.cells #[.slice none 0 0, .slice none 0 0, .slice none 0 0, .slice none 0 0, .int .i64 0, .slice none 0 0] 37) = w0 := ⟨_, rfl⟩
  have hb0 : Below w.heap.size w w0 := hw0 ▸ (below_alloc w _).alloc (by simp) _
  have hx0 : w0.heap[w.heap.size]? = some (.cells #[.slice ta tn' tc', .slice ma mn mc, .slice sa sn sc] 26) := by rw [← hw0]; exact (Below.heap_alloc _ _ _ (by simp)).trans (heap_alloc_new w _)
  have hx1 : w0.heap[w.heap.size + 1]? = some (.cells #[.slice none 0 0, .slice none 0 0, .slice none 0 0, .slice none 0 0, .int .i64 0, .slice none 0 0] 37) := by
    rw [← hw0]
    have := heap_alloc_new (w.alloc (.cells #[.slice ta tn' tc', .slice ma mn mc, .slice sa sn sc] 26)) (.cells #[.slice none 0 0, .slice none 0 0, .slice none 0 0, .slice none 0 0, .int .i64 0, .slice none 0 0] 37)
    simpa using this
  have hsz1 : w.heap.size < w0.heap.size := by rw [← hw0]; simp; omega
  have hsz2 : w.heap.size + 1 < w0.heap.size := by rw [← hw0]; simp
  have HSZ1 := Lib.hid hsz1
  have HSZ2 := Lib.hid hsz2
  obtain ⟨c0, c1, c2⟩ := box3v hx0
  have hma := rmay_calls (dd := ⟨ta, tn', tc', ma, mn, mc, sa, sn, sc⟩) w0 (hV.below hb0) hok
  have HBC : Hid (w.heap.size ≤ w.heap.size + 1) := Lib.hid (by omega)
  have HN := Lib.hid (Sl.below hN hb0)
  have HT := Lib.hid (hT.below hb0)
  have HTW := Lib.hid hT
  have HB0 := Lib.hid hb0
  have HX0 := Lib.hid hx0
  have HX1 := Lib.hid hx1
  have HNS := Lib.hid hNs
  have HTL := Lib.hid (hT.count Rg.enc_len (by omega))
  have HW0 := Lib.hid hw0
  clear hV hN hT hNs hb0 hx0 hx1 hw0 hok hsz1 hsz2
  go_enter Tryz.func11, Tryz.ntmps11
  go_wp2_with (fail)
  rw [HW0.out]
  refine hma.mono ?_
  rintro e w1 ⟨⟨b, rfl, hb⟩, hb1⟩
  have HB1 := Lib.hid hb1
  have HM := Lib.hid hb
  clear hb hb1 hma c0 c1 c2
  cases b with
  | false =>
    have HF : Hid (¬ May V) := Lib.hid (fun h => no_of HM.out rfl h)
    obtain ⟨c0, c1, c2⟩ := box3v ((HB1.out.block w.heap.size HSZ1.out).trans HX0.out)
    obtain ⟨b0, b1, b2, b3, b4, b5, bf⟩ := box6 ((HB1.out.block (w.heap.size + 1) HSZ2.out).trans HX1.out)
    go_wp2_with (fail)
    refine bodyPost_ret (v := .tuple #[noC, .int .i64 2]) ?_ rfl ⟨.inl ⟨HF.out, rfl⟩, ?_⟩
    · simp [results, Tryz.results11, go_sem, b0, b1, b2, b3, b4, b5, noC]
    · exact ((((((HB0.out.trans ((HB1.out).mono HB0.out.size)).setCell HBC.out _).setCell HBC.out _).setCell HBC.out _).setCell HBC.out _).setCell HBC.out _).setCell HBC.out _
  | true =>
  have HM1 := Lib.hid (HM.out.1 rfl)
  have hmn := rmayNames_calls w1 (Sl.below HN.out HB1.out) HNS.out
  clear HM
  go_wp2_with (fail)
  refine hmn.mono ?_
  rintro e w2 ⟨⟨b, rfl, hb⟩, hb2⟩
  have HB2 := Lib.hid (HB1.out.trans (hb2.mono HB1.out.size))
  have HI1 := Lib.hid hb
  clear hb hb2 hmn
  cases b with
  | false =>
    have HF : Hid (¬ OkKit N kind T room) := Lib.hid (fun h => no_of HI1.out rfl h.1)
    obtain ⟨c0, c1, c2⟩ := box3v ((HB2.out.block w.heap.size HSZ1.out).trans HX0.out)
    obtain ⟨b0, b1, b2, b3, b4, b5, bf⟩ := box6 ((HB2.out.block (w.heap.size + 1) HSZ2.out).trans HX1.out)
    go_wp2_with (fail)
    refine bodyPost_ret (v := .tuple #[noC, .int .i64 1]) ?_ rfl ⟨.inr (.inl ⟨HM1.out, HF.out, rfl⟩), ?_⟩
    · simp [results, Tryz.results11, go_sem, b0, b1, b2, b3, b4, b5, noC]
    · exact ((((((HB0.out.trans ((HB2.out).mono HB0.out.size)).setCell HBC.out _).setCell HBC.out _).setCell HBC.out _).setCell HBC.out _).setCell HBC.out _).setCell HBC.out _
  | true =>
  have HN1 := Lib.hid (HI1.out.1 rfl)
  by_cases hk0 : kind < 0
  · have HF : Hid (¬ OkKit N kind T room) := Lib.hid (fun h => by have := h.2.1; omega)
    obtain ⟨c0, c1, c2⟩ := box3v ((HB2.out.block w.heap.size HSZ1.out).trans HX0.out)
    obtain ⟨b0, b1, b2, b3, b4, b5, bf⟩ := box6 ((HB2.out.block (w.heap.size + 1) HSZ2.out).trans HX1.out)
    go_wp2_with (fail)
    refine bodyPost_ret (v := .tuple #[noC, .int .i64 1]) ?_ rfl ⟨.inr (.inl ⟨HM1.out, HF.out, rfl⟩), ?_⟩
    · simp [results, Tryz.results11, go_sem, b0, b1, b2, b3, b4, b5, noC]
    · exact ((((((HB0.out.trans ((HB2.out).mono HB0.out.size)).setCell HBC.out _).setCell HBC.out _).setCell HBC.out _).setCell HBC.out _).setCell HBC.out _).setCell HBC.out _
  by_cases hk3 : (3 : Int) < kind
  · have HF : Hid (¬ OkKit N kind T room) := Lib.hid (fun h => by have := h.2.2.1; omega)
    obtain ⟨c0, c1, c2⟩ := box3v ((HB2.out.block w.heap.size HSZ1.out).trans HX0.out)
    obtain ⟨b0, b1, b2, b3, b4, b5, bf⟩ := box6 ((HB2.out.block (w.heap.size + 1) HSZ2.out).trans HX1.out)
    go_wp2_with (fail)
    refine bodyPost_ret (v := .tuple #[noC, .int .i64 1]) ?_ rfl ⟨.inr (.inl ⟨HM1.out, HF.out, rfl⟩), ?_⟩
    · simp [results, Tryz.results11, go_sem, b0, b1, b2, b3, b4, b5, noC]
    · exact ((((((HB0.out.trans ((HB2.out).mono HB0.out.size)).setCell HBC.out _).setCell HBC.out _).setCell HBC.out _).setCell HBC.out _).setCell HBC.out _).setCell HBC.out _
  have hcm := rclassMay_calls w2 (HT.out.below HB2.out)
  go_wp2_with (fail)
  refine hcm.mono ?_
  rintro e w3 ⟨⟨b, rfl, hb⟩, hb3⟩
  have HB3 := Lib.hid (HB2.out.trans (hb3.mono HB2.out.size))
  have HI2 := Lib.hid hb
  clear hb hb3 hcm
  obtain ⟨c0, c1, c2⟩ := box3v ((HB3.out.block w.heap.size HSZ1.out).trans HX0.out)
  obtain ⟨b0, b1, b2, b3, b4, b5, bf⟩ := box6 ((HB3.out.block (w.heap.size + 1) HSZ2.out).trans HX1.out)
  cases b with
  | false =>
    have HF : Hid (¬ OkKit N kind T room) := Lib.hid (fun h => no_of HI2.out rfl h.2.2.2.1)
    go_wp2_with (fail)
    refine bodyPost_ret (v := .tuple #[noC, .int .i64 1]) ?_ rfl ⟨.inr (.inl ⟨HM1.out, HF.out, rfl⟩), ?_⟩
    · simp [results, Tryz.results11, go_sem, b0, b1, b2, b3, b4, b5, noC]
    · exact ((((((HB0.out.trans ((HB3.out).mono HB0.out.size)).setCell HBC.out _).setCell HBC.out _).setCell HBC.out _).setCell HBC.out _).setCell HBC.out _).setCell HBC.out _
  | true =>
  have HT1 := Lib.hid (HI2.out.1 rfl)
  by_cases hr0 : room < 0
  · have HF : Hid (¬ OkKit N kind T room) := Lib.hid (fun h => by have := h.2.2.2.2.1; omega)
    go_wp2_with (fail)
    refine bodyPost_ret (v := .tuple #[noC, .int .i64 1]) ?_ rfl ⟨.inr (.inl ⟨HM1.out, HF.out, rfl⟩), ?_⟩
    · simp [results, Tryz.results11, go_sem, b0, b1, b2, b3, b4, b5, noC]
    · exact ((((((HB0.out.trans ((HB3.out).mono HB0.out.size)).setCell HBC.out _).setCell HBC.out _).setCell HBC.out _).setCell HBC.out _).setCell HBC.out _).setCell HBC.out _
  by_cases hr1 : (1048576 : Int) < room
  · have HF : Hid (¬ OkKit N kind T room) := Lib.hid (fun h => by have := h.2.2.2.2.2; omega)
    go_wp2_with (fail)
    refine bodyPost_ret (v := .tuple #[noC, .int .i64 1]) ?_ rfl ⟨.inr (.inl ⟨HM1.out, HF.out, rfl⟩), ?_⟩
    · simp [results, Tryz.results11, go_sem, b0, b1, b2, b3, b4, b5, noC]
    · exact ((((((HB0.out.trans ((HB3.out).mono HB0.out.size)).setCell HBC.out _).setCell HBC.out _).setCell HBC.out _).setCell HBC.out _).setCell HBC.out _).setCell HBC.out _
  have HOKK : Hid (OkKit N kind T room) := Lib.hid ⟨HN1.out, by omega, by omega, HT1.out, by omega, by omega⟩
  by_cases ht0 : tn = 0
  · have hT0 : T = [] := List.eq_nil_of_length_eq_zero (by have := HTL.out; omega)
    have HTU : Hid (tabOf T = usR) := Lib.hid (by unfold tabOf; rw [if_pos hT0])
    have htc := table_calls w3
    subst ht0
    clear hT0
    go_wp2_with (fail)
    refine htc.mono ?_
    rintro e w4 ⟨v, rfl, ho, hb4⟩
    obtain ⟨ua, uc, rfl, hs⟩ := ho.sl
    have HB4 := Lib.hid (HB3.out.trans (hb4.mono HB3.out.size))
    have HS := Lib.hid ho
    clear ho hb4 hs htc
    obtain ⟨c0, c1, c2⟩ := box3v ((HB4.out.block w.heap.size HSZ1.out).trans HX0.out)
    obtain ⟨b0, b1, b2, b3, b4, b5, bf⟩ := box6 ((HB4.out.block (w.heap.size + 1) HSZ2.out).trans HX1.out)
    go_wp2_with (fail)
    refine bodyPost_ret (v := .tuple #[.agg #[.slice ta tn' tc', .slice ma mn mc, .slice sa sn sc, .slice no nn nc, .int .i64 kind, .slice ua usR.length uc], .int .i64 0]) ?_ rfl ⟨.inr (.inr ⟨HM1.out, HOKK.out, ua, _, uc, rfl, ?_⟩), ?_⟩
    · simp [results, Tryz.results11, go_sem, b0, b1, b2, b3, b4, b5]
    · rw [HTU.out]
      obtain ⟨ao', cap', e', hs'⟩ := OwnF.sl (OwnF.keepG HS.out ((((((KeepG.refl (w.heap.size + 1) w4).set 0 _).set 1 _).set 2 _).set 3 _).set 4 _ |>.set 5 _) (fun q hq => by have := (World.ownsRow.lt HS.out q hq).1; have := HSZ2.out; have := HB3.out.size; omega))
      simp only [Value.slice.injEq] at e'
      obtain ⟨rfl, _, rfl⟩ := e'
      exact hs'
    · exact ((((((HB0.out.trans (HB4.out.mono HB0.out.size)).setCell HBC.out _).setCell HBC.out _).setCell HBC.out _).setCell HBC.out _).setCell HBC.out _).setCell HBC.out _
  · have HTU : Hid (tabOf T = T) := Lib.hid (by unfold tabOf; rw [if_neg (fun e => ht0 (by have := HTL.out; rw [e] at this; simpa using this.symm))])
    have HS := Lib.hid (HT.out.below HB3.out)

    go_wp2_with (fail)
    refine bodyPost_ret (v := .tuple #[.agg #[.slice ta tn' tc', .slice ma mn mc, .slice sa sn sc, .slice no nn nc, .int .i64 kind, .slice to_ tn tc], .int .i64 0]) ?_ rfl ⟨.inr (.inr ⟨HM1.out, HOKK.out, to_, tn, tc, rfl, ?_⟩), ?_⟩
    · simp [results, Tryz.results11, go_sem, b0, b1, b2, b3, b4, b5]
    · rw [HTU.out]
      exact HTW.out.below (((((((HB0.out.trans (HB3.out.mono HB0.out.size)).setCell HBC.out _).setCell HBC.out _).setCell HBC.out _).setCell HBC.out _).setCell HBC.out _).setCell HBC.out _)
    · exact ((((((HB0.out.trans (HB3.out.mono HB0.out.size)).setCell HBC.out _).setCell HBC.out _).setCell HBC.out _).setCell HBC.out _).setCell HBC.out _).setCell HBC.out _

end Go.Proofs.YtnadelmbkaoeeaaGreatDoor

/- Walks: a token's symbols, by the program and by the document. (Printed by gSyms.py.) -/
namespace Go.Proofs.YtnadelmbkaoeeaaGreatDoor
open Go.RowKit
set_option linter.unusedVariables false

/-- A row of one number, made. -/
theorem own_one (w : World) (x : Int) : Own (w.alloc (.cells #[.int .i64 x] 3)) w.heap.size (.slice (some ⟨w.heap.size, 0, none⟩) 1 1) [x] := by
  refine ⟨by simp, .inr ⟨w.heap.size, 1, #[.int .i64 x], by simp, Nat.le_refl _, heap_alloc_new w _, by simp, by unfold maxLen; omega, by simp, ?_⟩⟩
  simp
def SymPost (V : Vc) (N : List ByteArray) (t : Int) (w : World) (e : Ending) (w' : World) : Prop :=
  (∃ v, e = .returned (.tuple #[v, .int .i64 (symsOf V N t).2]) ∧ Own w' w.heap.size v (symsOf V N t).1) ∧ Below w.heap.size w w'
theorem symsOf_yes {V : Vc} {N : List ByteArray} {t : Int} (h : isTk V.tokens t = true) : symsOf V N t = (bytesI (tk V.tokens t.toNat), 0) := by
  unfold symsOf; rw [if_pos h]
theorem symsOf_none {V : Vc} {N : List ByteArray} {t : Int} (h : isTk V.tokens t = false) (h2 : spBy V.specials t = none) : symsOf V N t = ([], 3) := by
  unfold symsOf; rw [h, h2]; simp
theorem symsOf_at {V : Vc} {N : List ByteArray} {t : Int} (h : isTk V.tokens t = false) {s : Sp} (h2 : spBy V.specials t = some s) {k : Nat} (h3 : nameAt N s.name = some k) : symsOf V N t = ([256 + (k : Int)], 0) := by
  unfold symsOf; rw [h, h2]; simp only [h3]; simp
theorem symsOf_un {V : Vc} {N : List ByteArray} {t : Int} (h : isTk V.tokens t = false) {s : Sp} (h2 : spBy V.specials t = some s) (h3 : nameAt N s.name = none) : symsOf V N t = ([], 4) := by
  unfold symsOf; rw [h, h2]; simp only [h3]; simp

set_option maxHeartbeats 1000000 in
set_option maxRecDepth 100000 in
theorem symbols_calls {V : Vc} {N : List ByteArray} {kind : Int} {T : List Rg} {base g cb : Nat} (t : Int) (w : World) (hC : TCod w base g V N kind T cb) (hT : ∀ s ∈ V.tokens, s.size ≤ 64) (hN : MayNames N) :
    Calls Tryz.prog 15 #[.pointer (some ⟨g, 0, none⟩), .int .i64 t] w (SymPost V N t w) := by
  obtain ⟨hlo, ta, tc, sa, sc, na, nc, ma, mc, oa, oc, eg, hx, hot, hos, hon, _⟩ := hC
  obtain ⟨i0, hi, hz0, hz1, hz2⟩ := info_parts infoInt3
  obtain ⟨_, _, e1, hst⟩ := hot.sl
  simp only [Value.slice.injEq] at e1
  obtain ⟨rfl, _, rfl⟩ := e1
  obtain ⟨_, _, e1, hss⟩ := hos.sl
  simp only [Value.slice.injEq] at e1
  obtain ⟨rfl, _, rfl⟩ := e1
  obtain ⟨_, _, e1, hsn⟩ := hon.sl
  simp only [Value.slice.injEq] at e1
  obtain ⟨rfl, _, rfl⟩ := e1
  have hV : VocR w ⟨ta, V.tokens.length, tc, none, 0, 0, sa, V.specials.length, sc⟩ ⟨V.tokens, [], V.specials⟩ := ⟨SlF.strs hst, SlF.nothing _, hss⟩
  have hvb := vbytes_calls (dd := ⟨ta, V.tokens.length, tc, none, 0, 0, sa, V.specials.length, sc⟩) t w hV
  have HV := Lib.hid hV
  have HX := Lib.hid hx
  have HNN := Lib.hid (SlF.strs hsn)
  have HMN := Lib.hid hN
  have hg : g < w.heap.size := (Array.getElem?_eq_some_iff.1 hx).1
  obtain ⟨c0, c1, c2, c3, c4, c5, c6, c7, c8, cf⟩ := box9 hx
  have HT := Lib.hid hT
  clear hx hot hos hon hst hss hsn hV hT hN
  go_enter Tryz.func15, Tryz.ntmps15
  go_wp2_with (fail)
  refine hvb.mono ?_
  rintro e w1 ⟨rfl, hb1⟩
  have HB1 := Lib.hid hb1
  cases htk : isTk V.tokens t with
  | true =>
    have HSY := Lib.hid (symsOf_yes (N := N) htk)
    obtain ⟨s, hs⟩ : ∃ s, tk V.tokens t.toNat = s := ⟨_, rfl⟩
    have hbo : bytesOf V.tokens t = s := by unfold bytesOf; rw [if_pos htk, hs]
    have hsz : s.size ≤ 64 := by
      obtain ⟨a1, a2, _⟩ := isTk_iff.1 htk
      rw [← hs]
      exact HT.out _ (tk_mem (by omega))
    rw [hs] at HSY
    simp only [hbo]
    clear hb1 hvb hs hbo htk c0 c1 c2 c3 c4 c5 c6 c7 c8 cf
    go_wp2_with (fail)
    go_loopw [8, 27] (fun v i wr => ∃ k : Nat, k ≤ s.size ∧ i = .int .i64 k ∧ Own wr w.heap.size v ((bytesI s).take k) ∧ Below w.heap.size w wr) (fun _ i _ => s.size - (intOf i).toNat)
    case atStart => exact ⟨0, Nat.zero_le _, rfl, by simpa using Own.nil w1 w.heap.size, HB1.out⟩
    case round =>
      obtain ⟨k, hk, rfl, ho, hb⟩ := hrel
      have HO := Lib.hid ho
      have HB := Lib.hid hb
      clear ho hb
      by_cases hlt : k < s.size
      · have HK := Lib.hid (bytesI_succ hlt)
        have HL : Hid (((bytesI s).take k).length = k) := Lib.hid (by rw [List.length_take, bytesI_len]; omega)
        obtain ⟨x, hxx⟩ : ∃ x : Int, (s[k].toNat : Int) = x := ⟨_, rfl⟩
        have HS1 : Hid (SlI (wr.alloc (.cells #[.int .i64 x] 3)) (some ⟨wr.heap.size, 0, none⟩) 1 1 [x]) := Lib.hid (SlI.one wr x _)
        have HO1 : Hid (Own (wr.alloc (.cells #[.int .i64 x] 3)) w.heap.size u8 ((bytesI s).take k)) := Lib.hid (HO.out.alloc _)
        have HSZ : Hid (w.heap.size ≤ wr.heap.size) := Lib.hid HB.out.size
        rw [hxx] at HK
        have hx8 := s[k].toNat_lt
        have hwx : wrap64 x = x := by rw [← hxx]; unfold wrap64; omega
        go_wp2_with (at_builtin; go_loud (refine wpList_int_app rfl _ _ 41 rfl i0 Tryz.underlying41 hi hz0 hz1 hz2 rfl HO1.out rfl HS1.out (by have := HL.out; omega) (by have := HSZ.out; simp; omega) ?_))
        intro v1 w2 ho2 hg2 hb2
        rw [← HK.out] at ho2
        have HO2 := Lib.hid ho2
        have HB2 := Lib.hid ((HB.out.alloc HB.out.size _).trans hb2)
        clear ho2 hg2 hb2
        go_wp2_with (fail)
        go_roundw
        case rel => exact ⟨k + 1, by omega, by go_num, HO2.out, HB2.out⟩
        case measure => simp [intOf]; omega
      · obtain rfl : k = s.size := by omega
        have HO2 := HO.out
        rw [List.take_of_length_le (by rw [bytesI_len]; exact Nat.le_refl _)] at HO2
        have HO3 := Lib.hid HO2
        clear HO2
        go_wp2_with (fail)
        refine bodyPost_ret (v := .tuple #[u8, .int .i64 0]) ?_ rfl ⟨⟨u8, by rw [HSY.out], by rw [HSY.out]; exact HO3.out⟩, HB.out⟩
        simp [results, Tryz.results15, go_sem]
  | false =>
  have hbo : bytesOf V.tokens t = ByteArray.empty := by unfold bytesOf; rw [htk]; rfl
  have hnm := name_calls (dd := ⟨ta, V.tokens.length, tc, none, 0, 0, sa, V.specials.length, sc⟩) t w1 (HV.out.below hb1)
  simp only [hbo]
  have HTK := Lib.hid htk
  clear hb1 hvb hbo htk c0 c1 c2 c3 c4 c5 c6 c7 c8 cf
  obtain ⟨c0, c1, c2, c3, c4, c5, c6, c7, c8, cf⟩ := box9 ((HB1.out.block g hg).trans HX.out)
  go_wp2_with (fail)
  refine hnm.mono ?_
  rintro e w2 ⟨rfl, hb2⟩
  have HB2 := Lib.hid (HB1.out.trans (hb2.mono HB1.out.size))
  cases hsp : spBy V.specials t with
  | none =>
    have HSY := Lib.hid (symsOf_none (N := N) HTK.out hsp)
    simp only [nmOf, Option.isSome_none]
    clear hb2 hnm hsp
    go_wp2_with (fail)
    refine bodyPost_ret (v := .tuple #[.slice none 0 0, .int .i64 3]) ?_ rfl ⟨⟨_, by rw [HSY.out], by rw [HSY.out]; exact Own.nil _ _⟩, HB2.out⟩
    simp [results, Tryz.results15, go_sem]
  | some s =>
  simp only [nmOf, Option.isSome_some]
  obtain ⟨k0, q1, q2, q3, q4⟩ := names_cut HMN.out s.name
  have HSP := Lib.hid hsp
  clear hb2 hnm c0 c1 c2 c3 c4 c5 c6 c7 c8 cf
  obtain ⟨c0, c1, c2, c3, c4, c5, c6, c7, c8, cf⟩ := box9 ((HB2.out.block g hg).trans HX.out)
  rcases q4 with ⟨r1, r2, r3⟩ | ⟨r1, r3⟩
  · have hbs := binS_calls s.name w2 (Sl.below HNN.out HB2.out) q1 (by have := HMN.out.1; omega) q2 q3 (bb := true) (by simp [r1, r2])
    have HSY := Lib.hid (symsOf_at HTK.out hsp r3)
    have HK0 : Hid ((k0 : Int) < 16) := Lib.hid (by have := HMN.out.1; omega)
    clear q1 q2 q3 r1 r2 r3 hsp
    go_wp2_with (fail)
    refine hbs.mono ?_
    rintro e w3 ⟨rfl, hb3⟩
    have HB3 := Lib.hid (HB2.out.trans (hb3.mono HB2.out.size))
    have hk0 := HK0.out
    have hwr : IntKind.i64.wrap (256 + (k0 : Int)) = 256 + (k0 : Int) := by rw [IntKind.wrap_i64]; omega
    clear hb3 hbs
    go_wp2_with (fail)
    refine bodyPost_ret (v := .tuple #[.slice (some ⟨w3.heap.size, 0, none⟩) 1 1, .int .i64 0]) ?_ rfl ⟨⟨_, by rw [HSY.out], by rw [HSY.out]; exact Own.mono (own_one w3 _) HB3.out.size⟩, HB3.out.alloc HB3.out.size _⟩
    simp [results, Tryz.results15, go_sem]
  · have hbs := binS_calls s.name w2 (Sl.below HNN.out HB2.out) q1 (by have := HMN.out.1; omega) q2 q3 (bb := false) ⟨(fun h => by cases h), (fun h => absurd h r1)⟩
    have HSY := Lib.hid (symsOf_un HTK.out hsp r3)
    clear q1 q2 q3 r1 r3 hsp
    go_wp2_with (fail)
    refine hbs.mono ?_
    rintro e w3 ⟨rfl, hb3⟩
    have HB3 := Lib.hid (HB2.out.trans (hb3.mono HB2.out.size))
    clear hb3 hbs
    go_wp2_with (fail)
    refine bodyPost_ret (v := .tuple #[.slice none 0 0, .int .i64 4]) ?_ rfl ⟨⟨_, by rw [HSY.out], by rw [HSY.out]; exact Own.nil _ _⟩, HB3.out⟩
    simp [results, Tryz.results15, go_sem]

end Go.Proofs.YtnadelmbkaoeeaaGreatDoor

/- A row of structs that the call made, behind a sort of the library's: it holds the sorted row. Plain lemmas. -/
namespace Go.Proofs.YtnadelmbkaoeeaaGreatDoor
open Go.RowKit
open Go.Sort hiding Below
set_option linter.unusedVariables false

section
variable {α : Type} [Inhabited α] {enc : α → List Value} {k : Nat} {e : TypeId}

theorem heap_sortWorldK {w : World} {g : Nat} {cur : Array Value} {fr : Nat × Nat} (hg : w.heap[g]? = some (.cells cur e fr)) (m : Nat) (d : Array α) (os : Array Obj) :
    (sortWorldK enc k w g 0 m d os).heap[g]? = some (.cells (Go.Sort.putCells id 0 (flatK enc k d) cur) e fr) := by
  have hlt := (Array.getElem?_eq_some_iff.1 hg).1
  show ((w.heap.modify g (Go.Sort.onCells (Go.Sort.putCells id 0 (flatK enc k d)))) ++ os)[g]? = _
  rw [Array.getElem?_append_left (by simpa using hlt), Array.getElem?_modify, if_pos rfl, hg]
  rfl

theorem heap_sortWorldK_other {w : World} {g q : Nat} (hq : q < w.heap.size) (hne : q ≠ g) (m : Nat) (d : Array α) (os : Array Obj) : (sortWorldK enc k w g 0 m d os).heap[q]? = w.heap[q]? := by
  show ((w.heap.modify g (Go.Sort.onCells (Go.Sort.putCells id 0 (flatK enc k d)))) ++ os)[q]? = _
  rw [Array.getElem?_append_left (by simpa using hq), Array.getElem?_modify, if_neg (by omega)]

theorem below_sortWorldK {w : World} {g B : Nat} (hB : B ≤ g) (hw : B ≤ w.heap.size) (m : Nat) (d : Array α) (os : Array Obj) : RowKit.Below B w (sortWorldK enc k w g 0 m d os) :=
  ⟨rfl, rfl, rfl, by show w.heap.size ≤ ((w.heap.modify g _) ++ os).size; simp, fun q hq => heap_sortWorldK_other (by omega) (by omega) m d os⟩

theorem ownF_sorted (hs : ∀ x, (enc x).length = k) (h0 : 0 < k) {w : World} {base g n cap : Nat} {L L' : List α} (h : OwnF enc k e w base (.slice (some ⟨g, 0, none⟩) n cap) L) (hl : L'.length = L.length) (m : Nat) (os : Array Obj) :
    OwnF enc k e (sortWorldK enc k w g 0 m L'.toArray os) base (.slice (some ⟨g, 0, none⟩) n cap) L' := by
  obtain ⟨h1, h2⟩ := h
  rcases h2 with ⟨hv, hn⟩ | ⟨g', cap', cur, hv, hg, hh, hn, hm, hsz, ht⟩
  · simp at hv
  · simp at hv
    obtain ⟨rfl, rfl, rfl⟩ := hv
    refine ⟨by rw [flat_len hs], .inr ⟨g, cap, _, by rw [hl], hg, heap_sortWorldK hh m L'.toArray os, by rw [hl]; exact hn, hm, by unfold Go.Sort.putCells; simpa using hsz, ?_⟩⟩
    apply List.ext_getElem?
    intro i
    rw [List.getElem?_take]
    by_cases hi : i < L'.length * k
    · rw [if_pos hi]
      have hd : i = i / k * k + i % k := by rw [Nat.mul_comm]; exact (Nat.div_add_mod i k).symm
      have hlt : i / k < L'.length := Nat.div_lt_of_lt_mul (by rw [Nat.mul_comm]; exact hi)
      have hx : L'[i / k]? = some L'[i / k] := List.getElem?_eq_getElem hlt
      have hm2 := Nat.mod_lt i h0
      have e1 : (flat enc L')[i]? = (enc L'[i / k])[i % k]? := by
        conv => lhs; rw [hd]
        exact flat_at hs hx hm2
      have hi2 : i < cur.size := by
        rw [hsz]
        have : L'.length * k ≤ cap * k := Nat.mul_le_mul_right k (by rw [hl]; exact hn)
        omega
      have e2 : (Go.Sort.putCells id 0 (flatK enc k L'.toArray) cur).toList[i]? = (enc L'[i / k])[i % k]? := by
        unfold Go.Sort.putCells
        rw [Array.getElem?_toList, Array.getElem?_mapIdx, Array.getElem?_eq_getElem hi2]
        simp only [Option.map_some, Nat.zero_le, Nat.zero_add, true_and, Nat.sub_zero, id]
        rw [if_pos (by rw [size_flatK]; simpa using hi), get_flatK enc k _ i (by simpa using hi)]
        have e3 : (L'.toArray)[i / k]! = L'[i / k] := by simp [hlt]
        rw [e3]
        have hlen : i % k < (enc L'[i / k]).length := by rw [hs]; exact hm2
        rw [List.getElem?_eq_getElem hlen]
        simp [hlen]
      rw [e1]; exact e2
    · rw [if_neg hi, List.getElem?_eq_none (by rw [flat_len hs]; omega)]

theorem holdsK_own (hs : ∀ x, (enc x).length = k) (h0 : 0 < k) {w : World} {base g n cap : Nat} {L : List α} (h : OwnF enc k e w base (.slice (some ⟨g, 0, none⟩) n cap) L) : HoldsK enc k w g 0 L.toArray ∧ L.length = n ∧ base ≤ g ∧ g < w.heap.size := by
  have hlt := World.ownsRow.lt h g rfl
  obtain ⟨h1, h2⟩ := h
  have h2' := h2
  rcases h2' with ⟨hv, hn⟩ | ⟨g', cap', cur, hv, hg, hh, hn, hm, hsz, ht⟩
  · simp at hv
  · simp at hv
    obtain ⟨rfl, rfl, rfl⟩ := hv
    refine ⟨fun j hj => ?_, rfl, hlt.1, hlt.2⟩
    rw [size_flatK] at hj
    have hj' : j < L.length * k := by simpa using hj
    have ho : w.ownsRow base e k (.slice (some ⟨g, 0, none⟩) L.length cap) L.length (flat enc L) := ⟨h1, .inr ⟨g, cap, cur, rfl, hg, hh, hn, hm, hsz, ht⟩⟩
    refine ⟨?_, by rw [Nat.zero_add]; exact World.ownsRow.frozenAt ho j⟩
    rw [Nat.zero_add, World.ownsRow.cellAt ho j hj', get_flatK enc k _ j (by simpa using hj')]
    have hd : j = j / k * k + j % k := by rw [Nat.mul_comm]; exact (Nat.div_add_mod j k).symm
    have hlt2 : j / k < L.length := Nat.div_lt_of_lt_mul (by rw [Nat.mul_comm]; exact hj')
    have hm2 := Nat.mod_lt j h0
    have e1 : (flat enc L)[j]? = (enc L[j / k])[j % k]? := by
      conv => lhs; rw [hd]
      exact flat_at hs (List.getElem?_eq_getElem hlt2) hm2
    have e3 : (L.toArray)[j / k]! = L[j / k] := by simp [hlt2]
    have hlen : j % k < (enc L[j / k]).length := by rw [hs]; exact hm2
    rw [e1, e3, List.getElem?_eq_getElem hlen]
    simp [hlen]

/-- What a sort of an array tells of lists. -/
theorem perm_sorted {lt : α → α → Bool} {L : List α} {d' : Array α} (hp : Go.Sort.PermIn 0 L.toArray.size L.toArray d') (hs : Go.Sort.SortedIn lt 0 L.toArray.size d') : d'.toList.Perm L ∧ d'.toList.Pairwise (fun a b => lt b a = false) ∧ d'.toList.length = L.length := by
  obtain ⟨h1, _, h3⟩ := hp
  have e1 : (d'.extract 0 L.toArray.size) = d' := by
    rw [← h1]; simp
  have e2 : (L.toArray.extract 0 L.toArray.size) = L.toArray := by simp
  rw [e1, e2] at h3
  refine ⟨by simpa using h3, ?_, by simpa using h1⟩
  rw [List.pairwise_iff_getElem]
  intro i j hi hj hij
  have hi' : i < d'.size := by simpa using hi
  have hj' : j < d'.size := by simpa using hj
  have := hs i j (Nat.zero_le _) hij (by rw [← h1]; exact hj')
  rw [getElem!_pos d' j hj', getElem!_pos d' i hi'] at this
  simpa using this
end

end Go.Proofs.YtnadelmbkaoeeaaGreatDoor

/- The shelf's contract of a sort, laid at this program, in plain words (written by the kit's lay-plain, by mkshelf2.sh). -/
namespace Go.Proofs
open Go.Shelf
def Tryz.sortF_ren : Go.Shelf.Ren := ⟨fun | 6 => 47 | 15 => 74 | 14 => 73 | 28 => 107 | 29 => 108 | 20 => 99 | 21 => 100 | 22 => 101 | 23 => 102 | 24 => 103 | 25 => 104 | 26 => 105 | 27 => 106 | 46 => 134 | 47 => 135 | 48 => 136 | 49 => 137 | 50 => 138 | 57 => 161 | n => n, fun | 22 => 89 | 24 => 93 | 25 => 96 | 3 => 3 | 39 => 127 | 0 => 0 | 53 => 164 | 55 => 166 | 4 => 4 | 46 => 158 | 45 => 157 | 50 => 87 | 5 => 5 | 9 => 9 | 66 => 194 | 70 => 198 | 76 => 228 | 77 => 98 | n => n, fun | n => n⟩
theorem Tryz.sortF : Go.Proofs.SlLaysF0.n6 Tryz.prog Tryz.sortF_ren := {
  mixed := by kernel_rfl
  f6 := ⟨Tryz.f47.name, by decide, Tryz.func47.trans (congrArg some (by kernel_rfl))⟩
  f14 := ⟨Tryz.f73.name, by decide, Tryz.func73.trans (congrArg some (by kernel_rfl))⟩
  f15 := Tryz.func74.trans (congrArg some (by kernel_rfl))
  f20 := ⟨Tryz.f99.name, by decide, Tryz.func99.trans (congrArg some (by kernel_rfl))⟩
  f21 := ⟨Tryz.f100.name, by decide, Tryz.func100.trans (congrArg some (by kernel_rfl))⟩
  f22 := ⟨Tryz.f101.name, by decide, Tryz.func101.trans (congrArg some (by kernel_rfl))⟩
  f23 := ⟨Tryz.f102.name, by decide, Tryz.func102.trans (congrArg some (by kernel_rfl))⟩
  f24 := ⟨Tryz.f103.name, by decide, Tryz.func103.trans (congrArg some (by kernel_rfl))⟩
  f25 := ⟨Tryz.f104.name, by decide, Tryz.func104.trans (congrArg some (by kernel_rfl))⟩
  f26 := ⟨Tryz.f105.name, by decide, Tryz.func105.trans (congrArg some (by kernel_rfl))⟩
  f27 := ⟨Tryz.f106.name, by decide, Tryz.func106.trans (congrArg some (by kernel_rfl))⟩
  f28 := Tryz.func107.trans (congrArg some (by kernel_rfl))
  f29 := Tryz.func108.trans (congrArg some (by kernel_rfl))
  f46 := ⟨Tryz.f134.name, by decide, Tryz.func134.trans (congrArg some (by kernel_rfl))⟩
  f47 := Tryz.func135.trans (congrArg some (by kernel_rfl))
  f48 := Tryz.func136.trans (congrArg some (by kernel_rfl))
  f49 := ⟨Tryz.f137.name, by decide, Tryz.func137.trans (congrArg some (by kernel_rfl))⟩
  f50 := ⟨Tryz.f138.name, by decide, Tryz.func138.trans (congrArg some (by kernel_rfl))⟩
  f57 := ⟨Tryz.f161.name, by decide, Tryz.func161.trans (congrArg some (by kernel_rfl))⟩
  t0 := Tryz.underlying0
  a0 := Tryz.isAgg0
  z0 := Tryz.sizeOf0
  v0 := Tryz.zeroValue0
  t3 := Tryz.underlying3
  a3 := Tryz.isAgg3
  z3 := Tryz.sizeOf3
  v3 := Tryz.zeroValue3
  t4 := Tryz.underlying4
  a4 := Tryz.isAgg4
  z4 := Tryz.sizeOf4
  v4 := Tryz.zeroValue4
  t5 := Tryz.underlying5
  a5 := Tryz.isAgg5
  z5 := Tryz.sizeOf5
  v5 := Tryz.zeroValue5
  t9 := Tryz.underlying9
  a9 := Tryz.isAgg9
  z9 := Tryz.sizeOf9
  v9 := Tryz.zeroValue9
  t22 := Tryz.underlying89
  a22 := Tryz.isAgg89
  z22 := Tryz.sizeOf89
  v22 := Tryz.zeroValue89
  t25 := Tryz.underlying96
  a25 := Tryz.isAgg96
  z25 := Tryz.sizeOf96
  v25 := Tryz.zeroValue96
  t39 := Tryz.underlying127
  a39 := Tryz.isAgg127
  z39 := Tryz.sizeOf127
  v39 := Tryz.zeroValue127
  t45 := Tryz.underlying157
  a45 := Tryz.isAgg157
  z45 := Tryz.sizeOf157
  v45 := Tryz.zeroValue157
  t46 := Tryz.underlying158
  a46 := Tryz.isAgg158
  z46 := Tryz.sizeOf158
  v46 := Tryz.zeroValue158
  t50 := Tryz.underlying87
  a50 := Tryz.isAgg87
  z50 := Tryz.sizeOf87
  v50 := Tryz.zeroValue87
  t53 := Tryz.underlying164
  a53 := Tryz.isAgg164
  z53 := Tryz.sizeOf164
  v53 := Tryz.zeroValue164
  t55 := Tryz.underlying166
  a55 := Tryz.isAgg166
  z55 := Tryz.sizeOf166
  v55 := Tryz.zeroValue166
  t66 := Tryz.underlying194
  a66 := Tryz.isAgg194
  z66 := Tryz.sizeOf194
  v66 := Tryz.zeroValue194
  t70 := Tryz.underlying198
  a70 := Tryz.isAgg198
  z70 := Tryz.sizeOf198
  v70 := Tryz.zeroValue198
  t76 := Tryz.underlying228
  a76 := Tryz.isAgg228
  z76 := Tryz.sizeOf228
  v76 := Tryz.zeroValue228
  t77 := Tryz.underlying98
  a77 := Tryz.isAgg98
  z77 := Tryz.sizeOf98
  v77 := Tryz.zeroValue98 }
end Go.Proofs
