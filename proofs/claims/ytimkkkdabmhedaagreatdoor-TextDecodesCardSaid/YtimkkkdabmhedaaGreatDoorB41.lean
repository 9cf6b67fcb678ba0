/- Walk of the reader: the first piece by Wide. -/
import Derived.Test.YtimkkkdabmhedaaGreatDoorB40
namespace Go.Proofs.YtimkkkdabmhedaaGreatDoor
open Go.RowKit
set_option linter.unusedVariables false

theorem rowN_min {L : List Pt} {c : Int} {j : Nat} (h : j ≤ 3) (hj : rowN L 0 c = j + rowN L j c) : (isC L j c = false ∨ j = 3) → min (rowN L 0 c) 3 = j := by
  rintro (h1 | rfl)
  · rw [rowN_no h1] at hj; omega
  · omega

section
variable {w0 : World} {g : Nat} {T : List Rg} {L : List Pt} {k : Nat}

set_option maxHeartbeats 2000000 in
set_option maxRecDepth 100000 in
theorem broad_calls (w : World) (h : RdS w0 w g T true L k) (hT : MayTab T) :
    Calls Tryz.prog 128 #[.pointer (some ⟨g, 0, none⟩)] w (CutPost w0 g T true L k (wideF L)) := by
  have hsm := h.small
  have hend := ending_calls w h hT
  have hrun : ∀ (i : Nat) (c : Int) (W : World) (k' : Nat), i ≤ 1048576 → RdS w0 W g T true L k' → Calls Tryz.prog 160 #[.pointer (some ⟨g, 0, none⟩), .int .i64 i, .int .i64 c] W fun e w' => e = .returned (.int .i64 ((i + rowN L i c : Nat) : Int)) ∧ RdTo w0 w' g T true L k' (i + rowN L i c + 1) := fun i c W k' hi h => run_calls i c W h hT hi
  have hled : ∀ (W : World) (k' : Nat), RdS w0 W g T true L k' → Calls Tryz.prog 158 #[.pointer (some ⟨g, 0, none⟩), .int .i64 0] W fun e w' => e = .returned (.int .i64 (ledN L 0 : Nat)) ∧ RdTo w0 w' g T true L k' (ledN L 0 + 1) := fun W k' h => led_calls 0 W h hT
  have hspc : ∀ (W : World) (k' : Nat), RdS w0 W g T true L k' → Calls Tryz.prog 159 #[.pointer (some ⟨g, 0, none⟩)] W fun e w' => e = .returned (.tuple #[.int .i64 ((spacesF L).1 : Nat), .int .i64 ((spacesF L).2 : Nat)]) ∧ RdTo w0 w' g T true L k' ((spacesF L).1) := fun W k' h => spaces_calls W h hT
  have hbla : ∀ (W : World) (k' : Nat), RdS w0 W g T true L k' → Calls Tryz.prog 154 #[.pointer (some ⟨g, 0, none⟩)] W fun e w' => e = .returned (.tuple #[.int .i64 (spN L 0 : Nat), .int .i64 (lineN L (spN L 0) : Nat)]) ∧ RdTo w0 w' g T true L k' (spN L 0 + 1) := fun W k' h => blanks_calls W h hT
  have hlea : ∀ (W : World) (k' : Nat), RdS w0 W g T true L k' → Calls Tryz.prog 161 #[.pointer (some ⟨g, 0, none⟩)] W fun e w' => e = .returned (.bool (leadsC L)) ∧ RdTo w0 w' g T true L k' 1 := fun W k' h => leads_calls W h hT
  have his : ∀ (i : Nat) (c : Int) (W : World) (k' : Nat), i ≤ 1048576 → RdS w0 W g T true L k' → Calls Tryz.prog 162 #[.pointer (some ⟨g, 0, none⟩), .int .i64 i, .int .i64 c] W fun e w' => e = .returned (.bool (isC L i c)) ∧ RdTo w0 w' g T true L k' (i + 1) := fun i c W k' hi h => ptis_calls i c W h hT hi
  have HF : Hid (wideF L = if 0 < endN L true then (endN L true, endN L true)
    else if 0 < rowN L 0 1 then (rowN L 0 1, rowN L 0 1 + 1)
    else if leadsC L = true ∧ isC L 1 1 = true then (1 + rowN L 1 1, 1 + rowN L 1 1 + 1)
    else if 0 < rowN L 0 2 then (min (rowN L 0 2) 3, min (min (rowN L 0 2) 3 + 1) 3)
    else if 0 < ledN L 0 then (ledN L 0 + rowN L (ledN L 0) 4, ledN L 0 + rowN L (ledN L 0) 4 + 1)
    else if 0 < lineN L (spN L 0) then (lineN L (spN L 0), spN L 0 + 1)
    else spacesF L) := Lib.hid rfl
  have hlee := endN_le L true
  have hl1 := rowN_le L 0 1
  have hl11 := rowN_le L 1 1
  have hled0 := ledN_le L 0
  have hl4 := rowN_le L (ledN L 0) 4
  have hspl := spN_le L 0
  have hlnl := lineN_le L (spN L 0)
  have hrun01 := fun W k' h => hrun 0 1 W k' (by omega) h
  have hrun11 := fun W k' h => hrun 1 1 W k' (by omega) h
  have hrunl4 := fun W k' h => hrun (ledN L 0) 4 W k' (by omega) h
  have his11 := fun W k' h => his 1 1 W k' (by omega) h
  unfold EndPost at hend
  obtain ⟨q, hq⟩ : ∃ q, wideF L = q := ⟨_, rfl⟩
  obtain ⟨en, hen⟩ : ∃ en, endN L true = en := ⟨_, rfl⟩
  obtain ⟨r1, hr1⟩ : ∃ r, rowN L 0 1 = r := ⟨_, rfl⟩
  obtain ⟨r11, hr11⟩ : ∃ r, rowN L 1 1 = r := ⟨_, rfl⟩
  obtain ⟨lc, hlc⟩ : ∃ b, leadsC L = b := ⟨_, rfl⟩
  obtain ⟨i11, hi11⟩ : ∃ b, isC L 1 1 = b := ⟨_, rfl⟩
  obtain ⟨r4, hr4⟩ : ∃ r, rowN L (ledN L 0) 4 = r := ⟨_, rfl⟩
  obtain ⟨ld, hld⟩ : ∃ l, ledN L 0 = l := ⟨_, rfl⟩
  obtain ⟨ln, hln⟩ : ∃ l, lineN L (spN L 0) = l := ⟨_, rfl⟩
  obtain ⟨sn, hsn⟩ : ∃ s, spN L 0 = s := ⟨_, rfl⟩
  obtain ⟨sp, hsp⟩ : ∃ sp, spacesF L = sp := ⟨_, rfl⟩
  rw [hq, hen, hr1, hlc, hi11, hr11, hr4, hld, hln, hsn, hsp] at HF
  rw [hr4, hld] at hrunl4 hl4
  rw [hr1] at hrun01 hl1
  rw [hr11] at hrun11 hl11
  rw [hi11] at his11
  rw [hlc] at hlea
  rw [hld] at hled hled0
  rw [hln] at hbla hlnl
  rw [hsn] at hbla hlnl hspl
  rw [hsp] at hspc
  rw [hen] at hend hlee
  rw [hq]
  clear h hrun hq hen hr1 hlc hi11 hr11 hr4 hld hln hsn hsp
  go_enter Tryz.func128, Tryz.ntmps128
  go_wp2_with (fail)
  refine hend.mono ?_
  rintro e w1 ⟨rfl, hr⟩
  clear hend
  by_cases hen : 0 < en
  · have hF : q = (en, en) := by rw [HF.out, if_pos hen]
    subst hF
    have ge : (0 : Int) < (en : Int) := by omega
    have HR1 := Lib.hid hr
    clear hrun01 hrun11 hrunl4 his11 hlea hled hbla hspc his hr
    go_wp2_with (fail)
    refine bodyPost_ret (v := .tuple #[.int .i64 (en : Nat), .int .i64 (en : Nat)]) ?_ rfl ⟨rfl, HR1.out⟩
    simp [results, Tryz.results128, go_sem]
  have ge : ¬ (0 : Int) < (en : Int) := by omega
  rw [if_neg hen] at HF
  obtain ⟨k1, hs1, hk1, _⟩ := hr
  have h1 := hrun01 w1 k1 hs1
  clear hs1 hrun01 hen
  go_wp2_with (fail)
  refine h1.mono ?_
  rintro e w2 ⟨rfl, hr2⟩
  rw [Nat.zero_add] at hr2 ⊢
  have HR2 := Lib.hid (hr2.up hk1)
  clear h1 hr2 ge
  by_cases hp1 : 0 < r1
  · have hF : q = (r1, r1 + 1) := by rw [HF.out, if_pos hp1]
    subst hF
    have g1 : (0 : Int) < (r1 : Int) := by omega
    clear hrun11 hrunl4 his11 hlea hled hbla hspc his
    go_wp2_with (fail)
    refine bodyPost_ret (v := .tuple #[.int .i64 (r1 : Nat), .int .i64 ((r1 + 1 : Nat) : Int)]) ?_ rfl ⟨rfl, HR2.out.le (Nat.le_succ _)⟩
    simp [results, Tryz.results128, go_sem]
  have g1 : ¬ (0 : Int) < (r1 : Int) := by omega
  rw [if_neg hp1] at HF
  obtain ⟨k2, hs2, hk2, _⟩ := HR2.out
  have h2 := hlea w2 k2 hs2
  clear hs2 hlea hp1
  go_wp2_with (fail)
  refine h2.mono ?_
  rintro e w3 ⟨rfl, hr3⟩
  have HR3 := Lib.hid (hr3.up hk2)
  clear h2 hr3 g1
  -- leads and a letter behind it
  have key : ∀ (W : World), RdTo w0 W g T true L k 0 → (¬ (lc = true ∧ i11 = true)) → True := fun _ _ _ => trivial
  clear key
  obtain ⟨k3, hs3, hk3, _⟩ := HR3.out
  have h3 := his11 w3 k3 hs3
  cases lc with
  | true =>
    clear hs3 his11
    go_wp2_with (fail)
    refine h3.mono ?_
    rintro e w4 ⟨rfl, hr4⟩
    have HR4 := Lib.hid (hr4.up hk3)
    clear h3 hr4
    cases i11 with
    | true =>
      have hF : q = (1 + r11, 1 + r11 + 1) := by rw [HF.out, if_pos (by simp)]
      subst hF
      obtain ⟨k4, hs4, hk4, _⟩ := HR4.out
      have h4 := hrun11 w4 k4 hs4
      clear hs4 hrun11 hrunl4 hled hbla hspc his
      go_wp2_with (fail)
      refine h4.mono ?_
      rintro e w5 ⟨rfl, hr5⟩
      have HR5 := Lib.hid (hr5.up hk4)
      clear h4 hr5
      go_wp2_with (fail)
      refine bodyPost_ret (v := .tuple #[.int .i64 ((1 + r11 : Nat) : Int), .int .i64 ((1 + r11 + 1 : Nat) : Int)]) ?_ rfl ⟨rfl, HR5.out.le (Nat.le_succ _)⟩
      simp [results, Tryz.results128, go_sem]
    | false =>
      rw [if_neg (fun h => by cases h.2)] at HF
      have HR0 : Hid (RdTo w0 w4 g T true L k 0) := Lib.hid (HR4.out.le (Nat.zero_le _))
      clear hrun11 HR4
      go_wp2_with (fail)
      go_loopw [7] (fun v wr => ∃ j : Nat, v = .int .i64 j ∧ j ≤ 3 ∧ Hid (rowN L 0 2 = j + rowN L j 2) ∧ Hid (RdTo w0 wr g T true L k j)) (fun v _ => 3 - (intOf v).toNat)
      case atStart => exact ⟨0, rfl, by omega, Lib.hid (by omega), HR0⟩
      case round =>
        obtain ⟨j, rfl, hj, HJ, HR⟩ := hrel
        by_cases hj3 : j < 3
        · have gj : (j : Int) < 3 := by omega
          obtain ⟨k5, hs5, hk5, _⟩ := HR.out
          have h5 := his j 2 wr k5 (by omega) hs5
          obtain ⟨b, hb⟩ : ∃ b, isC L j 2 = b := ⟨_, rfl⟩
          rw [hb] at h5
          have HB := Lib.hid hb
          clear hs5 hb his
          go_wp2_with (fail)
          refine h5.mono ?_
          rintro e w5 ⟨rfl, hr5⟩
          have HR5 := Lib.hid (hr5.up hk5)
          clear h5 hr5
          cases b with
          | true =>
            have hy := rowN_yes HB.out
            have HY := Lib.hid hy
            clear hy
            go_wp2_with (fail)
            go_roundw
            case rel => exact ⟨j + 1, by go_num, by omega, Lib.hid (by rw [HJ.out, HY.out.1]; omega), HR5⟩
            case measure => simp [intOf]; omega
          | false =>
            have HM : Hid (min (rowN L 0 2) 3 = j) := Lib.hid (rowN_min hj HJ.out (.inl HB.out))
            by_cases hj0 : 0 < j
            · have hF : q = (j, min (j + 1) 3) := by rw [HF.out, if_pos (by have := HM.out; omega), HM.out]
              subst hF
              have gj0 : (0 : Int) < ((j : Nat) : Int) := by omega
              have gmn : min (((j : Nat) : Int) + 1) 3 = ((min (j + 1) 3 : Nat) : Int) := by omega
              clear hrunl4 hled hbla hspc
              go_wp2_with (fail)
              refine bodyPost_ret (v := .tuple #[.int .i64 (j : Nat), .int .i64 ((min (j + 1) 3 : Nat) : Int)]) ?_ rfl ⟨rfl, HR5.out.le (Nat.le_succ _)⟩
              simp [results, Tryz.results128, go_sem]
            have gj0 : ¬ (0 : Int) < ((j : Nat) : Int) := by omega
            rw [if_neg (by have := HM.out; omega)] at HF
            obtain ⟨k6, hs6, hk6, _⟩ := HR5.out
            have h6 := hled w5 k6 hs6
            clear hs6 hled
            go_wp2_with (fail)
            refine h6.mono ?_
            rintro e w6 ⟨rfl, hr6⟩
            have HR6 := Lib.hid (hr6.up hk6)
            clear h6 hr6 gj0
            by_cases hld0 : 0 < ld
            · have hF : q = (ld + r4, ld + r4 + 1) := by rw [HF.out, if_pos hld0]
              subst hF
              have gl : (0 : Int) < (ld : Int) := by omega
              obtain ⟨k7, hs7, hk7, _⟩ := HR6.out
              have h7 := hrunl4 w6 k7 hs7
              clear hs7 hrunl4 hbla hspc
              go_wp2_with (fail)
              refine h7.mono ?_
              rintro e w7 ⟨rfl, hr7⟩
              have HR7 := Lib.hid (hr7.up hk7)
              clear h7 hr7
              go_wp2_with (fail)
              refine bodyPost_ret (v := .tuple #[.int .i64 ((ld + r4 : Nat) : Int), .int .i64 ((ld + r4 + 1 : Nat) : Int)]) ?_ rfl ⟨rfl, HR7.out.le (Nat.le_succ _)⟩
              simp [results, Tryz.results128, go_sem]
            have gl : ¬ (0 : Int) < (ld : Int) := by omega
            rw [if_neg hld0] at HF
            obtain ⟨k7, hs7, hk7, _⟩ := HR6.out
            have h7 := hbla w6 k7 hs7
            clear hs7 hbla hrunl4
            go_wp2_with (fail)
            refine h7.mono ?_
            rintro e w7 ⟨rfl, hr7⟩
            have HR7 := Lib.hid (hr7.up hk7)
            clear h7 hr7 gl
            by_cases hln0 : 0 < ln
            · have hF : q = (ln, sn + 1) := by rw [HF.out, if_pos hln0]
              subst hF
              have gn : (0 : Int) < (ln : Int) := by omega
              clear hspc
              go_wp2_with (fail)
              refine bodyPost_ret (v := .tuple #[.int .i64 (ln : Nat), .int .i64 ((sn + 1 : Nat) : Int)]) ?_ rfl ⟨rfl, HR7.out.le (by show ln ≤ sn + 1; omega)⟩
              simp [results, Tryz.results128, go_sem]
            have gn : ¬ (0 : Int) < (ln : Int) := by omega
            rw [if_neg hln0] at HF
            obtain ⟨k8, hs8, hk8, _⟩ := HR7.out
            have h8 := hspc w7 k8 hs8
            have hF : q = sp := HF.out
            subst hF
            clear hs8 hspc
            go_wp2_with (fail)
            refine h8.mono ?_
            rintro e w8 ⟨rfl, hr8⟩
            have HR8 := Lib.hid (hr8.up hk8)
            clear h8 hr8 gn
            go_wp2_with (fail)
            refine bodyPost_ret (v := .tuple #[.int .i64 (q.1 : Nat), .int .i64 (q.2 : Nat)]) ?_ rfl ⟨rfl, HR8.out⟩
            simp [results, Tryz.results128, go_sem]
        · have gj : ¬ (j : Int) < 3 := by omega
          have HM : Hid (min (rowN L 0 2) 3 = j) := Lib.hid (rowN_min hj HJ.out (.inr (by omega)))
          clear his
          by_cases hj0 : 0 < j
          · have hF : q = (j, min (j + 1) 3) := by rw [HF.out, if_pos (by have := HM.out; omega), HM.out]
            subst hF
            have gj0 : (0 : Int) < ((j : Nat) : Int) := by omega
            have gmn : min (((j : Nat) : Int) + 1) 3 = ((min (j + 1) 3 : Nat) : Int) := by omega
            clear hrunl4 hled hbla hspc
            go_wp2_with (fail)
            refine bodyPost_ret (v := .tuple #[.int .i64 (j : Nat), .int .i64 ((min (j + 1) 3 : Nat) : Int)]) ?_ rfl ⟨rfl, HR.out.le (Nat.le_refl _)⟩
            simp [results, Tryz.results128, go_sem]
          have gj0 : ¬ (0 : Int) < ((j : Nat) : Int) := by omega
          rw [if_neg (by have := HM.out; omega)] at HF
          obtain ⟨k6, hs6, hk6, _⟩ := HR.out
          have h6 := hled wr k6 hs6
          clear hs6 hled
          go_wp2_with (fail)
          refine h6.mono ?_
          rintro e w6 ⟨rfl, hr6⟩
          have HR6 := Lib.hid (hr6.up hk6)
          clear h6 hr6 gj0
          by_cases hld0 : 0 < ld
          · have hF : q = (ld + r4, ld + r4 + 1) := by rw [HF.out, if_pos hld0]
            subst hF
            have gl : (0 : Int) < (ld : Int) := by omega
            obtain ⟨k7, hs7, hk7, _⟩ := HR6.out
            have h7 := hrunl4 w6 k7 hs7
            clear hs7 hrunl4 hbla hspc
            go_wp2_with (fail)
            refine h7.mono ?_
            rintro e w7 ⟨rfl, hr7⟩
            have HR7 := Lib.hid (hr7.up hk7)
            clear h7 hr7
            go_wp2_with (fail)
            refine bodyPost_ret (v := .tuple #[.int .i64 ((ld + r4 : Nat) : Int), .int .i64 ((ld + r4 + 1 : Nat) : Int)]) ?_ rfl ⟨rfl, HR7.out.le (Nat.le_succ _)⟩
            simp [results, Tryz.results128, go_sem]
          have gl : ¬ (0 : Int) < (ld : Int) := by omega
          rw [if_neg hld0] at HF
          obtain ⟨k7, hs7, hk7, _⟩ := HR6.out
          have h7 := hbla w6 k7 hs7
          clear hs7 hbla hrunl4
          go_wp2_with (fail)
          refine h7.mono ?_
          rintro e w7 ⟨rfl, hr7⟩
          have HR7 := Lib.hid (hr7.up hk7)
          clear h7 hr7 gl
          by_cases hln0 : 0 < ln
          · have hF : q = (ln, sn + 1) := by rw [HF.out, if_pos hln0]
            subst hF
            have gn : (0 : Int) < (ln : Int) := by omega
            clear hspc
            go_wp2_with (fail)
            refine bodyPost_ret (v := .tuple #[.int .i64 (ln : Nat), .int .i64 ((sn + 1 : Nat) : Int)]) ?_ rfl ⟨rfl, HR7.out.le (by show ln ≤ sn + 1; omega)⟩
            simp [results, Tryz.results128, go_sem]
          have gn : ¬ (0 : Int) < (ln : Int) := by omega
          rw [if_neg hln0] at HF
          obtain ⟨k8, hs8, hk8, _⟩ := HR7.out
          have h8 := hspc w7 k8 hs8
          have hF : q = sp := HF.out
          subst hF
          clear hs8 hspc
          go_wp2_with (fail)
          refine h8.mono ?_
          rintro e w8 ⟨rfl, hr8⟩
          have HR8 := Lib.hid (hr8.up hk8)
          clear h8 hr8 gn
          go_wp2_with (fail)
          refine bodyPost_ret (v := .tuple #[.int .i64 (q.1 : Nat), .int .i64 (q.2 : Nat)]) ?_ rfl ⟨rfl, HR8.out⟩
          simp [results, Tryz.results128, go_sem]
  | false =>
    rw [if_neg (fun h => by cases h.1)] at HF
    have HR0 : Hid (RdTo w0 w3 g T true L k 0) := Lib.hid (HR3.out.le (Nat.zero_le _))
    clear hs3 his11 h3 hrun11
    go_wp2_with (fail)
    go_loopw [7] (fun v wr => ∃ j : Nat, v = .int .i64 j ∧ j ≤ 3 ∧ Hid (rowN L 0 2 = j + rowN L j 2) ∧ Hid (RdTo w0 wr g T true L k j)) (fun v _ => 3 - (intOf v).toNat)
    case atStart => exact ⟨0, rfl, by omega, Lib.hid (by omega), HR0⟩
    case round =>
      obtain ⟨j, rfl, hj, HJ, HR⟩ := hrel
      by_cases hj3 : j < 3
      · have gj : (j : Int) < 3 := by omega
        obtain ⟨k5, hs5, hk5, _⟩ := HR.out
        have h5 := his j 2 wr k5 (by omega) hs5
        obtain ⟨b, hb⟩ : ∃ b, isC L j 2 = b := ⟨_, rfl⟩
        rw [hb] at h5
        have HB := Lib.hid hb
        clear hs5 hb his
        go_wp2_with (fail)
        refine h5.mono ?_
        rintro e w5 ⟨rfl, hr5⟩
        have HR5 := Lib.hid (hr5.up hk5)
        clear h5 hr5
        cases b with
        | true =>
          have hy := rowN_yes HB.out
          have HY := Lib.hid hy
          clear hy
          go_wp2_with (fail)
          go_roundw
          case rel => exact ⟨j + 1, by go_num, by omega, Lib.hid (by rw [HJ.out, HY.out.1]; omega), HR5⟩
          case measure => simp [intOf]; omega
        | false =>
          have HM : Hid (min (rowN L 0 2) 3 = j) := Lib.hid (rowN_min hj HJ.out (.inl HB.out))
          by_cases hj0 : 0 < j
          · have hF : q = (j, min (j + 1) 3) := by rw [HF.out, if_pos (by have := HM.out; omega), HM.out]
            subst hF
            have gj0 : (0 : Int) < ((j : Nat) : Int) := by omega
            have gmn : min (((j : Nat) : Int) + 1) 3 = ((min (j + 1) 3 : Nat) : Int) := by omega
            clear hrunl4 hled hbla hspc
            go_wp2_with (fail)
            refine bodyPost_ret (v := .tuple #[.int .i64 (j : Nat), .int .i64 ((min (j + 1) 3 : Nat) : Int)]) ?_ rfl ⟨rfl, HR5.out.le (Nat.le_succ _)⟩
            simp [results, Tryz.results128, go_sem]
          have gj0 : ¬ (0 : Int) < ((j : Nat) : Int) := by omega
          rw [if_neg (by have := HM.out; omega)] at HF
          obtain ⟨k6, hs6, hk6, _⟩ := HR5.out
          have h6 := hled w5 k6 hs6
          clear hs6 hled
          go_wp2_with (fail)
          refine h6.mono ?_
          rintro e w6 ⟨rfl, hr6⟩
          have HR6 := Lib.hid (hr6.up hk6)
          clear h6 hr6 gj0
          by_cases hld0 : 0 < ld
          · have hF : q = (ld + r4, ld + r4 + 1) := by rw [HF.out, if_pos hld0]
            subst hF
            have gl : (0 : Int) < (ld : Int) := by omega
            obtain ⟨k7, hs7, hk7, _⟩ := HR6.out
            have h7 := hrunl4 w6 k7 hs7
            clear hs7 hrunl4 hbla hspc
            go_wp2_with (fail)
            refine h7.mono ?_
            rintro e w7 ⟨rfl, hr7⟩
            have HR7 := Lib.hid (hr7.up hk7)
            clear h7 hr7
            go_wp2_with (fail)
            refine bodyPost_ret (v := .tuple #[.int .i64 ((ld + r4 : Nat) : Int), .int .i64 ((ld + r4 + 1 : Nat) : Int)]) ?_ rfl ⟨rfl, HR7.out.le (Nat.le_succ _)⟩
            simp [results, Tryz.results128, go_sem]
          have gl : ¬ (0 : Int) < (ld : Int) := by omega
          rw [if_neg hld0] at HF
          obtain ⟨k7, hs7, hk7, _⟩ := HR6.out
          have h7 := hbla w6 k7 hs7
          clear hs7 hbla hrunl4
          go_wp2_with (fail)
          refine h7.mono ?_
          rintro e w7 ⟨rfl, hr7⟩
          have HR7 := Lib.hid (hr7.up hk7)
          clear h7 hr7 gl
          by_cases hln0 : 0 < ln
          · have hF : q = (ln, sn + 1) := by rw [HF.out, if_pos hln0]
            subst hF
            have gn : (0 : Int) < (ln : Int) := by omega
            clear hspc
            go_wp2_with (fail)
            refine bodyPost_ret (v := .tuple #[.int .i64 (ln : Nat), .int .i64 ((sn + 1 : Nat) : Int)]) ?_ rfl ⟨rfl, HR7.out.le (by show ln ≤ sn + 1; omega)⟩
            simp [results, Tryz.results128, go_sem]
          have gn : ¬ (0 : Int) < (ln : Int) := by omega
          rw [if_neg hln0] at HF
          obtain ⟨k8, hs8, hk8, _⟩ := HR7.out
          have h8 := hspc w7 k8 hs8
          have hF : q = sp := HF.out
          subst hF
          clear hs8 hspc
          go_wp2_with (fail)
          refine h8.mono ?_
          rintro e w8 ⟨rfl, hr8⟩
          have HR8 := Lib.hid (hr8.up hk8)
          clear h8 hr8 gn
          go_wp2_with (fail)
          refine bodyPost_ret (v := .tuple #[.int .i64 (q.1 : Nat), .int .i64 (q.2 : Nat)]) ?_ rfl ⟨rfl, HR8.out⟩
          simp [results, Tryz.results128, go_sem]
      · have gj : ¬ (j : Int) < 3 := by omega
        have HM : Hid (min (rowN L 0 2) 3 = j) := Lib.hid (rowN_min hj HJ.out (.inr (by omega)))
        clear his
        by_cases hj0 : 0 < j
        · have hF : q = (j, min (j + 1) 3) := by rw [HF.out, if_pos (by have := HM.out; omega), HM.out]
          subst hF
          have gj0 : (0 : Int) < ((j : Nat) : Int) := by omega
          have gmn : min (((j : Nat) : Int) + 1) 3 = ((min (j + 1) 3 : Nat) : Int) := by omega
          clear hrunl4 hled hbla hspc
          go_wp2_with (fail)
          refine bodyPost_ret (v := .tuple #[.int .i64 (j : Nat), .int .i64 ((min (j + 1) 3 : Nat) : Int)]) ?_ rfl ⟨rfl, HR.out.le (Nat.le_refl _)⟩
          simp [results, Tryz.results128, go_sem]
        have gj0 : ¬ (0 : Int) < ((j : Nat) : Int) := by omega
        rw [if_neg (by have := HM.out; omega)] at HF
        obtain ⟨k6, hs6, hk6, _⟩ := HR.out
        have h6 := hled wr k6 hs6
        clear hs6 hled
        go_wp2_with (fail)
        refine h6.mono ?_
        rintro e w6 ⟨rfl, hr6⟩
        have HR6 := Lib.hid (hr6.up hk6)
        clear h6 hr6 gj0
        by_cases hld0 : 0 < ld
        · have hF : q = (ld + r4, ld + r4 + 1) := by rw [HF.out, if_pos hld0]
          subst hF
          have gl : (0 : Int) < (ld : Int) := by omega
          obtain ⟨k7, hs7, hk7, _⟩ := HR6.out
          have h7 := hrunl4 w6 k7 hs7
          clear hs7 hrunl4 hbla hspc
          go_wp2_with (fail)
          refine h7.mono ?_
          rintro e w7 ⟨rfl, hr7⟩
          have HR7 := Lib.hid (hr7.up hk7)
          clear h7 hr7
          go_wp2_with (fail)
          refine bodyPost_ret (v := .tuple #[.int .i64 ((ld + r4 : Nat) : Int), .int .i64 ((ld + r4 + 1 : Nat) : Int)]) ?_ rfl ⟨rfl, HR7.out.le (Nat.le_succ _)⟩
          simp [results, Tryz.results128, go_sem]
        have gl : ¬ (0 : Int) < (ld : Int) := by omega
        rw [if_neg hld0] at HF
        obtain ⟨k7, hs7, hk7, _⟩ := HR6.out
        have h7 := hbla w6 k7 hs7
        clear hs7 hbla hrunl4
        go_wp2_with (fail)
        refine h7.mono ?_
        rintro e w7 ⟨rfl, hr7⟩
        have HR7 := Lib.hid (hr7.up hk7)
        clear h7 hr7 gl
        by_cases hln0 : 0 < ln
        · have hF : q = (ln, sn + 1) := by rw [HF.out, if_pos hln0]
          subst hF
          have gn : (0 : Int) < (ln : Int) := by omega
          clear hspc
          go_wp2_with (fail)
          refine bodyPost_ret (v := .tuple #[.int .i64 (ln : Nat), .int .i64 ((sn + 1 : Nat) : Int)]) ?_ rfl ⟨rfl, HR7.out.le (by show ln ≤ sn + 1; omega)⟩
          simp [results, Tryz.results128, go_sem]
        have gn : ¬ (0 : Int) < (ln : Int) := by omega
        rw [if_neg hln0] at HF
        obtain ⟨k8, hs8, hk8, _⟩ := HR7.out
        have h8 := hspc w7 k8 hs8
        have hF : q = sp := HF.out
        subst hF
        clear hs8 hspc
        go_wp2_with (fail)
        refine h8.mono ?_
        rintro e w8 ⟨rfl, hr8⟩
        have HR8 := Lib.hid (hr8.up hk8)
        clear h8 hr8 gn
        go_wp2_with (fail)
        refine bodyPost_ret (v := .tuple #[.int .i64 (q.1 : Nat), .int .i64 (q.2 : Nat)]) ?_ rfl ⟨rfl, HR8.out⟩
        simp [results, Tryz.results128, go_sem]
end

end Go.Proofs.YtimkkkdabmhedaaGreatDoor
