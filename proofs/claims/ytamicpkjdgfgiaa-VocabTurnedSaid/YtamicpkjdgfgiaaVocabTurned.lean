/- VocabTurned: in which order rows and specials stand plays no part. (Printed by gTurned.py.) -/
import Derived.Test.YtamicpkjdgfgiaaGreatR
import Derived.Test.YtamicpkjdgfgiaaFromV
import Derived.Test.YtamicpkjdgfgiaaLawV
import Derived.Test.YtamicpkjdgfgiaaRows
namespace Go.Proofs.Ytamicpkjdgfgiaa
open Go.RowKit
set_option linter.unusedVariables false

theorem rev_at {α : Type} {L : List α} {k n : Nat} (hl : L.length = n) (h : k < n) {x : α} (hx : L[n - 1 - k]? = some x) : L.reverse.take (k + 1) = L.reverse.take k ++ [x] := by
  rw [List.take_add_one]
  congr 1
  rw [List.getElem?_reverse (by omega), hl, hx]
  rfl
theorem rev_len {α : Type} {L : List α} {k n : Nat} (hl : L.length = n) (h : k ≤ n) : (L.reverse.take k).length = k := by
  rw [List.length_take, List.length_reverse, hl]; omega
theorem rev_all {α : Type} {L : List α} {k n : Nat} (hl : L.length = n) (h : n ≤ k) : L.reverse.take k = L.reverse := by
  rw [List.take_of_length_le (by rw [List.length_reverse]; omega)]

theorem notGreatR {R : List Rw} {S : List Sp} (h : ¬ GreatR R [] S) : R.length ≤ 400 ∧ S.length ≤ 20 := by
  refine ⟨?_, ?_⟩
  · exact Nat.le_of_not_lt fun g => h (.inl g)
  · exact Nat.le_of_not_lt fun g => h (.inr (.inr (.inl g)))

theorem keepW {w0 w w' : World} {p1 p2 p3 p4 p5 p6 : Addr} {v1 v2 v3 v4 v5 v6 : Value} (h : w.cell? p1 = some v1 ∧ w.cell? p2 = some v2 ∧ w.cell? p3 = some v3 ∧ w.cell? p4 = some v4 ∧ w.cell? p5 = some v5 ∧ w.cell? p6 = some v6 ∧ Below w0.heap.size w0 w) (hb : Below w.heap.size w w') :
    w'.cell? p1 = some v1 ∧ w'.cell? p2 = some v2 ∧ w'.cell? p3 = some v3 ∧ w'.cell? p4 = some v4 ∧ w'.cell? p5 = some v5 ∧ w'.cell? p6 = some v6 ∧ Below w0.heap.size w0 w' :=
  ⟨cell_below hb _ _ h.1, cell_below hb _ _ h.2.1, cell_below hb _ _ h.2.2.1, cell_below hb _ _ h.2.2.2.1, cell_below hb _ _ h.2.2.2.2.1, cell_below hb _ _ h.2.2.2.2.2.1, h.2.2.2.2.2.2.trans (hb.mono h.2.2.2.2.2.2.size)⟩

set_option maxHeartbeats 4000000 in
set_option maxRecDepth 100000 in
theorem vocabTurned_walk {R : List Rw} {S : List Sp} {ro so : Option Addr} {rn rc sn sc : Nat} (w : World) (hR : SlF 2 w ro rn rc (flat Rw.enc R)) (hS : SlF 2 w so sn sc (flat Sp.enc S))
    (hrs : ∀ r ∈ R, r.token.size ≤ maxLen) (hss : ∀ s ∈ S, s.name.size ≤ maxLen) :
    Frame.Law Try.prog 5 #[.slice ro rn rc, .slice so sn sc] w := by
  unfold Frame.Law
  have HLR := Lib.hid (hR.count Rw.enc_len (by omega))
  have HLS := Lib.hid (hS.count Sp.enc_len (by omega))
  have HR := Lib.hid hR
  have HS := Lib.hid hS
  have HRS := Lib.hid hrs
  have HSS := Lib.hid hss
  obtain ⟨i0, z0, hi, hz0, hz1, hz2, hz3⟩ := info_row infoRw
  obtain ⟨i1, z1, ki, kz0, kz1, kz2, kz3⟩ := info_row infoSp
  have hgr := lgreat_calls (P := []) (po := none) (pn := 0) (pc := 0) w hR (SlF.nothing w) hS hrs (fun p hp => by simp at hp) hss
  have hm1 := Nat.le_trans hR.le hR.max
  have hm3 := Nat.le_trans hS.le hS.max
  unfold maxLen at hm1 hm3
  clear hR hS hrs hss
  go_enter Try.func5, Try.ntmps5
  go_wp2_with (fail)
  refine hgr.mono ?_
  rintro e w1 ⟨⟨b, rfl, hb⟩, hb1⟩
  have HB1 := Lib.hid hb1
  have HGB := Lib.hid hb
  clear hb1 hb hgr
  cases b with
  | true =>
    go_wp2_with (fail)
    refine (fixed_calls w1).mono ?_
    rintro e w2 ⟨rfl, hb2⟩
    go_wp2_with (fail)
    go_ret
    exact ⟨rfl, HB1.out.trans (hb2.mono HB1.out.size)⟩
  | false =>
    have hng := notGreatR (no_of HGB.out rfl)
    rw [HLR.out, HLS.out] at hng
    obtain ⟨hng1, hng2⟩ := hng
    go_wp2_with (fail)
    go_loopw [5, 19] (fun v i wr => ∃ k : Nat, k ≤ rn ∧ i = .int .i64 k ∧ OwnF Rw.enc 2 32 wr w1.heap.size v (R.reverse.take k) ∧ Below w1.heap.size w1 wr) (fun _ i _ => rn - (intOf i).toNat)
    case atStart => exact ⟨0, Nat.zero_le _, rfl, OwnF.nil _ _, Below.refl _ _⟩
    case round =>
      obtain ⟨k, hk, rfl, ho, hb⟩ := hrel
      have HB := Lib.hid hb
      clear hb
      by_cases hlt : k < rn
      · have hkR : rn - 1 - k < R.length := by have := HLR.out; omega
        obtain ⟨b, of, rfl, hce⟩ := ((HR.out.below HB1.out).below HB.out).elem Rw.enc_len (by omega) (rw_eq hkR)
        have HNX := Lib.hid (rev_at HLR.out hlt (rw_eq hkR))
        have hln := rev_len HLR.out hk
        obtain ⟨Ls, hLs⟩ : ∃ Ls, R.reverse.take k = Ls := ⟨_, rfl⟩
        rw [hLs] at ho hln HNX
        obtain ⟨vo, vc, rfl, _⟩ := ho.sl
        rw [hln] at ho ⊢
        have HLN := Lib.hid hln
        clear hLs hln
        obtain ⟨⟨tn, id⟩, hseq⟩ : ∃ m, rw' R (rn - 1 - k) = m := ⟨_, rfl⟩
        rw [hseq] at hce HNX
        have d0 := hce 0 _ rfl
        have d1 := hce 1 _ rfl
        rw [Nat.add_zero] at d0
        simp only at d0 d1
        have hix : (rn : Int) - 1 - k = ((rn - 1 - k : Nat) : Int) := by omega
        obtain ⟨q, hq⟩ : ∃ q, rn - 1 - k = q := ⟨_, rfl⟩
        rw [hq] at d0 d1 hix
        have hq2 : q < rn := by omega
        clear hce hseq hq hkR
        have HBS := HB.out.size
        have HO3 : Hid (OwnF Rw.enc 2 32 (wr.alloc (.cells #[.string tn, .int .i64 id] 32)) w1.heap.size (.slice vo k vc) Ls) := Lib.hid (ho.alloc _)
        have HS3 : Hid (SlF 2 (wr.alloc (.cells #[.string tn, .int .i64 id] 32)) (some ⟨wr.heap.size, 0, none⟩) 1 1 (flat Rw.enc [⟨tn, id⟩])) := Lib.hid (SlF.one Rw.enc_len wr ⟨tn, id⟩ 32 (cs := #[.string tn, .int .i64 id]) rfl)
        clear ho
        go_wp2_with (at_builtin; go_loud (refine wpList_flat_app rfl _ _ 29 rfl i0 z0 24 Try.underlying29 hi hz0 hz1 hz2 hz3 Rw.enc_len (by omega) Rw.enc_one rfl HO3.out rfl HS3.out (by have := HLN.out; unfold maxLen; omega) (by have := HLN.out; omega) (by simp; omega) ?_))
        intro v' w' ho' hg' hb'
        have HO' := Lib.hid ho'
        have HB' := Lib.hid ((HB.out.alloc HB.out.size _).trans hb')
        clear ho' hg' hb'
        go_wp2_with (fail)
        go_roundw
        case rel => exact ⟨k + 1, by omega, by go_num, by rw [HNX.out]; exact HO'.out, HB'.out⟩
        case measure => simp [intOf]; omega
      · have HAL := Lib.hid (rev_all (k := k) HLR.out (by omega))
        rw [HAL.out] at ho
        obtain ⟨ao, ac, rfl, _⟩ := ho.sl
        have hrl : R.reverse.length = rn := by rw [List.length_reverse]; exact HLR.out
        rw [hrl] at ho ⊢
        have HO := Lib.hid ho
        clear ho HAL
        obtain ⟨wo, rfl⟩ : ∃ wo : World, wo = wr := ⟨_, rfl⟩
        go_wp2_with (fail)
        go_loopw [6, 36] (fun v2 i wr => ∃ k : Nat, k ≤ sn ∧ i = .int .i64 k ∧ OwnF Sp.enc 2 41 wr wo.heap.size v2 (S.reverse.take k) ∧ Below wo.heap.size wo wr) (fun _ i _ => sn - (intOf i).toNat)
        case atStart => exact ⟨0, Nat.zero_le _, rfl, OwnF.nil _ _, Below.refl _ _⟩
        case round =>
          obtain ⟨k2, hk2, rfl, ho, hb⟩ := hrel
          have HB2 := Lib.hid hb
          clear hb
          by_cases hlt2 : k2 < sn
          · have hkS : sn - 1 - k2 < S.length := by have := HLS.out; omega
            obtain ⟨b, of, rfl, hce⟩ := ((HS.out.below HB1.out).below (HB.out.trans (HB2.out.mono HB.out.size))).elem Sp.enc_len (by omega) (sp_eq hkS)
            have HNX := Lib.hid (rev_at HLS.out hlt2 (sp_eq hkS))
            have hln := rev_len HLS.out hk2
            obtain ⟨Ls, hLs⟩ : ∃ Ls, S.reverse.take k2 = Ls := ⟨_, rfl⟩
            rw [hLs] at ho hln HNX
            obtain ⟨vo, vc, rfl, _⟩ := ho.sl
            rw [hln] at ho ⊢
            have HLN := Lib.hid hln
            clear hLs hln
            obtain ⟨⟨tn, id⟩, hseq⟩ : ∃ m, sp S (sn - 1 - k2) = m := ⟨_, rfl⟩
            rw [hseq] at hce HNX
            have d0 := hce 0 _ rfl
            have d1 := hce 1 _ rfl
            rw [Nat.add_zero] at d0
            simp only at d0 d1
            have hix : (sn : Int) - 1 - k2 = ((sn - 1 - k2 : Nat) : Int) := by omega
            obtain ⟨q, hq⟩ : ∃ q, sn - 1 - k2 = q := ⟨_, rfl⟩
            rw [hq] at d0 d1 hix
            have hq2 : q < sn := by omega
            clear hce hseq hq hkS
            have HBS := HB2.out.size
            have HO3 : Hid (OwnF Sp.enc 2 41 (wr.alloc (.cells #[.string tn, .int .i64 id] 41)) wo.heap.size (.slice vo k2 vc) Ls) := Lib.hid (ho.alloc _)
            have HS3 : Hid (SlF 2 (wr.alloc (.cells #[.string tn, .int .i64 id] 41)) (some ⟨wr.heap.size, 0, none⟩) 1 1 (flat Sp.enc [⟨tn, id⟩])) := Lib.hid (SlF.one Sp.enc_len wr ⟨tn, id⟩ 41 (cs := #[.string tn, .int .i64 id]) rfl)
            clear ho
            go_wp2_with (at_builtin; go_loud (refine wpList_flat_app rfl _ _ 24 rfl i1 z1 24 Try.underlying24 ki kz0 kz1 kz2 kz3 Sp.enc_len (by omega) Sp.enc_one rfl HO3.out rfl HS3.out (by have := HLN.out; unfold maxLen; omega) (by have := HLN.out; omega) (by simp; omega) ?_))
            intro v' w' ho' hg' hb'
            have HO' := Lib.hid ho'
            have HB' := Lib.hid ((HB2.out.alloc HB2.out.size _).trans hb')
            clear ho' hg' hb'
            go_wp2_with (fail)
            go_roundw
            case rel => exact ⟨k2 + 1, by omega, by go_num, by rw [HNX.out]; exact HO'.out, HB'.out⟩
            case measure => simp [intOf]; omega
          · have HAL := Lib.hid (rev_all (k := k2) HLS.out (by omega))
            rw [HAL.out] at ho
            obtain ⟨bo, bc, rfl, _⟩ := ho.sl
            have hsl : S.reverse.length = sn := by rw [List.length_reverse]; exact HLS.out
            rw [hsl] at ho ⊢
            have HOB := Lib.hid ho
            have HOA := Lib.hid (HO.out.below HB2.out)
            clear ho HAL
            obtain ⟨w2, rfl⟩ : ∃ w2 : World, w2 = wr := ⟨_, rfl⟩
            have HBW : Hid (Below w.heap.size w w2) := Lib.hid (HB1.out.trans ((HB.out.trans (HB2.out.mono HB.out.size)).mono HB1.out.size))
            have hfr := fromRows_val (R := R) (S := S) w2 (HR.out.below HBW.out) (HS.out.below HBW.out) HRS.out HSS.out hng2
            go_wp2_with (fail)
            refine hfr.mono ?_
            rintro e w3 ⟨⟨⟨ta, tn, tc, ma, mn, mc, sa, sn1, sc1⟩, rfl, hv⟩, hb3⟩
            obtain ⟨VV, hVV⟩ : ∃ VV, fV R S = VV := ⟨_, rfl⟩
            obtain ⟨cc, hcc⟩ : ∃ cc, fC R S = cc := ⟨_, rfl⟩
            have HE1 : Hid (fV R.reverse S.reverse = VV) := Lib.hid (by rw [← hVV]; exact fV_perm (List.reverse_perm R).symm (List.reverse_perm S).symm)
            have HE2 : Hid (fC R.reverse S.reverse = cc) := Lib.hid (by rw [← hcc]; exact fC_perm (List.reverse_perm R).symm (List.reverse_perm S).symm)
            rw [hVV] at hv
            rw [hcc]
            obtain ⟨w4, hw4⟩ : ∃ w4, w3.alloc (.cells #[.slice ta tn tc, .slice ma mn mc, .slice sa sn1 sc1] 26) = w4 := ⟨_, rfl⟩
            have hb4 : Below w3.heap.size w3 w4 := hw4 ▸ below_alloc w3 _
            have hx4 : w4.heap[w3.heap.size]? = some (.cells #[.slice ta tn tc, .slice ma mn mc, .slice sa sn1 sc1] 26) := by rw [← hw4]; exact heap_alloc_new w3 _
            have hs4 : w3.heap.size < w4.heap.size := by rw [← hw4]; simp
            have HB4 : Hid (Below w2.heap.size w2 w4) := Lib.hid (hb3.trans (hb4.mono hb3.size))
            have HV4 := Lib.hid (hv.below hb4)
            have HX4 := Lib.hid hx4
            have HW4 := Lib.hid hw4
            have hA := ((OwnF.below HOA.out HB4.out)).sl
            obtain ⟨ao', ac', ea, hA⟩ := hA
            rw [hrl] at ea hA
            simp only [Value.slice.injEq, true_and] at ea
            obtain ⟨rfl, rfl⟩ := ea
            have hBx := ((OwnF.below HOB.out HB4.out)).sl
            obtain ⟨bo', bc', eb, hBx⟩ := hBx
            rw [hsl] at eb hBx
            simp only [Value.slice.injEq, true_and] at eb
            obtain ⟨rfl, rfl⟩ := eb
            have hfr2 := fromRows_val (R := R.reverse) (S := S.reverse) w4 hA hBx (fun r hr => HRS.out r (List.mem_reverse.1 hr)) (rev_sized HSS.out) hng2
            clear hfr hb3 hb4 hx4 hw4 hv hVV hcc hA hBx
            go_wp2_with (fail)
            rw [HW4.out]
            refine hfr2.mono ?_
            rintro e w5 ⟨⟨⟨ta2, tn2, tc2, ma2, mn2, mc2, sa2, sn2, sc2⟩, rfl, hv⟩, hb5⟩
            rw [HE1.out] at hv
            rw [HE2.out]
            obtain ⟨w6, hw6⟩ : ∃ w6, w5.alloc (.cells #[.slice ta2 tn2 tc2, .slice ma2 mn2 mc2, .slice sa2 sn2 sc2] 26) = w6 := ⟨_, rfl⟩
            have hb6 : Below w5.heap.size w5 w6 := hw6 ▸ below_alloc w5 _
            have hx6 : w6.heap[w5.heap.size]? = some (.cells #[.slice ta2 tn2 tc2, .slice ma2 mn2 mc2, .slice sa2 sn2 sc2] 26) := by rw [← hw6]; exact heap_alloc_new w5 _
            have hbb : Below w4.heap.size w4 w6 := hb5.trans (hb6.mono hb5.size)
            have HV1 := Lib.hid (HV4.out.below hbb)
            have HV2 := Lib.hid (hv.below hb6)
            obtain ⟨c0, c1, c2⟩ := box3v ((hbb.block w3.heap.size hs4).trans HX4.out)
            obtain ⟨e0, e1, e2⟩ := box3v hx6
            have HB6 : Hid (Below w.heap.size w w6) := Lib.hid ((HBW.out.trans (HB4.out.mono HBW.out.size)).trans (hbb.mono (Nat.le_trans HBW.out.size HB4.out.size)))
            have HW6 := Lib.hid hw6
            have hee : (cc == cc) = true := by simp
            have hsame := fun w' (hb : Below w6.heap.size w6 w') => sameV_true w' (HV1.out.below hb) (HV2.out.below hb)
            have hun : undef = Value.tuple #[] := rfl
            clear hfr2 hb5 hb6 hx6 hbb hv hw6
            go_wp2_with (fail)
            rw [HW6.out]
            refine (fixed_calls w6).mono ?_
            rintro e w7 ⟨rfl, hb7⟩
            obtain ⟨c0, c1, c2⟩ : _ ∧ _ ∧ _ := ⟨cell_below hb7 _ _ c0, cell_below hb7 _ _ c1, cell_below hb7 _ _ c2⟩
            obtain ⟨e0, e1, e2⟩ : _ ∧ _ ∧ _ := ⟨cell_below hb7 _ _ e0, cell_below hb7 _ _ e1, cell_below hb7 _ _ e2⟩
            have HB7 := Lib.hid hb7
            clear hb7
            go_wp2_with (fail)
            refine (hsame w7 HB7.out).mono ?_
            rintro e w8 ⟨rfl, hb8⟩
            go_wp2_with (fail)
            go_ret
            exact ⟨rfl, HB6.out.trans ((HB7.out.trans (hb8.mono HB7.out.size)).mono HB6.out.size)⟩

set_option maxRecDepth 100000 in
theorem vocabTurned_law (W : World) (base : Nat) {H : Type} {enc : TypeId × Value → H} (args : Array Value) (ds : List (DataW H)) (p : List MemPlace)
    (hval : ∀ (j : Nat) t v, Try.f5.params[j]? = some t → args[j]? = some v → Value.okWide Try.prog W .any base t v)
    (hA : DataW.TrodAll enc Try.prog W 0 (fun _ => true) true Try.f5.params.toList args.toList ds p) :
    Frame.Law Try.prog 5 args W := by
  rw [Try.params5] at hA hval
  obtain ⟨v0, v1, d0, d1, p0, p1, rfl, rfl, rfl, h0, h1⟩ := Go.ChangeShapes.trodAll_two hA
  obtain ⟨ro, rn, rc, R, rfl, hR, hrs⟩ := rws_open (hval 0 29 v0 rfl rfl) h0
  obtain ⟨so, sn, sc, S, rfl, hS, hss⟩ := sps_open (hval 1 24 v1 rfl rfl) h1
  exact vocabTurned_walk W hR hS hrs hss

set_option maxRecDepth 100000 in
theorem vocabTurned_lifted (os : Os) (started : os.Started) (H : Type) (enc : TypeId × Value → H) :
    ReturnsInHanded {} Try.checked os 5 .any (Rows.vocabTurnedSpec.pre6 enc Try.prog Try.f5 Rows.vocabTurnedRow.domain false) (Rows.vocabTurnedSpec.post enc Try.prog Try.f5 false true false false) :=
  Frame.law_lift (C := Try.checked) (fn := Try.f5) own started (by kernel_rfl) Try.func5 laidOut (by decide +kernel) rfl Try.underlying4 rfl
    (fun ds h => by match ds, h with | [d1, d2], _ => rfl)
    (ChangeSpec.witness6 (enc := enc) (C := Try.checked) false ⟨#[], #[.slice none 0 0, .slice none 0 0], []⟩ 8 (by kernel_rfl) (by kernel_rfl) (by kernel_rfl) (by kernel_rfl))
    (fun W base args ds p hval hA => vocabTurned_law W base args ds p hval hA)

theorem vocabTurned_holds : Rows.VocabTurnedSaid :=
  OpenClaim.holds_of_wide 5 Try.f5 rfl rfl rfl rfl rfl rfl rfl ⟨rfl, rfl, rfl, rfl, rfl⟩ rfl rfl rfl rfl rfl (by kernel_rfl) Try.func5 (by kernel_rfl)
    (of_decide_eq_true (by kernel_rfl)) (by unfold Func.isWrapper; rw [if_neg (of_decide_eq_false (by kernel_rfl))]; exact ⟨rfl, rfl⟩)
    (fun os started H enc _ => vocabTurned_lifted os started H enc)

#print axioms vocabTurned_holds
end Go.Proofs.Ytamicpkjdgfgiaa
