/- Walk: vocab.FromRows. -/
import Derived.Test.YteoncpkfinheoaaWhole
import Derived.Test.YteoncpkfinheoaaToks
import Derived.Test.YteoncpkfinheoaaFromP
namespace Go.Proofs.Yteoncpkfinheoaa
open Go.RowKit
set_option linter.unusedVariables false

theorem ownT_slice {w : World} {base : Nat} {v : Value} {T : List ByteArray} (h : OwnT w base v T) : ∃ ao cap, v = .slice ao T.length cap ∧ SlS w ao T.length cap T := Sl.of_own h

def FromPost (R : List Rw) (S : List Sp) (w : World) (e : Ending) (w' : World) : Prop :=
  (((OkRows R S ∧ May (vocOf R S)) ∧ ∃ d : Vd, e = .returned (.tuple #[d.val, .int .i64 0]) ∧ VocR w' d (vocOf R S)) ∨ (¬ (OkRows R S ∧ May (vocOf R S)) ∧ e = .returned (.tuple #[noVd.val, .int .i64 2]))) ∧ Below w.heap.size w w'

set_option maxHeartbeats 4000000 in
set_option maxRecDepth 100000 in
theorem fromRows_calls {R : List Rw} {S : List Sp} {ro so : Option Addr} {rn rc sn sc : Nat} (w : World) (hR : SlF 2 w ro rn rc (flat Rw.enc R)) (hS : SlF 2 w so sn sc (flat Sp.enc S))
    (hrs : ∀ r ∈ R, r.token.size ≤ maxLen) (hss : Sized S) (hsn : sn ≤ 20) :
    Calls Try.prog 7 #[.slice ro rn rc, .slice so sn sc] w (FromPost R S w) := by
  obtain ⟨w0, hw0⟩ : ∃ w0, w.alloc (.cells #[.slice none 0 0, .slice none 0 0, .slice none 0 0] 31) = w0 := ⟨_, rfl⟩
  have hb0 : Below w.heap.size w w0 := hw0 ▸ below_alloc w _
  have hx0 : w0.heap[w.heap.size]? = some (.cells #[.slice none 0 0, .slice none 0 0, .slice none 0 0] 31) := by rw [← hw0]; exact heap_alloc_new w _
  have hs0 : w.heap.size < w0.heap.size := by rw [← hw0]; simp
  have htoks := tokens_calls w0 (hR.below hb0) (hS.below hb0)
  have HS := Lib.hid hS
  have HX0 := Lib.hid hx0
  have HB0 := Lib.hid hb0
  have HW0 := Lib.hid hw0
  have HSZ : Hid (∀ s ∈ toksOf R S, s.size ≤ maxLen) := Lib.hid (toks_sized hrs)
  have HSS := Lib.hid hss
  obtain ⟨i0, z0, hi, hz0, hz1, hz2, hz3⟩ := info_row infoMg
  clear hb0 hx0 hw0 hrs hss hS hR
  obtain ⟨T, hT⟩ : ∃ T, toksOf R S = T := ⟨_, rfl⟩
  have HTE := Lib.hid hT
  rw [hT] at HSZ
  clear hT
  go_enter Try.func7, Try.ntmps7
  go_wp2_with (fail)
  rw [HW0.out]
  refine htoks.mono ?_
  rintro e w1 ⟨⟨hok, v, rfl, ho1⟩ | ⟨hno, rfl⟩, hb1⟩
  · rw [HTE.out] at ho1
    obtain ⟨ao, cap, rfl, hsl⟩ := ownT_slice ho1
    obtain ⟨n, hn⟩ : ∃ n, T.length = n := ⟨_, rfl⟩
    rw [hn] at hsl ⊢
    have HN := Lib.hid hn
    have HSL := Lib.hid hsl
    have HB1 := Lib.hid hb1
    have HOKR := Lib.hid hok
    have HOT := Lib.hid ho1
    clear hn hsl hb1 hok ho1 htoks
    go_wp2_with (fail)
    refine (mayTokens_calls w1 HSL.out HSZ.out).mono ?_
    rintro e w2 ⟨⟨b, rfl, hi2⟩, hb2⟩
    have HB2 := Lib.hid (HB1.out.trans (hb2.mono HB1.out.size))
    have HI2 := Lib.hid hi2
    have HSL2 := Lib.hid (Sl.below HSL.out hb2)
    have HOT2 := Lib.hid (OwnT.below HOT.out hb2)
    clear hi2 hb2
    cases b with
    | false =>
      have HF : Hid (¬ (OkRows R S ∧ May (vocOf R S))) := Lib.hid (fun h => by
        have h2 := h.2.1
        have h3 := HI2.out.2 (by rw [← HTE.out]; exact h2)
        cases h3)
      have hx2 : w2.heap[w.heap.size]? = some (.cells #[.slice none 0 0, .slice none 0 0, .slice none 0 0] 31) := (HB2.out.block w.heap.size hs0).trans HX0.out
      obtain ⟨c0, c1, c2⟩ := box3v hx2
      have f0 := boxf hx2
      have hs2 := (Array.getElem?_eq_some_iff.1 hx2).1
      clear hx2
      go_wp2_with (fail)
      refine bodyPost_ret (v := .tuple #[noVd.val, .int .i64 2]) ?_ rfl ⟨.inr ⟨HF.out, rfl⟩, ?_⟩
      · simp [results, Try.results7, go_sem, c0, c1, c2, noVd]
      · exact (((HB0.out.trans (HB2.out.mono HB0.out.size)).setCell (Nat.le_refl _) _).setCell (Nat.le_refl _) _).setCell (Nat.le_refl _) _
    | true =>
      have hmt := HI2.out.1 rfl
      have HMT := Lib.hid hmt
      have hn4 : n ≤ 4096 := by rw [← HN.out]; exact hmt.1
      have H64 := Lib.hid hmt.2.1
      clear hmt
      go_wp2_with (fail)
      refine (places_calls w2 HSL2.out HSZ.out (by omega)).mono ?_
      rintro e w3 ⟨⟨_, mb, sz, f, rfl, hmb, hms, hpr⟩ | ⟨hnu, _⟩, hb3⟩
      · have HMS := Lib.hid hms
        have HFF : Hid (∀ s, f s = if 0 ≤ ofT T s then some (ofT T s) else none) := Lib.hid (fun s => hpr.of rfl HMT.out.2.2.1 s)
        have HB3 := Lib.hid (HB2.out.trans (hb3.mono HB2.out.size))
        have HSL3 := Lib.hid (Sl.below HSL2.out hb3)
        have HOT3 := Lib.hid (OwnT.below HOT2.out hb3)
        clear hms hpr hb3 hmb
        go_wp2_with (fail)
        go_loopw [10, 39] (fun v i wr => ∃ k : Nat, k ≤ n ∧ i = .int .i64 k ∧ OwnF Mg.enc 4 51 wr w3.heap.size v (mergesTo T k) ∧ Below w3.heap.size w3 wr) (fun _ i _ => n - (intOf i).toNat)
        case atStart => exact ⟨0, Nat.zero_le _, rfl, OwnF.nil _ _, Below.refl _ _⟩
        case round =>
          obtain ⟨k, hk, rfl, ho, hb⟩ := hrel
          have HO := Lib.hid ho
          have HB := Lib.hid hb
          clear hb ho
          by_cases hlt : k < n
          · have hkT : k < T.length := by have := HN.out; omega
            obtain ⟨b, o, rfl, hc⟩ := SlS.cell (Sl.below HSL3.out HB.out) (tk_eq hkT)
            have hks := H64.out _ (tk_mem hkT)
            obtain ⟨s, hs⟩ : ∃ s, tk T k = s := ⟨_, rfl⟩
            rw [hs] at hc hks
            have HSE := Lib.hid hs
            clear hs
            obtain ⟨wo, rfl⟩ : ∃ wo : World, wo = wr := ⟨_, rfl⟩
            go_wp2_with (fail)
            go_loopw [10, 13] (fun v i wx => ∃ j : Nat, 1 ≤ j ∧ (j ≤ s.size ∨ j = 1) ∧ i = .int .i64 j ∧ OwnF Mg.enc 4 51 wx w3.heap.size v (mergesTo T k ++ cutsTo T k (j - 1)) ∧ Below w3.heap.size w3 wx) (fun _ i _ => s.size - (intOf i).toNat)
            case atStart => exact ⟨1, Nat.le_refl _, .inr rfl, rfl, by simpa [cutsTo_zero] using HO.out, HB.out⟩
            case round =>
              obtain ⟨j, hj1, hj, rfl, ho2, hb2⟩ := hrel
              have HO2 := Lib.hid ho2
              have HBX := Lib.hid hb2
              clear ho2 hb2
              by_cases hlt2 : j < s.size
              · have HMX : Hid (MapS wr mb sz f) := Lib.hid (HMS.out.stay (HBX.out.block mb HMS.out.lt))
                have hy1 : (s.extract 0 j).size ≤ maxLen := by rw [ByteArray.size_extract]; unfold maxLen; omega
                have hy2 : (s.extract j s.size).size ≤ maxLen := by rw [ByteArray.size_extract]; unfold maxLen; omega
                obtain ⟨a1, ha1⟩ : ∃ a1, ofT T (s.extract 0 j) = a1 := ⟨_, rfl⟩
                obtain ⟨a2, ha2⟩ : ∃ a2, ofT T (s.extract j s.size) = a2 := ⟨_, rfl⟩
                have h1 := HFF.out (s.extract 0 j)
                have h2 := HFF.out (s.extract j s.size)
                rw [ha1] at h1
                rw [ha2] at h2
                have HC : Hid (cutAt T k (j - 1) = if 0 ≤ a1 ∧ 0 ≤ a2 then some ⟨a1, a2, k, k⟩ else none) := Lib.hid (by
                  unfold cutAt
                  rw [HSE.out, show j - 1 + 1 = j by omega, ha1, ha2])
                have HJ : Hid (j - 1 + 1 = j + 1 - 1) := Lib.hid (by omega)
                clear ha1 ha2
                by_cases h0 : 0 ≤ a1 ∧ 0 ≤ a2
                · rw [if_pos h0.1] at h1
                  rw [if_pos h0.2] at h2
                  have HC2 := HC.out
                  rw [if_pos h0] at HC2
                  have HCC := Lib.hid (cutsTo_some HC2)
                  rw [HJ.out] at HCC
                  clear HC2 h0
                  have hL : (mergesTo T k ++ cutsTo T k (j - 1)).length ≤ 300000 := by
                    rw [List.length_append]
                    have q1 := mergesTo_len H64.out (k := k) (by omega)
                    have q2 := cutsTo_len T k (j - 1)
                    omega
                  have hO2 := HO2.out
                  obtain ⟨Ls, hLs⟩ : ∃ Ls, mergesTo T k ++ cutsTo T k (j - 1) = Ls := ⟨_, rfl⟩
                  rw [hLs] at hO2 hL
                  have HLS := Lib.hid hLs
                  clear hLs
                  obtain ⟨vo, vc, rfl, _⟩ := hO2.sl
                  obtain ⟨ln, hln⟩ : ∃ ln, Ls.length = ln := ⟨_, rfl⟩
                  rw [hln] at hL hO2 ⊢
                  have HLN := Lib.hid hln
                  have HBS := HBX.out.size
                  have ho3 : Hid (OwnF Mg.enc 4 51 (wr.alloc (.cells #[.int .i64 a1, .int .i64 a2, .int .i64 (k : Int), .int .i64 (k : Int)] 51)) w3.heap.size (.slice vo ln vc) Ls) := Lib.hid (hO2.alloc _)
                  have hs3 : Hid (SlF 4 (wr.alloc (.cells #[.int .i64 a1, .int .i64 a2, .int .i64 (k : Int), .int .i64 (k : Int)] 51)) (some ⟨wr.heap.size, 0, none⟩) 1 1 (flat Mg.enc [⟨a1, a2, k, k⟩])) := Lib.hid (SlF.one Mg.enc_len wr _ _ rfl)
                  clear hO2 hln
                  go_wp2_with (first
                    | (with_reducible show wpList _ _ _ (⟨_, .lookup _ _ _ _, _, _, _, _⟩ :: _) _ _; refine wpList_ms_ok rfl _ _ rfl rfl HMX.out rfl (by assumption) ?_; first | rw [h1] | rw [h2])
                    | (at_builtin; refine wpList_flat_app rfl _ _ 29 rfl i0 z0 32 Try.underlying29 hi hz0 hz1 hz2 hz3 Mg.enc_len (by omega) Mg.enc_one rfl ho3.out rfl hs3.out (by have := HLN.out; unfold maxLen; omega) (by have := HLN.out; omega) (by simp; omega) ?_))
                  intro v' w' ho' hg' hb'
                  have HO' := Lib.hid ho'
                  have HB' := Lib.hid ((HBX.out.alloc HBX.out.size _).trans hb')
                  clear ho' hg' hb'
                  go_wp2_with (fail)
                  go_roundw
                  case rel => exact ⟨j + 1, by omega, .inl (by omega), by go_num, by rw [HCC.out, ← List.append_assoc, HLS.out]; exact HO'.out, HB'.out⟩
                  case measure => simp [intOf]; omega
                · have HC2 := HC.out
                  rw [if_neg h0] at HC2
                  have HCC := Lib.hid (cutsTo_none HC2)
                  rw [HJ.out] at HCC
                  clear HC2
                  by_cases h0a : 0 ≤ a1
                  · rw [if_pos h0a] at h1
                    rw [if_neg (fun h => h0 ⟨h0a, h⟩)] at h2
                    clear h0 h0a
                    go_wp2_with (with_reducible show wpList _ _ _ (⟨_, .lookup _ _ _ _, _, _, _, _⟩ :: _) _ _; refine wpList_ms_ok rfl _ _ rfl rfl HMX.out rfl (by assumption) ?_; first | rw [h1] | rw [h2])
                    go_roundw
                    case rel => exact ⟨j + 1, by omega, .inl (by omega), by go_num, by rw [HCC.out]; exact HO2.out, HBX.out⟩
                    case measure => simp [intOf]; omega
                  · rw [if_neg h0a] at h1
                    clear h0 h0a
                    by_cases h0b : 0 ≤ a2
                    · rw [if_pos h0b] at h2
                      go_wp2_with (with_reducible show wpList _ _ _ (⟨_, .lookup _ _ _ _, _, _, _, _⟩ :: _) _ _; refine wpList_ms_ok rfl _ _ rfl rfl HMX.out rfl (by assumption) ?_; first | rw [h1] | rw [h2])
                      go_roundw
                      case rel => exact ⟨j + 1, by omega, .inl (by omega), by go_num, by rw [HCC.out]; exact HO2.out, HBX.out⟩
                      case measure => simp [intOf]; omega
                    · rw [if_neg h0b] at h2
                      go_wp2_with (with_reducible show wpList _ _ _ (⟨_, .lookup _ _ _ _, _, _, _, _⟩ :: _) _ _; refine wpList_ms_ok rfl _ _ rfl rfl HMX.out rfl (by assumption) ?_; first | rw [h1] | rw [h2])
                      go_roundw
                      case rel => exact ⟨j + 1, by omega, .inl (by omega), by go_num, by rw [HCC.out]; exact HO2.out, HBX.out⟩
                      case measure => simp [intOf]; omega
              · have HEQ : Hid (mergesTo T (k + 1) = mergesTo T k ++ cutsTo T k (j - 1)) := Lib.hid (by
                  rw [mergesTo_succ, cutsOf_eq, HSE.out, show s.size - 1 = j - 1 by omega])
                go_wp2_with (fail)
                go_roundw
                case rel => exact ⟨k + 1, by omega, by go_num, by rw [HEQ.out]; exact HO2.out, HBX.out⟩
                case measure => simp [intOf]; omega
          · obtain rfl : k = n := by omega
            have hN : Hid (k = T.length) := Lib.hid HN.out.symm
            obtain ⟨mo, mc, rfl, _⟩ := HO.out.sl
            have hml : (mergesTo T k).length ≤ 300000 := by
              have q1 := mergesTo_len H64.out (k := k) (by have := hN.out; omega)
              omega
            have HSW : Hid (SlF 2 wr so sn sc (flat Sp.enc S)) := Lib.hid (HS.out.below ((HB0.out.trans (HB3.out.mono HB0.out.size)).trans (HB.out.mono (Nat.le_trans HB0.out.size HB3.out.size))))
            have hgw : w.heap.size < w3.heap.size := Nat.lt_of_lt_of_le hs0 HB3.out.size
            have hwh := whole_calls (T := T) (M := mergesTo T k) (S := S) (ta := ao) (tn := k) (tc := cap) (base := w3.heap.size) (g := w.heap.size) wr HB.out.size hgw (fun w' hq => by
              obtain ⟨a', c', e', h'⟩ := ownT_slice (own_stay HOT3.out (w' := w') (fun q h => by
                have h1 := World.ownsRow.lt HOT3.out q h
                exact (hq q h1.2 (by omega)).trans (HB.out.block q h1.2)))
              simp only [Value.slice.injEq] at e'
              obtain ⟨rfl, _, rfl⟩ := e'
              rw [hN.out]
              exact h') HO.out HSW.out HSZ.out (by omega) HSS.out hsn
            go_wp2_with (fail)
            refine hwh.mono ?_
            have HVE : Hid (vocOf R S = ⟨T, sortMg (mergesTo T k), sortSp S⟩) := Lib.hid (by
              unfold vocOf
              rw [HTE.out, hN.out, mergesTo_all])
            rintro e w5 ⟨⟨hm, ⟨ta, tn, tc, ma, mn, mcc, sa, sn', sc'⟩, rfl, hv⟩ | ⟨hno, rfl⟩, hb5⟩
            · have HB5 : Hid (Below w.heap.size w w5) := Lib.hid ((HB0.out.trans (HB3.out.mono HB0.out.size)).trans ((HB.out.trans hb5).mono (Nat.le_trans HB0.out.size HB3.out.size)))
              have hx5 : w5.heap[w.heap.size]? = some (.cells #[.slice none 0 0, .slice none 0 0, .slice none 0 0] 31) := by
                rw [(HB.out.trans hb5).block w.heap.size hgw, HB3.out.block w.heap.size hs0]
                exact HX0.out
              obtain ⟨c0, c1, c2⟩ := box3v hx5
              have f0 := boxf hx5
              have hs5 := (Array.getElem?_eq_some_iff.1 hx5).1
              have HM := Lib.hid hm
              have HV := Lib.hid hv
              clear hx5 hm hv hb5 hwh
              go_wp2_with (fail)
              refine bodyPost_ret (v := .tuple #[Vd.val ⟨ta, tn, tc, ma, mn, mcc, sa, sn', sc'⟩, .int .i64 0]) ?_ rfl ⟨.inl ⟨⟨HOKR.out, by rw [HVE.out]; exact HM.out⟩, ⟨ta, tn, tc, ma, mn, mcc, sa, sn', sc'⟩, rfl, by rw [HVE.out]; exact HV.out _ (fun q h => heap_set3 _ _ _ _ _ h)⟩, ?_⟩
              · simp [results, Try.results7, go_sem, c0, c1, c2]
              · exact ((HB5.out.setCell (Nat.le_refl _) _).setCell (Nat.le_refl _) _).setCell (Nat.le_refl _) _
            · have HB5 : Hid (Below w.heap.size w w5) := Lib.hid ((HB0.out.trans (HB3.out.mono HB0.out.size)).trans ((HB.out.trans hb5).mono (Nat.le_trans HB0.out.size HB3.out.size)))
              have hx5 : w5.heap[w.heap.size]? = some (.cells #[.slice none 0 0, .slice none 0 0, .slice none 0 0] 31) := by
                rw [(HB.out.trans hb5).block w.heap.size hgw, HB3.out.block w.heap.size hs0]
                exact HX0.out
              obtain ⟨c0, c1, c2⟩ := box3v hx5
              have f0 := boxf hx5
              have hs5 := (Array.getElem?_eq_some_iff.1 hx5).1
              have HNO := Lib.hid hno
              clear hx5 hno hb5 hwh
              simp only [noVd]
              go_wp2_with (fail)
              refine bodyPost_ret (v := .tuple #[noVd.val, .int .i64 2]) ?_ rfl ⟨.inr ⟨fun h => HNO.out (by rw [← HVE.out]; exact h.2), rfl⟩, ?_⟩
              · simp [results, Try.results7, go_sem, c0, c1, c2, noVd]
              · exact ((HB5.out.setCell (Nat.le_refl _) _).setCell (Nat.le_refl _) _).setCell (Nat.le_refl _) _
      · exact absurd HMT.out.2.2.1 hnu
  · have HF : Hid (¬ (OkRows R S ∧ May (vocOf R S))) := Lib.hid (fun h => hno h.1)
    have hx2 : w1.heap[w.heap.size]? = some (.cells #[.slice none 0 0, .slice none 0 0, .slice none 0 0] 31) := (hb1.block w.heap.size hs0).trans HX0.out
    obtain ⟨c0, c1, c2⟩ := box3v hx2
    have f0 := boxf hx2
    have hs2 := (Array.getElem?_eq_some_iff.1 hx2).1
    have HB1 := Lib.hid hb1
    clear hx2 hb1 htoks hno
    go_wp2_with (fail)
    refine bodyPost_ret (v := .tuple #[noVd.val, .int .i64 2]) ?_ rfl ⟨.inr ⟨HF.out, rfl⟩, ?_⟩
    · simp [results, Try.results7, go_sem, c0, c1, c2, noVd]
    · exact (((HB0.out.trans (HB1.out.mono HB0.out.size)).setCell (Nat.le_refl _) _).setCell (Nat.le_refl _) _).setCell (Nat.le_refl _) _

end Go.Proofs.Yteoncpkfinheoaa
