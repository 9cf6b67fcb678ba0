/- Walks: the law's rows of bytes; the chapter's example. -/
import Derived.Test.YteoncpkfinheoaaFrom
import Derived.Test.YteoncpkfinheoaaFixP
import Derived.Test.YteoncpkfinheoaaSameV
namespace Go.Proofs.Yteoncpkfinheoaa
open Go.RowKit
set_option linter.unusedVariables false

theorem infoRw : (Try.prog.info? 27).map (fun i => (i.zero.map (·.cells.size), i.size, i.bytes)) = some (some 2, 2, 24) := by kernel_rfl
theorem Rw.enc_one (x : Rw) : ∀ v ∈ x.enc, v.oneCell' = true := by
  intro v hv
  simp [Rw.enc] at hv
  rcases hv with rfl | rfl <;> rfl

set_option maxHeartbeats 1000000 in
set_option maxRecDepth 100000 in
theorem bytes_calls (w : World) :
    Calls Try.prog 12 #[] w fun e w' => ∃ ao c, e = .returned (.slice ao 256 c) ∧ OwnF Rw.enc 2 27 w' w.heap.size (.slice ao 256 c) (rowsN 256) ∧ Below w.heap.size w w' := by
  obtain ⟨i0, z0, hi, hz0, hz1, hz2, hz3⟩ := info_row infoRw
  go_enter Try.func12, Try.ntmps12
  go_wp2_with (fail)
  go_loopw [1, 3] (fun v i wr => ∃ k : Nat, k ≤ 256 ∧ i = .int .i64 k ∧ OwnF Rw.enc 2 27 wr w.heap.size v (rowsN k) ∧ Below w.heap.size w wr) (fun _ i _ => 256 - (intOf i).toNat)
  case atStart => exact ⟨0, by omega, rfl, OwnF.nil _ _, Below.refl _ _⟩
  case round =>
    obtain ⟨k, hk, rfl, ho, hb⟩ := hrel
    by_cases hlt : k < 256
    · have hw8 : IntKind.u8.wrap (k : Int) = (k : Int) := by rw [IntKind.wrap_u8]; omega
      have hcv := conv_one wr k
      have hln := rowsN_len k
      obtain ⟨Ls, hLs⟩ : ∃ Ls, rowsN k = Ls := ⟨_, rfl⟩
      rw [hLs] at ho hln
      have HLS := Lib.hid hLs
      obtain ⟨vo, vc, rfl, _⟩ := ho.sl
      have HLN := Lib.hid hln
      rw [hln] at ho ⊢
      have HBS := hb.size
      have HO3 : Hid (OwnF Rw.enc 2 27 ((wr.alloc (.cells #[.int .u8 (k : Int)] 5)).alloc (.cells #[.string (one k), .int .i64 (k : Int)] 27)) w.heap.size (.slice vo k vc) Ls) := Lib.hid ((ho.alloc _).alloc _)
      have HS3 : Hid (SlF 2 ((wr.alloc (.cells #[.int .u8 (k : Int)] 5)).alloc (.cells #[.string (one k), .int .i64 (k : Int)] 27)) (some ⟨wr.heap.size + 1, 0, none⟩) 1 1 (flat Rw.enc [⟨one k, k⟩])) := Lib.hid (by
        have := SlF.one Rw.enc_len (wr.alloc (.cells #[.int .u8 (k : Int)] 5)) ⟨one k, k⟩ 27 (cs := #[.string (one k), .int .i64 (k : Int)]) rfl
        simpa using this)
      have HB := Lib.hid hb
      clear ho hb hln hLs
      go_wp2_with (at_builtin; go_loud (refine wpList_flat_app rfl _ _ 22 rfl i0 z0 24 Try.underlying22 hi hz0 hz1 hz2 hz3 Rw.enc_len (by omega) Rw.enc_one rfl HO3.out rfl HS3.out (by have := HLN.out; unfold maxLen; omega) (by have := HLN.out; omega) (by simp; omega) ?_))
      intro v' w' ho' hg' hb'
      have HO' := Lib.hid ho'
      have HB' := Lib.hid (((HB.out.alloc HB.out.size _).alloc (by simp; omega) _).trans hb')
      clear ho' hg' hb'
      go_wp2_with (fail)
      go_roundw
      case rel => exact ⟨k + 1, by omega, by go_num, by rw [rowsN_succ, HLS.out]; exact HO'.out, HB'.out⟩
      case measure => simp [intOf]; omega
    · have HK : Hid (k = 256) := Lib.hid (by omega)
      have hln := rowsN_len k
      obtain ⟨Ls, hLs⟩ : ∃ Ls, rowsN k = Ls := ⟨_, rfl⟩
      rw [hLs] at ho hln
      have HLS := Lib.hid hLs
      obtain ⟨vo, vc, rfl, _⟩ := ho.sl
      have HLN := Lib.hid hln
      rw [hln] at ho ⊢
      clear hln hLs
      go_wp2_with (fail)
      go_ret
      exact ⟨vo, vc, by rw [HK.out]; rfl, by rw [← HLS.out, HK.out] at ho; exact ho, hb⟩

set_option maxRecDepth 100000 in
set_option maxHeartbeats 1000000 in
theorem fixed_calls (w : World) :
    Calls Try.prog 6 #[] w fun e w' => e = .returned (.bool true) ∧ Below w.heap.size w w' := by
  obtain ⟨i0, z0, hi, hz0, hz1, hz2, hz3⟩ := info_row infoRw
  go_enter Try.func6, Try.ntmps6
  go_wp2_with (fail)
  refine (bytes_calls w).mono ?_
  rintro e w1 ⟨ao, c, rfl, ho, hb1⟩
  obtain ⟨Ls, hLs⟩ : ∃ Ls, rowsN 256 = Ls := ⟨_, rfl⟩
  have hln := rowsN_len 256
  rw [hLs] at ho hln
  have HLS := Lib.hid hLs
  have HLN := Lib.hid hln
  have HBS := hb1.size
  have HO3 : Hid (OwnF Rw.enc 2 27 (w1.alloc (.cells #[.string abS, .int .i64 256] 27)) w.heap.size (.slice ao 256 c) Ls) := Lib.hid (ho.alloc _)
  have HS3 : Hid (SlF 2 (w1.alloc (.cells #[.string abS, .int .i64 256] 27)) (some ⟨w1.heap.size, 0, none⟩) 1 1 (flat Rw.enc [⟨abS, 256⟩])) := Lib.hid (SlF.one Rw.enc_len w1 ⟨abS, 256⟩ 27 (cs := #[.string abS, .int .i64 256]) rfl)
  have HB1 := Lib.hid hb1
  clear hLs hln ho hb1
  go_wp2_with (at_builtin; go_loud (refine wpList_flat_app rfl _ _ 22 rfl i0 z0 24 Try.underlying22 hi hz0 hz1 hz2 hz3 Rw.enc_len (by omega) Rw.enc_one rfl HO3.out rfl HS3.out (by have := HLN.out; unfold maxLen; omega) (by have := HLN.out; omega) (by simp; omega) ?_))
  intro v2 w2 ho2 _ hb2
  rw [← HLS.out] at ho2
  have ho2 : OwnF Rw.enc 2 27 w2 w.heap.size v2 R0 := ho2
  obtain ⟨ro, rc, rfl, hR⟩ := ho2.sl
  have HB2 := Lib.hid ((HB1.out.alloc HB1.out.size _).trans hb2)
  obtain ⟨rn, hrn⟩ : ∃ rn, R0.length = rn := ⟨_, rfl⟩
  rw [hrn] at hR ⊢
  have HR := Lib.hid hR
  clear hR ho2 hb2 hrn
  have hfr := fromRows_calls (R := R0) (S := []) (sc := 0) w2 HR.out (SlF.nothing w2) (fun r hr => Nat.le_trans (R0_sized r hr) (by unfold maxLen; omega)) (fun s hs => by simp at hs) (by omega)
  go_wp2_with (fail)
  refine hfr.mono ?_
  rintro e w3 ⟨⟨_, ⟨ta, tn, tc, ma, mn, mc, sa, sn, sc⟩, rfl, hv⟩ | ⟨hno, _⟩, hb3⟩
  · rw [voc_R0] at hv
    have hmn := hv.mrg.count Mg.enc_len (by omega)
    simp only [List.length_singleton] at hmn
    subst hmn
    have HB3 := Lib.hid (HB2.out.trans (hb3.mono HB2.out.size))
    obtain ⟨b, o, hao, hce⟩ := hv.mrg.elem Mg.enc_len (by omega) (k := 0) (x := m0) rfl
    simp only at hao
    subst hao
    have d0 := hce 0 _ rfl
    have d1 := hce 1 _ rfl
    have d2 := hce 2 _ rfl
    have d3 := hce 3 _ rfl
    simp only [Nat.zero_mul, Nat.add_zero, Nat.zero_add] at d0 d1 d2 d3
    have hbl : b < w3.heap.size := (hv.mrg.below (Below.refl _ _)).lt (by omega) _ rfl (by simp)
    have heq := eqM_any m0 m0 (w3.alloc (.cells #[.slice ta tn tc, .slice (some ⟨b, o, none⟩) 1 mc, .slice sa sn sc] 31))
    have hof := of_calls abS (w3.alloc (.cells #[.slice ta tn tc, .slice (some ⟨b, o, none⟩) 1 mc, .slice sa sn sc] 31)) (hv.below (below_alloc w3 _))
    simp only [m0, ofT_ab] at d0 d1 d2 d3 heq hof
    have HV := Lib.hid hv
    have HB4 := Lib.hid (HB3.out.alloc HB3.out.size (.cells #[.slice ta tn tc, .slice (some ⟨b, o, none⟩) 1 mc, .slice sa sn sc] 31))
    clear hv hb3 hfr hce
    go_wp2_with (fail)
    refine hof.mono ?_
    rintro e w5 ⟨rfl, hb5⟩
    have HB5 := Lib.hid (HB4.out.trans (hb5.mono HB4.out.size))
    clear hb5
    go_wp2_with (fail)
    go_ret
    exact ⟨rfl, HB5.out⟩
  · exact absurd good_R0 hno

end Go.Proofs.Yteoncpkfinheoaa
