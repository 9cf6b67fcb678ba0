/- Walks: the document's usual table. (Printed by gRTabs.py.) -/
import Derived.Test.YtimkkkdabmhedaaGreatDoorB44
import Derived.Test.YtimkkkdabmhedaaGreatDoorB45
import Derived.Test.YtimkkkdabmhedaaGreatDoorB19
import Derived.Test.YtimkkkdabmhedaaGreatDoorB9
import Derived.Deep.AppendLies
import Derived.Deep.RegionLaw
namespace Go.Proofs.YtimkkkdabmhedaaGreatDoor
open Go.RowKit
set_option linter.unusedVariables false

set_option maxHeartbeats 1000000 in
set_option maxRecDepth 100000 in
theorem rrow_calls (c : Int) {A : List Int} {ao : Option Addr} {n cap k : Nat} (w : World) (hA : SlI w ao n cap A) (hk : n = 2 * k) (hn : n ≤ 100) :
    Calls Tryz.prog 116 #[.int .i64 c, .slice ao n cap] w fun e w' => ∃ v, e = .returned v ∧ OwnF Rg.enc 3 93 w' w.heap.size v (rowRg c A k) ∧ Below w.heap.size w w' := by
  obtain ⟨i0, z0, hi, hz0, hz1, hz2, hz3⟩ := info_row infoRg
  have HA := Lib.hid hA
  have HK := Lib.hid hk
  obtain ⟨w1, hw1⟩ : ∃ w1, w.alloc (.cells #[] 93) = w1 := ⟨_, rfl⟩
  have HB1 : Hid (Below w.heap.size w w1) := Lib.hid (by rw [← hw1]; exact below_alloc w _)
  have HO1 : Hid (OwnF Rg.enc 3 93 w1 w.heap.size (.slice (some ⟨w.heap.size, 0, none⟩) 0 0) []) := Lib.hid (by rw [← hw1]; exact OwnF.made0 w)
  have HW1 := Lib.hid hw1
  clear hA hk hw1
  go_enter Tryz.func116, Tryz.ntmps116
  go_wp2_with (fail)
  rw [HW1.out]
  go_loopw [5, 6] (fun v i wr => ∃ j q : Nat, q ≤ n ∧ Hid (q = 2 * j) ∧ i = .int .i64 q ∧ OwnF Rg.enc 3 93 wr w.heap.size v (rowRg c A j) ∧ Below w.heap.size w wr) (fun _ i _ => n - (intOf i).toNat)
  case atStart => exact ⟨0, 0, by omega, Lib.hid rfl, rfl, by simpa [rowRg] using HO1.out, HB1.out⟩
  case round =>
    obtain ⟨j, q, hq, HQ, rfl, ho, hb⟩ := hrel
    have HO := Lib.hid ho
    have HB := Lib.hid hb
    clear ho hb
    by_cases hlt : q + 1 < n
    · obtain ⟨b, o, rfl, hc0⟩ := (HA.out.below HB.out).at_ (i := q) (by omega)
      obtain ⟨b', o', e', hc1⟩ := (HA.out.below HB.out).at_ (i := q + 1) (by omega)
      simp only [Option.some.injEq, Addr.mk.injEq, and_true] at e'
      obtain ⟨rfl, rfl⟩ := e'
      obtain ⟨x0, hx0⟩ : ∃ x0, ix A q = x0 := ⟨_, rfl⟩
      obtain ⟨x1, hx1⟩ : ∃ x1, ix A (q + 1) = x1 := ⟨_, rfl⟩
      rw [hx0] at hc0
      rw [hx1] at hc1
      have HX0 := Lib.hid hx0
      have HX1 := Lib.hid hx1
      clear hx0 hx1
      obtain ⟨q1, hq1⟩ : ∃ q1 : Nat, q + 1 = q1 := ⟨_, rfl⟩
      rw [hq1] at hc1 HX1
      have hwr : IntKind.i64.wrap ((q : Int) + 1) = (q1 : Int) := by rw [IntKind.wrap_i64]; omega
      have hlt2 : (q1 : Int) < (n : Int) := by omega
      have hq2 : (q : Int) < (n : Int) := by omega
      have HQ1 := Lib.hid hq1
      clear hq1
      go_wp2_with (fail)
      have hjl : 2 * j + 1 < 100 := by have := HQ.out; omega
      have HOa : Hid ((wr.drew.alloc (.cells #[.int .i64 x0, .int .i64 x1, .int .i64 c] 93)).ownsRow w.heap.size 93 3 u5 j (flat Rg.enc (rowRg c A j))) := Lib.hid (by
        have h := (HO.out.drewN 1).alloc (.cells #[.int .i64 x0, .int .i64 x1, .int .i64 c] 93)
        unfold OwnF at h
        rw [rowRg_len] at h
        exact h)
      have HBa : Hid (Below w.heap.size w (wr.drew.alloc (.cells #[.int .i64 x0, .int .i64 x1, .int .i64 c] 93))) := Lib.hid ((HB.out.drew).alloc HB.out.size _)
      have HLT := Lib.hid (World.ownsRow.lt HO.out)
      go_region_law (refine step_append_lies _ (by rfl) _ _ _ (by rfl) w.heap.size 93 i0 z0 3 24 Tryz.underlying27 hi hz0 hz1 hz2 hz3 (by omega) u5 j (flat Rg.enc (rowRg c A j)) (by rfl) HOa.out ⟨wr.heap.size, 0, none⟩ 1 1 [.int .i64 x0, .int .i64 x1, .int .i64 c] (by rfl) (by rfl) (World.news_of_block (cs := #[.int .i64 x0, .int .i64 x1, .int .i64 c]) (heap_alloc_new wr.drew _)) (by simp [Value.oneCell']) (by omega) (by unfold maxLen; omega) (by omega) HBa.out.size wr.heap.size.succ (by simp) ?_; intro gg cap2 w2 ho2 hg2 hat hb2)
      all_goals (
        have HO2 : Hid (OwnF Rg.enc 3 93 w2 w.heap.size (.slice (some ⟨gg, 0, none⟩) (j + 1) cap2) (rowRg c A j ++ [⟨x0, x1, c⟩])) := Lib.hid (by
          unfold OwnF
          rw [List.length_append, rowRg_len, flat_append]
          exact ho2)
        have HB2 : Hid (Below w.heap.size w w2) := Lib.hid (HBa.out.grown hg2 HBa.out.size fun q hq => (HLT.out q hq).1)
        clear ho2 hg2 hb2 hat
        go_wp2_with (fail)
        go_roundw
        · have h1 := HO2.out
          have e1 : x0 = ix A (2 * j) := by rw [← HX0.out, HQ.out]
          have e2 : x1 = ix A (2 * j + 1) := by rw [← HX1.out, ← HQ1.out, HQ.out]
          rw [e1, e2, rowRg_succ] at h1
          exact ⟨j + 1, q + 2, by omega, Lib.hid (by have := HQ.out; omega), by simp, h1, HB2.out⟩
        · simp [intOf]; omega)
    · have hlt2 : ¬ ((q : Int) + 1 < (n : Int)) := by omega
      have hlt3 : (n : Int) ≤ (q : Int) + 1 := by omega
      go_wp2_with (fail)
      go_ret
      have e : j = k := by have := HQ.out; have := HK.out; omega
      subst e
      exact ⟨_, rfl, HO.out, HB.out⟩

theorem SlI.lit (w : World) {cs : Array Value} {A : List Int} {n : Nat} (t : TypeId) (hcs : cs.toList = A.map (.int .i64)) (hn : A.length = n) (hm : n ≤ maxLen) : SlI (w.alloc (.cells cs t)) (some ⟨w.heap.size, 0, .none⟩) n n A := by
  have hsz : cs.size = n := by rw [← Array.length_toList, hcs, List.length_map, hn]
  refine ⟨by simp [hn], Nat.le_refl _, hm, by simp, fun j u hu => ⟨_, _, rfl, ?_⟩⟩
  have hb : (w.alloc (.cells cs t)).heap[w.heap.size]? = some (.cells cs t) := heap_alloc_new w _
  simp only [World.cell?, hb, Nat.zero_add]
  rw [← Array.getElem?_toList, hcs]
  exact hu

set_option maxHeartbeats 2000000 in
set_option maxRecDepth 100000 in
theorem rusual_calls (w : World) :
    Calls Tryz.prog 87 #[] w fun e w' => ∃ v, e = .returned v ∧ OwnF Rg.enc 3 93 w' w.heap.size v usU ∧ Below w.heap.size w w' := by
  obtain ⟨i0, z0, hi, hz0, hz1, hz2, hz3⟩ := info_row infoRg
  go_enter Tryz.func87, Tryz.ntmps87
  obtain ⟨wa, hwa⟩ : ∃ wa, w.alloc (.cells (us1.map (Value.int .i64)).toArray 3) = wa := ⟨_, rfl⟩
  have HA1 : Hid (SlI wa (some ⟨w.heap.size, 0, none⟩) 60 60 us1) := Lib.hid (by rw [← hwa]; exact SlI.lit w _ (by simp) rfl (by unfold maxLen; omega))
  have HBA : Hid (Below w.heap.size w wa) := Lib.hid (by rw [← hwa]; exact below_alloc w _)
  have HWA := Lib.hid hwa
  clear hwa
  go_wp2_with (fail)
  refine Calls.mono (R := _) (by
    have h := rrow_calls 1 wa HA1.out (k := 30) rfl (by omega)
    rw [← HWA.out] at h
    exact h) ?_
  rintro e w1 ⟨v1, rfl, ho1, hb1⟩
  rw [HWA.out] at ho1 hb1
  have HO1 := Lib.hid (OwnF.mono ho1 HBA.out.size)
  have HB1 := Lib.hid (HBA.out.trans (hb1.mono HBA.out.size))
  clear ho1 hb1
  obtain ⟨wa2, hwa2⟩ : ∃ wa2, w1.alloc (.cells (us2.map (Value.int .i64)).toArray 3) = wa2 := ⟨_, rfl⟩
  have HA2 : Hid (SlI wa2 (some ⟨w1.heap.size, 0, none⟩) 16 16 us2) := Lib.hid (by rw [← hwa2]; exact SlI.lit w1 _ (by simp) rfl (by unfold maxLen; omega))
  have HBA2 : Hid (Below w1.heap.size w1 wa2) := Lib.hid (by rw [← hwa2]; exact below_alloc w1 _)
  have HWA2 := Lib.hid hwa2
  clear hwa2
  go_wp2_with (fail)
  refine Calls.mono (R := _) (by
    have h := rrow_calls 2 wa2 HA2.out (k := 8) rfl (by omega)
    rw [← HWA2.out] at h
    exact h) ?_
  rintro e wb2 ⟨vb2, rfl, hob2, hbb2⟩
  rw [HWA2.out] at hob2 hbb2
  obtain ⟨ra2, rc2, rfl, hsr2⟩ := hob2.sl
  rw [rowRg_len] at hsr2 ⊢
  have HS2 := Lib.hid hsr2
  have HBB2 := Lib.hid (HB1.out.trans ((HBA2.out.trans (hbb2.mono HBA2.out.size)).mono HB1.out.size))
  have HOO2 := Lib.hid (OwnF.below (OwnF.below HO1.out HBA2.out) hbb2)
  clear hob2 hbb2 hsr2
  go_wp2_with (at_builtin; go_loud (refine wpList_flat_app rfl _ _ 27 rfl i0 z0 24 Tryz.underlying27 hi hz0 hz1 hz2 hz3 Rg.enc_len (by omega) Rg.enc_one rfl HOO2.out rfl HS2.out (by simp only [rowRg_len]; unfold maxLen; omega) (by simp only [rowRg_len]; omega) HBB2.out.size ?_))
  intro v2 w2 ho2 hg2 hb2
  have HO2 := Lib.hid ho2
  have HB2 := Lib.hid (HBB2.out.trans hb2)
  clear ho2 hg2 hb2
  obtain ⟨wa3, hwa3⟩ : ∃ wa3, w2.alloc (.cells (us4.map (Value.int .i64)).toArray 3) = wa3 := ⟨_, rfl⟩
  have HA3 : Hid (SlI wa3 (some ⟨w2.heap.size, 0, none⟩) 4 4 us4) := Lib.hid (by rw [← hwa3]; exact SlI.lit w2 _ (by simp) rfl (by unfold maxLen; omega))
  have HBA3 : Hid (Below w2.heap.size w2 wa3) := Lib.hid (by rw [← hwa3]; exact below_alloc w2 _)
  have HWA3 := Lib.hid hwa3
  clear hwa3
  go_wp2_with (fail)
  refine Calls.mono (R := _) (by
    have h := rrow_calls 4 wa3 HA3.out (k := 2) rfl (by omega)
    rw [← HWA3.out] at h
    exact h) ?_
  rintro e wb3 ⟨vb3, rfl, hob3, hbb3⟩
  rw [HWA3.out] at hob3 hbb3
  obtain ⟨ra3, rc3, rfl, hsr3⟩ := hob3.sl
  rw [rowRg_len] at hsr3 ⊢
  have HS3 := Lib.hid hsr3
  have HBB3 := Lib.hid (HB2.out.trans ((HBA3.out.trans (hbb3.mono HBA3.out.size)).mono HB2.out.size))
  have HOO3 := Lib.hid (OwnF.below (OwnF.below HO2.out HBA3.out) hbb3)
  clear hob3 hbb3 hsr3
  go_wp2_with (at_builtin; go_loud (refine wpList_flat_app rfl _ _ 27 rfl i0 z0 24 Tryz.underlying27 hi hz0 hz1 hz2 hz3 Rg.enc_len (by omega) Rg.enc_one rfl HOO3.out rfl HS3.out (by simp only [List.length_append, rowRg_len]; unfold maxLen; omega) (by simp only [List.length_append, rowRg_len]; omega) HBB3.out.size ?_))
  intro v3 w3 ho3 hg3 hb3
  have HO3 := Lib.hid ho3
  have HB3 := Lib.hid (HBB3.out.trans hb3)
  clear ho3 hg3 hb3
  obtain ⟨wa4, hwa4⟩ : ∃ wa4, w3.alloc (.cells (us3.map (Value.int .i64)).toArray 3) = wa4 := ⟨_, rfl⟩
  have HA4 : Hid (SlI wa4 (some ⟨w3.heap.size, 0, none⟩) 22 22 us3) := Lib.hid (by rw [← hwa4]; exact SlI.lit w3 _ (by simp) rfl (by unfold maxLen; omega))
  have HBA4 : Hid (Below w3.heap.size w3 wa4) := Lib.hid (by rw [← hwa4]; exact below_alloc w3 _)
  have HWA4 := Lib.hid hwa4
  clear hwa4
  go_wp2_with (fail)
  refine Calls.mono (R := _) (by
    have h := rrow_calls 3 wa4 HA4.out (k := 11) rfl (by omega)
    rw [← HWA4.out] at h
    exact h) ?_
  rintro e wb4 ⟨vb4, rfl, hob4, hbb4⟩
  rw [HWA4.out] at hob4 hbb4
  obtain ⟨ra4, rc4, rfl, hsr4⟩ := hob4.sl
  rw [rowRg_len] at hsr4 ⊢
  have HS4 := Lib.hid hsr4
  have HBB4 := Lib.hid (HB3.out.trans ((HBA4.out.trans (hbb4.mono HBA4.out.size)).mono HB3.out.size))
  have HOO4 := Lib.hid (OwnF.below (OwnF.below HO3.out HBA4.out) hbb4)
  clear hob4 hbb4 hsr4
  go_wp2_with (at_builtin; go_loud (refine wpList_flat_app rfl _ _ 27 rfl i0 z0 24 Tryz.underlying27 hi hz0 hz1 hz2 hz3 Rg.enc_len (by omega) Rg.enc_one rfl HOO4.out rfl HS4.out (by simp only [List.length_append, rowRg_len]; unfold maxLen; omega) (by simp only [List.length_append, rowRg_len]; omega) HBB4.out.size ?_))
  intro v4 w4 ho4 hg4 hb4
  have HO4 := Lib.hid ho4
  have HB4 := Lib.hid (HBB4.out.trans hb4)
  clear ho4 hg4 hb4
  go_wp2_with (fail)
  go_ret
  exact ⟨_, rfl, HO4.out, HB4.out⟩

end Go.Proofs.YtimkkkdabmhedaaGreatDoor
