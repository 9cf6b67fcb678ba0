/- Walk: are two vocabularies the same? They are, where they read alike. (Printed by gSameV.py.) -/
import Derived.Test.YteoncpkfinheoaaMay
import Derived.Laws.StructEq
namespace Go.Proofs.Yteoncpkfinheoaa
open Go.RowKit
set_option linter.unusedVariables false

theorem eqM_any (a b : Mg) (w : World) : (binOp .eql 51 (.agg #[.int .i64 a.left, .int .i64 a.right, .int .i64 a.out, .int .i64 a.order]) (.agg #[.int .i64 b.left, .int .i64 b.right, .int .i64 b.out, .int .i64 b.order])).run Try.prog w = .ok (.bool (a.left == b.left && a.right == b.right && a.out == b.out && a.order == b.order)) w := by
  have u3 := Try.underlying3
  have hS : Try.prog.underlying 51 = some (.struct (Try.prog.fieldsOf 51)) := by kernel_rfl
  have hp : Try.prog.stoodInHeld 51 = false := by kernel_rfl
  obtain ⟨a0, a1, a2, a3⟩ := a
  obtain ⟨b0, b1, b2, b3⟩ := b
  rw [run_eql_struct, show (10000 : Nat) = 9999 + 1 from rfl, run_equalIn_agg w 9999 51 _ _ hS hp]
  simp only [Program.fieldsOf, Try.underlying51]
  go_simp
  by_cases h1 : a0 = b0 <;> by_cases h2 : a1 = b1 <;> by_cases h3 : a2 = b2 <;> by_cases h4 : a3 = b3 <;> simp [h1, h2, h3, h4]
theorem neqM_same (m : Mg) (w : World) : (binOp .neq 51 (.agg #[.int .i64 m.left, .int .i64 m.right, .int .i64 m.out, .int .i64 m.order]) (.agg #[.int .i64 m.left, .int .i64 m.right, .int .i64 m.out, .int .i64 m.order])).run Try.prog w = .ok (.bool false) w := by
  have u3 := Try.underlying3
  have hS : Try.prog.underlying 51 = some (.struct (Try.prog.fieldsOf 51)) := by kernel_rfl
  have hp : Try.prog.stoodInHeld 51 = false := by kernel_rfl
  rw [run_neq_struct, show (10000 : Nat) = 9999 + 1 from rfl, run_equalIn_agg w 9999 51 _ _ hS hp]
  simp only [Program.fieldsOf, Try.underlying51]
  go_simp
theorem neqS_same (m : Sp) (w : World) : (binOp .neq 48 (.agg #[.string m.name, .int .i64 m.id]) (.agg #[.string m.name, .int .i64 m.id])).run Try.prog w = .ok (.bool false) w := by
  have u3 := Try.underlying3
  have u9 := Try.underlying9
  have hS : Try.prog.underlying 48 = some (.struct (Try.prog.fieldsOf 48)) := by kernel_rfl
  have hp : Try.prog.stoodInHeld 48 = false := by kernel_rfl
  rw [run_neq_struct, show (10000 : Nat) = 9999 + 1 from rfl, run_equalIn_agg w 9999 48 _ _ hS hp]
  simp only [Program.fieldsOf, Try.underlying48]
  go_simp

set_option maxHeartbeats 4000000 in
set_option maxRecDepth 100000 in
theorem sameV_true {V : Vc} {d1 d2 : Vd} (w : World) (h1 : VocR w d1 V) (h2 : VocR w d2 V) :
    Calls Try.prog 9 #[d1.val, d2.val] w fun e w' => e = .returned (.bool true) ∧ Below w.heap.size w w' := by
  have q1 := h1.spc.count Sp.enc_len (by omega)
  have q2 := h1.mrg.count Mg.enc_len (by omega)
  have q3 := h1.tok.count
  have q4 := h2.spc.count Sp.enc_len (by omega)
  have q5 := h2.mrg.count Mg.enc_len (by omega)
  have q6 := h2.tok.count
  have hm1 := Nat.le_trans (Sl.le h1.tok) (Sl.max h1.tok)
  have hm2 := Nat.le_trans h1.mrg.le h1.mrg.max
  have hm3 := Nat.le_trans h1.spc.le h1.spc.max
  obtain ⟨ta, tn, tc, ma, mn, mc, sa, sn, sc⟩ := d1
  obtain ⟨ta2, tn2, tc2, ma2, mn2, mc2, sa2, sn2, sc2⟩ := d2
  simp only at q1 q2 q3 q4 q5 q6 hm1 hm2 hm3 ⊢
  obtain rfl : tn = tn2 := by omega
  obtain rfl : mn = mn2 := by omega
  obtain rfl : sn = sn2 := by omega
  unfold maxLen at hm1 hm2 hm3
  obtain ⟨wa, hwa⟩ : ∃ wa, w.alloc (.cells #[.slice ta tn tc, .slice ma mn mc, .slice sa sn sc] 31) = wa := ⟨_, rfl⟩
  obtain ⟨w0, hw0⟩ : ∃ w0, wa.alloc (.cells #[.slice ta2 tn tc2, .slice ma2 mn mc2, .slice sa2 sn sc2] 31) = w0 := ⟨_, rfl⟩
  have hba : Below w.heap.size w wa := hwa ▸ below_alloc w _
  have hbb : Below wa.heap.size wa w0 := hw0 ▸ below_alloc wa _
  have hsa : wa.heap.size = w.heap.size + 1 := by rw [← hwa]; simp
  have hb0 := hba.trans (hbb.mono hba.size)
  have hxa : wa.heap[w.heap.size]? = some (.cells #[.slice ta tn tc, .slice ma mn mc, .slice sa sn sc] 31) := by rw [← hwa]; exact heap_alloc_new w _
  have hx0 : w0.heap[wa.heap.size]? = some (.cells #[.slice ta2 tn tc2, .slice ma2 mn mc2, .slice sa2 sn sc2] 31) := by rw [← hw0]; exact heap_alloc_new wa _
  rw [hsa] at hx0
  obtain ⟨c0, c1, c2⟩ := box3v ((hbb.block w.heap.size (by omega)).trans hxa)
  obtain ⟨e0, e1, e2⟩ := box3v hx0
  have HV1 := Lib.hid (h1.below hb0)
  have HV2 := Lib.hid (h2.below hb0)
  have HB0 := Lib.hid hb0
  have HWA := Lib.hid hwa
  have HW0 := Lib.hid hw0
  have n1 : ((tn : Int) != (tn : Int)) = false := by simp
  have n2 : ((mn : Int) != (mn : Int)) = false := by simp
  have n3 : ((sn : Int) != (sn : Int)) = false := by simp
  have HQ1 := Lib.hid q1
  have HQ2 := Lib.hid q2
  have HQ3 := Lib.hid q3
  clear h1 h2 hba hbb hsa hb0 hxa hx0 hwa hw0 q1 q2 q3 q4 q5 q6
  go_enter Try.func9, Try.ntmps9
  go_wp2_with (fail)
  rw [HWA.out, HW0.out]
  go_loopw [5, 36] (fun _ i wr => ∃ k j : Nat, k ≤ tn ∧ i = .int .i64 k ∧ wr = w0.drewN j) (fun _ i _ => tn - (intOf i).toNat)
  case atStart => exact ⟨0, 0, Nat.zero_le _, rfl, rfl⟩
  case round =>
    obtain ⟨k, j, hk, rfl, rfl⟩ := hrel
    by_cases hlt : k < tn
    · have hkT : k < V.tokens.length := by have := HQ3.out; omega
      obtain ⟨b, o, hao, hc⟩ := SlS.cell HV1.out.tok (tk_eq hkT)
      obtain ⟨b2, o2, hao2, hc2⟩ := SlS.cell HV2.out.tok (tk_eq hkT)
      simp only at hao hao2
      subst hao hao2
      have hs1 := bneS_yes (rfl : tk V.tokens k = tk V.tokens k)
      have hs2 := beqS_yes (rfl : tk V.tokens k = tk V.tokens k)
      go_wp2_with (fail)
      go_quiet (fail)
      go_wp2_with (fail)
      go_roundw
      case rel => exact ⟨k + 1, _, by omega, by go_num, rfl⟩
      case measure => simp [intOf]; omega
    · go_wp2_with (fail)
      go_loopw [6, 54] (fun _ i wr => ∃ k j : Nat, k ≤ mn ∧ i = .int .i64 k ∧ wr = w0.drewN j) (fun _ i _ => mn - (intOf i).toNat)
      case atStart => exact ⟨0, _, Nat.zero_le _, rfl, rfl⟩
      case round =>
        obtain ⟨k2, j2, hk2, rfl, rfl⟩ := hrel
        by_cases hlt2 : k2 < mn
        · have hkM : k2 < V.merges.length := by have := HQ2.out; omega
          obtain ⟨b, o, hao, hc⟩ := HV1.out.mrg.elem Mg.enc_len (by omega) (mg_eq hkM)
          obtain ⟨b2, o2, hao2, hc2⟩ := HV2.out.mrg.elem Mg.enc_len (by omega) (mg_eq hkM)
          simp only at hao hao2
          subst hao hao2
          have d0 := hc 0 _ rfl
          have d1 := hc 1 _ rfl
          have d2 := hc 2 _ rfl
          have d3 := hc 3 _ rfl
          have f0 := hc2 0 _ rfl
          have f1 := hc2 1 _ rfl
          have f2 := hc2 2 _ rfl
          have f3 := hc2 3 _ rfl
          rw [Nat.add_zero] at d0 f0
          have hne := fun j => neqM_same (mg V.merges k2) (w0.drewN j)
          have l1 := fun j => ld4 (P := Try.prog) (w := w0.drewN j) d0 d1 d2 d3
          have l2 := fun j => ld4 (P := Try.prog) (w := w0.drewN j) f0 f1 f2 f3
          clear hc hc2
          go_wp2_with (fail)
          go_quiet (fail)
          go_wp2_with (fail)
          go_roundw
          case rel => exact ⟨k2 + 1, _, by omega, by go_num, rfl⟩
          case measure => simp [intOf]; omega
        · go_wp2_with (fail)
          go_loopw [7, 72] (fun _ i wr => ∃ k j : Nat, k ≤ sn ∧ i = .int .i64 k ∧ wr = w0.drewN j) (fun _ i _ => sn - (intOf i).toNat)
          case atStart => exact ⟨0, _, Nat.zero_le _, rfl, rfl⟩
          case round =>
            obtain ⟨k3, j3, hk3, rfl, rfl⟩ := hrel
            by_cases hlt3 : k3 < sn
            · have hkS : k3 < V.specials.length := by have := HQ1.out; omega
              obtain ⟨b, o, hao, hc⟩ := HV1.out.spc.elem Sp.enc_len (by omega) (sp_eq hkS)
              obtain ⟨b2, o2, hao2, hc2⟩ := HV2.out.spc.elem Sp.enc_len (by omega) (sp_eq hkS)
              simp only at hao hao2
              subst hao hao2
              have d0 := hc 0 _ rfl
              have d1 := hc 1 _ rfl
              have f0 := hc2 0 _ rfl
              have f1 := hc2 1 _ rfl
              rw [Nat.add_zero] at d0 f0
              have hne := fun j => neqS_same (sp V.specials k3) (w0.drewN j)
              clear hc hc2
              go_wp2_with (fail)
              go_quiet (fail)
              go_wp2_with (fail)
              go_roundw
              case rel => exact ⟨k3 + 1, _, by omega, by go_num, rfl⟩
              case measure => simp [intOf]; omega
            · go_wp2_with (fail)
              go_ret
              exact ⟨rfl, below_drewN HB0.out _⟩

end Go.Proofs.Yteoncpkfinheoaa
