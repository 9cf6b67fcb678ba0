/- Walk: the document's put: one more merge in a sorted row. -/
import Derived.Test.YteoncpkfinheoaaWhole
import Derived.Test.YteoncpkfinheoaaTurnP
namespace Go.Proofs.Yteoncpkfinheoaa
open Go.RowKit Go.Sort
set_option linter.unusedVariables false

theorem flat_take {α : Type} {enc : α → List Value} {s : Nat} (hs : ∀ x, (enc x).length = s) : ∀ (L : List α) (k : Nat), flat enc (L.take k) = (flat enc L).take (k * s)
  | [], k => by simp [flat]
  | y :: L, 0 => by simp [flat]
  | y :: L, k + 1 => by
    rw [flat_cons, List.take_succ_cons, flat_cons, flat_take hs L k]
    have e : (k + 1) * s = (enc y).length + k * s := by rw [hs, Nat.add_mul]; omega
    rw [e, List.take_length_add_append]
theorem SlF.take {s : Nat} {w : World} {ao : Option Addr} {n cap : Nat} {xs : List Value} (h : SlF s w ao n cap xs) {k : Nat} (hk : k ≤ n) : SlF s w ao k cap (xs.take (k * s)) := by
  have hl := h.len
  refine ⟨by rw [List.length_take, hl]; exact Nat.min_eq_left (Nat.mul_le_mul_right s hk), by have := h.le; omega, h.max, h.nil, fun i u hu => ?_⟩
  rw [List.getElem?_take] at hu
  split at hu
  · exact h.at_ i u hu
  · cases hu
/-- 'x[:k]'. -/
theorem wpList_flat_high {α : Type} {enc : α → List Value} {s : Nat} {e : TypeId} {P : Program} {w : World} {ops : Array Oper} {rest : List Oper} {o : Oper} {a : Act} {Q : Exit → Act → World → Prop} (hgd : o.guard = .none) (t : TypeId) (x l : Operand)
    (ho : o.op = .slice t x .none (some l) .none) (i : TypeInfo) (ht : P.underlying t = some (.slice e)) (hi : P.info? e = some i) (hs : ∀ x, (enc x).length = s)
    {ao : Option Addr} {n cap : Nat} {L : List α} (hx : a.eval x = .slice ao n cap) (hS : SlF s w ao n cap (flat enc L)) {kl : IntKind} {K : Int} {k : Nat} (hl : a.eval l = .int kl K) (hL : K = (k : Int)) (hk : k ≤ n)
    (h : SlF s w ao k cap (flat enc (L.take k)) → wpList P ops Q rest (a.put o.dst (.slice ao k cap)) w) : wpList P ops Q (o :: rest) a w := by
  subst hL
  have hle := hS.le
  refine wpList_val hgd (v := .slice ao k cap) (w' := w) ?_ (h (by rw [flat_take hs]; exact hS.take hk))
  have hr := run_sliceAt_lh ht hi w ao n cap .none (some (.int kl k)) 0 k (fun w => by simp [Instr.sliceBounds, run_sliceBound, Nat.le_trans hk hle])
  simp only [execOp, ho, hx, hl, Option.map_some, Option.map_none, Sem.run_bind, hr, Result.andThen_ok, Sem.run_pure, Nat.zero_mul]
  congr 3
  cases ao <;> simp [Addr.add]

set_option maxHeartbeats 1000000 in
theorem ahead_g (a b : Mg) (w : World) :
    Calls Try.prog 33 #[.agg #[.int .i64 a.left, .int .i64 a.right, .int .i64 a.out, .int .i64 a.order], .agg #[.int .i64 b.left, .int .i64 b.right, .int .i64 b.out, .int .i64 b.order]] w
      fun e w' => e = .returned (.bool (ahead a b)) ∧ ∃ q os, w' = grow (w.drewN q) os := by
  obtain ⟨w1, hw1⟩ : ∃ w1, w.alloc (.cells #[.int .i64 a.left, .int .i64 a.right, .int .i64 a.out, .int .i64 a.order] 51) = w1 := ⟨_, rfl⟩
  obtain ⟨w2, hw2⟩ : ∃ w2, w1.alloc (.cells #[.int .i64 b.left, .int .i64 b.right, .int .i64 b.out, .int .i64 b.order] 51) = w2 := ⟨_, rfl⟩
  have hb1 : Below w.heap.size w w1 := hw1 ▸ below_alloc w _
  have hb2 : Below w1.heap.size w1 w2 := hw2 ▸ below_alloc w1 _
  have hs1 : w1.heap.size = w.heap.size + 1 := by rw [← hw1]; simp
  have ha1 : w1.heap[w.heap.size]? = some (.cells #[.int .i64 a.left, .int .i64 a.right, .int .i64 a.out, .int .i64 a.order] 51) := by rw [← hw1]; exact heap_alloc_new w _
  have ha2 := (hb2.block w.heap.size (by omega)).trans ha1
  have hbb : w2.heap[w1.heap.size]? = some (.cells #[.int .i64 b.left, .int .i64 b.right, .int .i64 b.out, .int .i64 b.order] 51) := by rw [← hw2]; exact heap_alloc_new w1 _
  obtain ⟨a0, a1, _, a3⟩ := box4 ha2
  obtain ⟨b0, b1, _, b3⟩ := box4 hbb
  have HG : Hid (∃ q os, w2 = grow (w.drewN q) os) := Lib.hid ⟨0, #[.cells #[.int .i64 a.left, .int .i64 a.right, .int .i64 a.out, .int .i64 a.order] 51, .cells #[.int .i64 b.left, .int .i64 b.right, .int .i64 b.out, .int .i64 b.order] 51], by
    rw [← hw2, ← hw1, alloc_eq_grow, alloc_eq_grow, grow_grow]; rfl⟩
  have H1 := Lib.hid hw1
  have H2 := Lib.hid hw2
  have hq : ahead a b = decide (a.order < b.order ∨ (a.order = b.order ∧ (a.left < b.left ∨ (a.left = b.left ∧ a.right < b.right)))) := rfl
  have HQ := Lib.hid hq
  rw [hs1] at b0 b1 b3
  clear hb1 hb2 hs1 ha1 ha2 hbb hw1 hw2 hq
  by_cases ho : a.order = b.order
  · have n1 : (a.order != b.order) = false := by simpa using ho
    by_cases hl : a.left = b.left
    · have n2 : (a.left != b.left) = false := by simpa using hl
      have HF : Hid (ahead a b = decide (a.right < b.right)) := Lib.hid (by rw [HQ.out]; simp [ho, hl])
      clear ho hl
      go_enter Try.func33, Try.ntmps33
      go_wp2_with (fail)
      rw [H1.out, H2.out]
      go_ret
      exact ⟨ret_bool HF.out.symm, HG.out⟩
    · have n2 : (a.left != b.left) = true := by simpa using hl
      have HF : Hid (ahead a b = decide (a.left < b.left)) := Lib.hid (by rw [HQ.out]; simp [ho, hl])
      clear ho hl
      go_enter Try.func33, Try.ntmps33
      go_wp2_with (fail)
      rw [H1.out, H2.out]
      go_ret
      exact ⟨ret_bool HF.out.symm, HG.out⟩
  · have n1 : (a.order != b.order) = true := by simpa using ho
    have HF : Hid (ahead a b = decide (a.order < b.order)) := Lib.hid (by rw [HQ.out]; simp [ho])
    clear ho
    go_enter Try.func33, Try.ntmps33
    go_wp2_with (fail)
    rw [H1.out, H2.out]
    go_ret
    exact ⟨ret_bool HF.out.symm, HG.out⟩

def SortedM (M : List Mg) : Prop := M.Pairwise (fun a b => ahead b a = false)
def PutPost (M : List Mg) (m : Mg) (w : World) (e : Ending) (w' : World) : Prop :=
  (∃ v M', e = .returned v ∧ OwnF Mg.enc 4 51 w' w.heap.size v M' ∧ M'.Perm (M ++ [m]) ∧ (SortedM M → SortedM M')) ∧ Below w.heap.size w w'
theorem putM_sorted {M : List Mg} {m : Mg} {k : Nat} (h1 : ∀ j, j < k → ahead (mg M j) m = true) (hk : k ≤ M.length) (h2 : k = M.length ∨ ahead (mg M k) m = false) (hs : SortedM M) : SortedM (M.take k ++ m :: M.drop k) := by
  refine ins_sorted (lt := ahead) (fun a b c => ahead_ntrans) hs (fun j x hj hx => ?_) (fun x hx => ?_)
  · rw [mg_eq (by omega)] at hx
    simp only [Option.some.injEq] at hx
    subst hx
    exact ahead_asym _ _ (h1 j hj)
  · rcases h2 with rfl | h2
    · rw [List.getElem?_eq_none (Nat.le_refl _)] at hx; cases hx
    · have hlt := (List.getElem?_eq_some_iff.1 hx).1
      rw [mg_eq hlt] at hx
      simp only [Option.some.injEq] at hx
      subst hx
      exact h2

set_option maxHeartbeats 4000000 in
set_option maxRecDepth 100000 in
theorem rput_calls {M : List Mg} {mo : Option Addr} {mn mc : Nat} (l r o d : Int) (w : World) (hM : SlF 4 w mo mn mc (flat Mg.enc M)) (hn : mn ≤ 300000) :
    Calls Try.prog 20 #[.slice mo mn mc, .agg #[.int .i64 l, .int .i64 r, .int .i64 o, .int .i64 d]] w (PutPost M ⟨l, r, o, d⟩ w) := by
  obtain ⟨i0, z0, hi, hz0, hz1, hz2, hz3⟩ := info_row infoMg
  obtain ⟨w0, hw0⟩ : ∃ w0, w.alloc (.cells #[.int .i64 l, .int .i64 r, .int .i64 o, .int .i64 d] 51) = w0 := ⟨_, rfl⟩
  have hb0 : Below w.heap.size w w0 := hw0 ▸ below_alloc w _
  have hx0 : w0.heap[w.heap.size]? = some (.cells #[.int .i64 l, .int .i64 r, .int .i64 o, .int .i64 d] 51) := by rw [← hw0]; exact heap_alloc_new w _
  have hs0 : w.heap.size < w0.heap.size := by rw [← hw0]; simp
  have HM := Lib.hid (hM.below hb0)
  have HLM := Lib.hid (hM.count Mg.enc_len (by omega))
  have HB0 := Lib.hid hb0
  have HX0 := Lib.hid hx0
  have HW0 := Lib.hid hw0
  clear hM hb0 hx0 hw0
  go_enter Try.func20, Try.ntmps20
  go_wp2_with (fail)
  rw [HW0.out]
  go_loopw [5] (fun i wr => ∃ k : Nat, k ≤ mn ∧ i = .int .i64 k ∧ Hid (∀ j, j < k → ahead (mg M j) ⟨l, r, o, d⟩ = true) ∧ Below w0.heap.size w0 wr) (fun i _ => mn - (intOf i).toNat)
  case atStart => exact ⟨0, Nat.zero_le _, rfl, Lib.hid (fun j h => by omega), Below.refl _ _⟩
  case round =>
    obtain ⟨k, hk, rfl, HK, hb⟩ := hrel
    have HB := Lib.hid hb
    have hbx := (hb.block w.heap.size hs0).trans HX0.out
    have hlt2 : w.heap.size < wr.heap.size := (Array.getElem?_eq_some_iff.1 hbx).1
    obtain ⟨b0, b1, b2, b3⟩ := box4 hbx
    clear hb hbx
    obtain ⟨w1, rfl⟩ : ∃ w1 : World, w1 = wr := ⟨_, rfl⟩
    by_cases hlt : k < mn
    · have hkM : k < M.length := by have := HLM.out; omega
      obtain ⟨⟨pl, pr, po, pd⟩, hpeq⟩ : ∃ m, mg M k = m := ⟨_, rfl⟩
      obtain ⟨b, of, rfl, hcp⟩ := (HM.out.below HB.out).elem Mg.enc_len (by omega) (mg_eq hkM)
      rw [hpeq] at hcp
      have p0 := hcp 0 _ rfl
      have p1 := hcp 1 _ rfl
      have p2 := hcp 2 _ rfl
      have p3 := hcp 3 _ rfl
      rw [Nat.add_zero] at p0
      simp only at p0 p1 p2 p3
      have hmix := mixedOrders
      have hlt1 : b < w1.heap.size := World.block_lt_of_cell? w1 _ p0
      have r0 := cell_grown (w := w1) hlt1 p0
      have r1 := cell_grown (w := w1) hlt1 p1
      have r2 := cell_grown (w := w1) hlt1 p2
      have r3 := cell_grown (w := w1) hlt1 p3
      have t0 := cell_grown (w := w1) hlt2 b0
      have t1 := cell_grown (w := w1) hlt2 b1
      have t2 := cell_grown (w := w1) hlt2 b2
      have t3 := cell_grown (w := w1) hlt2 b3
      have l1 := fun n os => ld4 (P := Try.prog) (r0 n os) (r1 n os) (r2 n os) (r3 n os)
      have l2 := fun n os => ld4 (P := Try.prog) (t0 n os) (t1 n os) (t2 n os) (t3 n os)
      have hg0 : decide ((k : Int) < (mn : Int)) = true := by simp; omega
      have hg2 : decide (k < mn) = true := by simpa using hlt
      have hah := fun w => ahead_g ⟨pl, pr, po, pd⟩ ⟨l, r, o, d⟩ w
      have HPE := Lib.hid hpeq
      clear hcp hpeq hkM
      cases hal : ahead ⟨pl, pr, po, pd⟩ ⟨l, r, o, d⟩ with
      | true =>
        rw [hal] at hah
        have HK2 : Hid (∀ j, j < k + 1 → ahead (mg M j) ⟨l, r, o, d⟩ = true) := Lib.hid (fun j hj => by
          by_cases e : j = k
          · subst e; rw [HPE.out]; exact hal
          · exact HK.out j (by omega))
        clear hal
        go_wp2_with (fail)
        refine wp_region_quiet_grown (by assumption) (by kernel_rfl) ?_
        repeat (any_goals (first | go_big_quiet_step ((go_at_call 33; exact Calls.grown_of (hah _))) | quiet_step ((go_at_call 33; exact Calls.grown_of (hah _)))))
        refine wpQuiet_nil ?_
        intro _ hw'
        obtain ⟨⟨nq2, osq2⟩, hw''⟩ := hw'
        subst hw''
        go_wp2_with (fail)
        go_roundw
        case rel => exact ⟨k + 1, by omega, by go_num, HK2, HB.out.trans ((below_grow _ _ _).mono HB.out.size)⟩
        case measure => simp [intOf]; omega
      | false =>
        rw [hal] at hah
        have HST : Hid (k = M.length ∨ ahead (mg M k) ⟨l, r, o, d⟩ = false) := Lib.hid (.inr (by rw [HPE.out]; exact hal))
        clear hal
        go_wp2_with (fail)
        refine wp_region_quiet_grown (by assumption) (by kernel_rfl) ?_
        repeat (any_goals (first | go_big_quiet_step ((go_at_call 33; exact Calls.grown_of (hah _))) | quiet_step ((go_at_call 33; exact Calls.grown_of (hah _)))))
        refine wpQuiet_nil ?_
        intro _ hw'
        obtain ⟨⟨nq2, osq2⟩, hw''⟩ := hw'
        subst hw''
        have HBQ : Hid (Below w0.heap.size w0 (grow (w1.drewN nq2) osq2)) := Lib.hid (HB.out.trans ((below_grow _ _ _).mono HB.out.size))
        have HSO := Lib.hid (putM_sorted HK.out (by have := HLM.out; omega) HST.out)
        have HLT : Hid ((M.take k).length = k) := Lib.hid (by rw [List.length_take, HLM.out]; omega)
        have hbz := HBQ.out.block w.heap.size hs0
        obtain ⟨wq, hwq⟩ : ∃ wq, (grow (w1.drewN nq2) osq2) = wq := ⟨_, rfl⟩
        rw [hwq] at HBQ hbz ⊢
        clear hwq
        have HBX := Lib.hid (hbz.trans HX0.out)
        clear hbz
        have HMa : Hid (SlF 4 (wq.alloc (.cells #[] 51)) (some ⟨b, of, none⟩) mn mc (flat Mg.enc M)) := Lib.hid ((HM.out.below HBQ.out).alloc _)
        have HOa : Hid (OwnF Mg.enc 4 51 (wq.alloc (.cells #[] 51)) wq.heap.size (.slice (some ⟨wq.heap.size, 0, none⟩) 0 0) []) := Lib.hid (OwnF.made0 wq)
        go_wp2_with (first
          | (refine wpList_flat_high (enc := Mg.enc) rfl _ _ _ rfl i0 Try.underlying29 hi Mg.enc_len rfl HMa.out rfl (k := k) rfl (by omega) ?_; intro hs1)
          | (at_builtin; go_loud (refine wpList_flat_app rfl _ _ 29 rfl i0 z0 32 Try.underlying29 hi hz0 hz1 hz2 hz3 Mg.enc_len (by omega) Mg.enc_one rfl HOa.out rfl hs1 (by unfold maxLen; simp only [List.length_nil]; omega) (by simp only [List.length_nil]; omega) (by simp) ?_)))
        intro v1 wb ho1 hg1 hb1
        have hb1' := (below_alloc wq (.cells #[] 51)).trans hb1
        have HB1 := Lib.hid hb1'
        have hlq : w.heap.size < wq.heap.size := (Array.getElem?_eq_some_iff.1 HBX.out).1
        obtain ⟨b0, b1, b2, b3⟩ := box4 ((hb1'.block w.heap.size hlq).trans HBX.out)
        have HOb : Hid (OwnF Mg.enc 4 51 (wb.alloc (.cells #[.int .i64 l, .int .i64 r, .int .i64 o, .int .i64 d] 51)) wq.heap.size v1 (M.take k)) := Lib.hid (ho1.alloc _)
        have HSb : Hid (SlF 4 (wb.alloc (.cells #[.int .i64 l, .int .i64 r, .int .i64 o, .int .i64 d] 51)) (some ⟨wb.heap.size, 0, none⟩) 1 1 (flat Mg.enc [⟨l, r, o, d⟩])) := Lib.hid (SlF.one Mg.enc_len wb ⟨l, r, o, d⟩ 51 (cs := #[.int .i64 l, .int .i64 r, .int .i64 o, .int .i64 d]) rfl)
        have HSZ : Hid (wq.heap.size ≤ wb.heap.size) := Lib.hid hb1'.size
        clear ho1 hg1 hb1 hb1' hlq
        go_wp2_with (at_builtin; go_loud (refine wpList_flat_app rfl _ _ 29 rfl i0 z0 32 Try.underlying29 hi hz0 hz1 hz2 hz3 Mg.enc_len (by omega) Mg.enc_one rfl HOb.out rfl HSb.out (by have := HLT.out; unfold maxLen; omega) (by have := HLT.out; omega) (by have := HSZ.out; simp; omega) ?_))
        intro v2 wc ho2 hg2 hb2
        have hb2' := (HB1.out.alloc HB1.out.size _).trans hb2
        have HB2 := Lib.hid hb2'
        have HMc : Hid (SlF 4 wc (some ⟨b, of, none⟩) mn mc (flat Mg.enc M)) := Lib.hid ((HM.out.below HBQ.out).below hb2')
        have HOc := Lib.hid ho2
        have HSZ2 : Hid (wq.heap.size ≤ wc.heap.size) := Lib.hid hb2'.size
        clear ho2 hg2 hb2 hb2' b0 b1 b2 b3
        go_wp2_with (first
          | (refine wpList_flat_low (enc := Mg.enc) rfl _ _ _ rfl i0 Try.underlying29 hi hz1 Mg.enc_len rfl HMc.out rfl (k := k) rfl (by omega) ?_; intro ao' hs3 hao3)
          | (at_builtin; go_loud (refine wpList_flat_app rfl _ _ 29 rfl i0 z0 32 Try.underlying29 hi hz0 hz1 hz2 hz3 Mg.enc_len (by omega) Mg.enc_one rfl HOc.out rfl hs3 (by have := HLT.out; unfold maxLen; rw [List.length_append]; simp only [List.length_singleton]; omega) (by have := HLT.out; rw [List.length_append]; simp only [List.length_singleton]; omega) HSZ2.out ?_)))
        intro v3 wd ho3 hg3 hb3
        have HO3 := Lib.hid (ho3.mono (Nat.le_trans HB0.out.size HBQ.out.size))
        have HB3 := Lib.hid (HB0.out.trans ((HBQ.out.trans ((HB2.out.trans hb3).mono HBQ.out.size)).mono HB0.out.size))
        clear ho3 hg3 hb3
        go_wp2_with (fail)
        go_ret
        exact ⟨⟨v3, _, rfl, HO3.out, ins_perm M _ k, HSO.out⟩, HB3.out⟩
    · obtain rfl : k = mn := by omega
      have HST : Hid (k = M.length ∨ ahead (mg M k) ⟨l, r, o, d⟩ = false) := Lib.hid (.inl HLM.out.symm)
      have hmix := mixedOrders
      have hg0 : decide ((k : Int) < (k : Int)) = false := by simp
      have hg2 : decide (k < k) = false := by simp
      have hah := fun w => ahead_g ⟨0, 0, 0, 0⟩ ⟨l, r, o, d⟩ w
      go_wp2_with (fail)
      refine wp_region_quiet_grown (by assumption) (by kernel_rfl) ?_
      repeat (any_goals (first | go_big_quiet_step ((go_at_call 33; exact Calls.grown_of (hah _))) | quiet_step ((go_at_call 33; exact Calls.grown_of (hah _)))))
      refine wpQuiet_nil ?_
      intro _ hw'
      obtain ⟨⟨nq2, osq2⟩, hw''⟩ := hw'
      subst hw''
      have HBQ : Hid (Below w0.heap.size w0 (grow (w1.drewN nq2) osq2)) := Lib.hid (HB.out.trans ((below_grow _ _ _).mono HB.out.size))
      have HSO := Lib.hid (putM_sorted HK.out (by have := HLM.out; omega) HST.out)
      have HLT : Hid ((M.take k).length = k) := Lib.hid (by rw [List.length_take, HLM.out]; omega)
      have hbz := HBQ.out.block w.heap.size hs0
      obtain ⟨wq, hwq⟩ : ∃ wq, (grow (w1.drewN nq2) osq2) = wq := ⟨_, rfl⟩
      rw [hwq] at HBQ hbz ⊢
      clear hwq
      have HBX := Lib.hid (hbz.trans HX0.out)
      clear hbz
      have HMa : Hid (SlF 4 (wq.alloc (.cells #[] 51)) mo k mc (flat Mg.enc M)) := Lib.hid ((HM.out.below HBQ.out).alloc _)
      have HOa : Hid (OwnF Mg.enc 4 51 (wq.alloc (.cells #[] 51)) wq.heap.size (.slice (some ⟨wq.heap.size, 0, none⟩) 0 0) []) := Lib.hid (OwnF.made0 wq)
      go_wp2_with (first
        | (refine wpList_flat_high (enc := Mg.enc) rfl _ _ _ rfl i0 Try.underlying29 hi Mg.enc_len rfl HMa.out rfl (k := k) rfl (by omega) ?_; intro hs1)
        | (at_builtin; go_loud (refine wpList_flat_app rfl _ _ 29 rfl i0 z0 32 Try.underlying29 hi hz0 hz1 hz2 hz3 Mg.enc_len (by omega) Mg.enc_one rfl HOa.out rfl hs1 (by unfold maxLen; simp only [List.length_nil]; omega) (by simp only [List.length_nil]; omega) (by simp) ?_)))
      intro v1 wb ho1 hg1 hb1
      have hb1' := (below_alloc wq (.cells #[] 51)).trans hb1
      have HB1 := Lib.hid hb1'
      have hlq : w.heap.size < wq.heap.size := (Array.getElem?_eq_some_iff.1 HBX.out).1
      obtain ⟨b0, b1, b2, b3⟩ := box4 ((hb1'.block w.heap.size hlq).trans HBX.out)
      have HOb : Hid (OwnF Mg.enc 4 51 (wb.alloc (.cells #[.int .i64 l, .int .i64 r, .int .i64 o, .int .i64 d] 51)) wq.heap.size v1 (M.take k)) := Lib.hid (ho1.alloc _)
      have HSb : Hid (SlF 4 (wb.alloc (.cells #[.int .i64 l, .int .i64 r, .int .i64 o, .int .i64 d] 51)) (some ⟨wb.heap.size, 0, none⟩) 1 1 (flat Mg.enc [⟨l, r, o, d⟩])) := Lib.hid (SlF.one Mg.enc_len wb ⟨l, r, o, d⟩ 51 (cs := #[.int .i64 l, .int .i64 r, .int .i64 o, .int .i64 d]) rfl)
      have HSZ : Hid (wq.heap.size ≤ wb.heap.size) := Lib.hid hb1'.size
      clear ho1 hg1 hb1 hb1' hlq
      go_wp2_with (at_builtin; go_loud (refine wpList_flat_app rfl _ _ 29 rfl i0 z0 32 Try.underlying29 hi hz0 hz1 hz2 hz3 Mg.enc_len (by omega) Mg.enc_one rfl HOb.out rfl HSb.out (by have := HLT.out; unfold maxLen; omega) (by have := HLT.out; omega) (by have := HSZ.out; simp; omega) ?_))
      intro v2 wc ho2 hg2 hb2
      have hb2' := (HB1.out.alloc HB1.out.size _).trans hb2
      have HB2 := Lib.hid hb2'
      have HMc : Hid (SlF 4 wc mo k mc (flat Mg.enc M)) := Lib.hid ((HM.out.below HBQ.out).below hb2')
      have HOc := Lib.hid ho2
      have HSZ2 : Hid (wq.heap.size ≤ wc.heap.size) := Lib.hid hb2'.size
      clear ho2 hg2 hb2 hb2' b0 b1 b2 b3
      go_wp2_with (first
        | (refine wpList_flat_low (enc := Mg.enc) rfl _ _ _ rfl i0 Try.underlying29 hi hz1 Mg.enc_len rfl HMc.out rfl (k := k) rfl (by omega) ?_; intro ao' hs3 hao3)
        | (at_builtin; go_loud (refine wpList_flat_app rfl _ _ 29 rfl i0 z0 32 Try.underlying29 hi hz0 hz1 hz2 hz3 Mg.enc_len (by omega) Mg.enc_one rfl HOc.out rfl hs3 (by have := HLT.out; unfold maxLen; rw [List.length_append]; simp only [List.length_singleton]; omega) (by have := HLT.out; rw [List.length_append]; simp only [List.length_singleton]; omega) HSZ2.out ?_)))
      intro v3 wd ho3 hg3 hb3
      have HO3 := Lib.hid (ho3.mono (Nat.le_trans HB0.out.size HBQ.out.size))
      have HB3 := Lib.hid (HB0.out.trans ((HBQ.out.trans ((HB2.out.trans hb3).mono HBQ.out.size)).mono HB0.out.size))
      clear ho3 hg3 hb3
      go_wp2_with (fail)
      go_ret
      exact ⟨⟨v3, _, rfl, HO3.out, ins_perm M _ k, HSO.out⟩, HB3.out⟩

end Go.Proofs.Yteoncpkfinheoaa
