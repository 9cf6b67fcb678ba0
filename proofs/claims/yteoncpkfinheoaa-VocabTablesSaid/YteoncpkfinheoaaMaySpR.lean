/- Walk: may specials be, by the document? (Printed by gSpR.py.) -/
import Derived.Test.YteoncpkfinheoaaMaySp
namespace Go.Proofs.Yteoncpkfinheoaa
open Go.RowKit
set_option linter.unusedVariables false

theorem rmayName_yes {s : ByteArray} (hs : s.size ≤ maxLen) (h : MayName s) (w : World) : Calls Try.prog 48 #[.string s] w fun e w' => e = .returned (.bool true) ∧ w = w' :=
  (rmayName_calls s hs w).mono fun e w' ⟨⟨b, h1, h2⟩, h3⟩ => ⟨by rw [h1, h2.2 h], h3⟩
theorem rmayName_no {s : ByteArray} (hs : s.size ≤ maxLen) (h : ¬ MayName s) (w : World) : Calls Try.prog 48 #[.string s] w fun e w' => e = .returned (.bool false) ∧ w = w' :=
  (rmayName_calls s hs w).mono fun e w' ⟨⟨b, h1, h2⟩, h3⟩ => ⟨by cases b with | false => exact h1 | true => exact absurd (h2.1 rfl) h, h3⟩

structure GoodSR (T : List ByteArray) (S : List Sp) (k : Nat) : Prop where
  ok : ∀ j, j < k → OkSp T (sp S j)
  pair : ∀ i j, i < j → j < k → sless (sp S i).name (sp S j).name = true ∧ (sp S i).id ≠ (sp S j).id
theorem GoodSR.zero (T : List ByteArray) (S : List Sp) : GoodSR T S 0 := ⟨fun j h => by omega, fun i j _ h => by omega⟩
def SpTo (S : List Sp) (k q : Nat) : Prop := ∀ i, i < q → sless (sp S i).name (sp S k).name = true ∧ (sp S i).id ≠ (sp S k).id
theorem SpTo.zero (S : List Sp) (k : Nat) : SpTo S k 0 := fun i h => by omega
theorem SpTo.next {S : List Sp} {k q : Nat} (h : SpTo S k q) (h1 : sless (sp S q).name (sp S k).name = true) (h2 : (sp S q).id ≠ (sp S k).id) : SpTo S k (q + 1) := fun i hi => by
  by_cases e : i = q
  · subst e; exact ⟨h1, h2⟩
  · exact h i (by omega)
theorem GoodSR.next {T : List ByteArray} {S : List Sp} {k q : Nat} (h : GoodSR T S k) (h1 : OkSp T (sp S k)) (h2 : SpTo S k q) (hq : q ≤ k) (hq2 : ¬ q < k) : GoodSR T S (k + 1) := by
  obtain rfl : q = k := by omega
  refine ⟨fun j hj => ?_, fun i j hi hj => ?_⟩
  · by_cases e : j = q
    · subst e; exact h1
    · exact h.ok j (by omega)
  · by_cases e : j = q
    · subst e; exact h2 i hi
    · exact h.pair i j hi (by omega)
theorem GoodSR.all {T : List ByteArray} {S : List Sp} {k n : Nat} (h : GoodSR T S k) (hl : S.length = n) (hk : k ≤ n) (hk2 : ¬ k < n) (hn : n ≤ 16) : MaySp T S := by
  obtain rfl : k = n := by omega
  refine ⟨by omega, fun m hm => ?_, ?_⟩
  · obtain ⟨i, hi, rfl⟩ := List.getElem_of_mem hm
    rw [sp_get hi]; exact h.ok i (by omega)
  · rw [List.pairwise_iff_getElem]
    intro i j hi hj hij
    rw [sp_get hi, sp_get hj]
    exact h.pair i j hij (by omega)

set_option maxHeartbeats 4000000 in
set_option maxRecDepth 100000 in
theorem rmaySpecials_calls {V : Vc} {dd : Vd} (w : World) (hV : VocR w dd V) (hsz : Sized V.specials) :
    Calls Try.prog 36 #[dd.val] w (MaySpPost V.tokens V.specials w) := by
  obtain ⟨T, M, S⟩ := V
  obtain ⟨ta, tn, tc, ma, mn, mc, sa, sn, sc⟩ := dd
  obtain ⟨hT, hM, hS⟩ := hV
  simp only at hT hM hS hsz ⊢
  have hm := Nat.le_trans (Sl.le hT) (Sl.max hT)
  have hmm := Nat.le_trans hS.le hS.max
  unfold maxLen at hm hmm
  have hlen := Lib.hid hT.count
  have hlenS := Lib.hid (hS.count Sp.enc_len (by omega))
  obtain ⟨w0, hw0⟩ : ∃ w0, w.alloc (.cells #[.slice ta tn tc, .slice ma mn mc, .slice sa sn sc] 31) = w0 := ⟨_, rfl⟩
  have hb0 : Below w.heap.size w w0 := hw0 ▸ below_alloc w _
  have hx0 : w0.heap[w.heap.size]? = some (.cells #[.slice ta tn tc, .slice ma mn mc, .slice sa sn sc] 31) := by rw [← hw0]; exact heap_alloc_new w _
  have hs0 : w.heap.size < w0.heap.size := by rw [← hw0]; simp
  obtain ⟨c0, c1, c2⟩ := box3v hx0
  have HT := Lib.hid (Sl.below hT hb0)
  have HSS := Lib.hid (hS.below hb0)
  have HX0 := Lib.hid hx0
  have HB0 := Lib.hid hb0
  have HSZ := Lib.hid hsz
  have HW0 := Lib.hid hw0
  clear hT hM hS hsz hb0 hx0 hw0
  by_cases hl : (16 : Int) < sn
  · have HF := Lib.hid (notMaySp_long (T := T) (S := S) (by have := hlenS.out; omega))
    go_enter Try.func36, Try.ntmps36
    go_wp2_with (fail)
    go_ret
    exact ⟨⟨_, rfl, HF.out⟩, by rw [HW0.out]; exact HB0.out⟩
  · go_enter Try.func36, Try.ntmps36
    go_wp2_with (fail)
    rw [HW0.out]
    go_loopw [3, 4, 5, 13] (fun _ _ _ i wr => ∃ (k : Nat), k ≤ sn ∧ i = .int .i64 k ∧ Hid (GoodSR T S k) ∧ Below w0.heap.size w0 wr) (fun _ _ _ i _ => sn - (intOf i).toNat)
    case atStart => exact ⟨0, Nat.zero_le _, rfl, Lib.hid (GoodSR.zero T S), Below.refl _ _⟩
    case round =>
      obtain ⟨k, hk, rfl, HG, hb⟩ := hrel
      have HB := Lib.hid hb
      clear c0 c1 c2
      obtain ⟨c0, c1, c2⟩ := box3v ((hb.block w.heap.size hs0).trans HX0.out)
      have hlt0 : w.heap.size < wr.heap.size := Nat.lt_of_lt_of_le hs0 hb.size
      clear hb
      by_cases hlt : k < sn
      · have hkS : k < S.length := by have := hlenS.out; omega
        obtain ⟨b, of, rfl, hce⟩ := (HSS.out.below HB.out).elem Sp.enc_len (by omega) (sp_eq hkS)
        have HNS0 := Lib.hid (HSZ.out _ (List.mem_of_getElem? (sp_eq hkS)))
        obtain ⟨⟨nm, id⟩, hseq⟩ : ∃ m, sp S k = m := ⟨_, rfl⟩
        have HNS : Hid (nm.size ≤ maxLen) := Lib.hid (by have := HNS0.out; rw [hseq] at this; exact this)
        rw [hseq] at hce
        have d0 := hce 0 _ rfl
        have d1 := hce 1 _ rfl
        rw [Nat.add_zero] at d0
        simp only at d0 d1
        have HSK := Lib.hid hseq
        obtain ⟨w1, hw1⟩ : ∃ w1, wr.alloc (.cells #[.string nm, .int .i64 id] 48) = w1 := ⟨_, rfl⟩
        have hwb : Below wr.heap.size wr w1 := hw1 ▸ below_alloc wr _
        have hwb' := below_alloc wr (.cells #[.string nm, .int .i64 id] 48)
        have HB1 := Lib.hid (HB.out.trans (hwb.mono HB.out.size))
        have HT1 := Lib.hid (Sl.below HT.out HB1.out)
        have hbx : w1.heap[wr.heap.size]? = some (.cells #[.string nm, .int .i64 id] 48) := by rw [← hw1]; exact heap_alloc_new wr _
        obtain ⟨b0, b1⟩ := box2' hbx
        have f0 := cell_below hwb _ _ c0
        have f2 := cell_below hwb _ _ c2
        have HW1 := Lib.hid hw1
        rw [hw1] at hwb'
        clear hce hseq hbx hw1 hwb'
        by_cases hnm : MayName nm
        · have HNM := Lib.hid hnm
          clear hnm
          by_cases hi0 : id < 0
          · have hg : decide (id < 0) = true := by simpa using hi0
            have HF := Lib.hid (notMaySp_ok (T := T) hkS (fun h => by rw [HSK.out] at h; have := h.2.1; simp only at this; omega))
            go_wp2_with (fail)
            refine (rmayName_yes HNS.out HNM.out _).mono ?_
            rintro e w' ⟨rfl, rfl⟩
            rw [HW1.out]
            go_wp2_with (fail)
            go_ret
            exact ⟨⟨_, rfl, HF.out⟩, HB0.out.trans (HB1.out.mono HB0.out.size)⟩
          have hg0 : decide (id < 0) = false := by simpa using hi0
          by_cases hi1 : (tn : Int) ≤ id
          · have hg : decide ((tn : Int) ≤ id) = true := by simpa using hi1
            have HF := Lib.hid (notMaySp_ok (T := T) hkS (fun h => by rw [HSK.out] at h; have := h.2.2.1; have := hlen.out; simp only at *; omega))
            go_wp2_with (fail)
            refine (rmayName_yes HNS.out HNM.out _).mono ?_
            rintro e w' ⟨rfl, rfl⟩
            rw [HW1.out]
            go_wp2_with (fail)
            go_ret
            exact ⟨⟨_, rfl, HF.out⟩, HB0.out.trans (HB1.out.mono HB0.out.size)⟩
          have hg1 : decide ((tn : Int) ≤ id) = false := by simpa using hi1
          obtain ⟨q, rfl⟩ := Int.eq_ofNat_of_zero_le (Int.not_lt.1 hi0)
          have hqT : q < T.length := by have := hlen.out; omega
          obtain ⟨bt, ot, hao, hct⟩ := SlS.cell HT1.out (tk_eq hqT)
          subst hao
          have gq : (q : Int) < (tn : Int) := by omega
          have gq2 : decide ((tn : Int) ≤ (q : Int)) = false := by simp; omega
          have gq3 : decide ((q : Int) < 0) = false := by simp
          have gq4 : decide (tn ≤ q) = false := by simp; omega
          clear hg0 hg1
          by_cases hz : (tk T q).size = 0
          · obtain ⟨e1, e2, e3⟩ := strE_yes hz
            have e4 : ((tk T q).toList != []) = false := by simp [e1]
            have HZ := Lib.hid hz
            clear hz
            have HOK : Hid (OkSp T (sp S k)) := Lib.hid (by rw [HSK.out]; exact ⟨HNM.out, by simp only; omega, by simp only; omega, HZ.out⟩)
            go_wp2_with (fail)
            refine (rmayName_yes HNS.out HNM.out _).mono ?_
            rintro e w' ⟨rfl, rfl⟩
            rw [HW1.out]
            go_wp2_with (fail)
            obtain ⟨wo, rfl⟩ : ∃ wo : World, wo = wr := ⟨_, rfl⟩
            clear e1 e2 e3 e4 hct
            go_loopw [5] (fun i wq => ∃ (p j : Nat), p ≤ k ∧ i = .int .i64 p ∧ Hid (SpTo S k p) ∧ wq = w1.drewN j) (fun i _ => k - (intOf i).toNat)
            case atStart => exact ⟨0, 0, Nat.zero_le _, rfl, Lib.hid (SpTo.zero S k), rfl⟩
            case round =>
              obtain ⟨p, j, hp, rfl, HP, rfl⟩ := hrel
              by_cases hlp : p < k
              · obtain ⟨⟨pn, pid⟩, hpeq⟩ : ∃ m, sp S p = m := ⟨_, rfl⟩
                obtain ⟨bp, op, hao, hcp⟩ := (HSS.out.below HB1.out).elem Sp.enc_len (by omega) (sp_eq (S := S) (i := p) (by omega))
                simp at hao
                obtain ⟨rfl, rfl⟩ := hao
                rw [hpeq] at hcp
                have p0 := hcp 0 _ rfl
                have p1 := hcp 1 _ rfl
                rw [Nat.add_zero] at p0
                simp only at p0 p1
                have HPEQ := Lib.hid hpeq
                have gp : (p : Int) < (sn : Int) := by omega
                clear hcp hpeq
                cases hbl : Op.bytesLess pn.toList nm.toList with
                | false =>
                  have HF := Lib.hid (notMaySp_rise (T := T) hlp hkS (by rw [HPEQ.out, HSK.out]; exact hbl))
                  go_wp2_with (fail)
                  go_quiet (fail)
                  go_wp2_with (fail)
                  go_ret
                  exact ⟨⟨_, rfl, HF.out⟩, HB0.out.trans ((below_drewN (below_drewN HB1.out _) _).mono HB0.out.size)⟩
                | true =>
                  by_cases hid : pid = (q : Int)
                  · have q1 : (pid == (q : Int)) = true := by simpa using hid
                    have HF := Lib.hid (notMaySp_id (T := T) hlp hkS (by rw [HPEQ.out, HSK.out]; exact hid))
                    clear hid
                    go_wp2_with (fail)
                    go_quiet (fail)
                    go_wp2_with (fail)
                    go_ret
                    exact ⟨⟨_, rfl, HF.out⟩, HB0.out.trans ((below_drewN (below_drewN HB1.out _) _).mono HB0.out.size)⟩
                  · have q1 : (pid == (q : Int)) = false := by simpa using hid
                    have HPn := Lib.hid (HP.out.next (by rw [HPEQ.out, HSK.out]; exact hbl) (by rw [HPEQ.out, HSK.out]; exact hid))
                    clear hid
                    go_wp2_with (fail)
                    go_quiet (fail)
                    go_wp2_with (fail)
                    go_roundw
                    case rel => exact ⟨p + 1, _, by omega, by go_num, HPn, rfl⟩
                    case measure => simp [intOf]; omega
              · have HGn := Lib.hid (HG.out.next HOK.out HP.out hp hlp)
                have HBn := Lib.hid (below_drewN HB1.out j)
                go_wp2_with (fail)
                go_roundw
                case rel => exact ⟨k + 1, by omega, by go_num, HGn, HBn.out⟩
                case measure => simp [intOf]; omega
          · obtain ⟨e1, e2, e3⟩ := strE_no hz
            have e4 : ((tk T q).toList != []) = true := by simp [e1]
            have HF := Lib.hid (notMaySp_ok (T := T) hkS (fun h => by rw [HSK.out] at h; exact hz h.2.2.2))
            clear hz
            go_wp2_with (fail)
            refine (rmayName_yes HNS.out HNM.out _).mono ?_
            rintro e w' ⟨rfl, rfl⟩
            rw [HW1.out]
            go_wp2_with (fail)
            go_ret
            exact ⟨⟨_, rfl, HF.out⟩, HB0.out.trans (HB1.out.mono HB0.out.size)⟩
        · have HNM := Lib.hid hnm
          have HF := Lib.hid (notMaySp_ok (T := T) hkS (fun h => by rw [HSK.out] at h; exact hnm h.1))
          clear hnm
          go_wp2_with (fail)
          refine (rmayName_no HNS.out HNM.out _).mono ?_
          rintro e w' ⟨rfl, rfl⟩
          rw [HW1.out]
          go_wp2_with (fail)
          go_ret
          exact ⟨⟨_, rfl, HF.out⟩, HB0.out.trans (HB1.out.mono HB0.out.size)⟩
      · have HF := Lib.hid (HG.out.all hlenS.out hk hlt (by omega))
        go_wp2_with (fail)
        go_ret
        exact ⟨⟨_, rfl, (fun _ => HF.out), (fun _ => rfl)⟩, HB0.out.trans (HB.out.mono HB0.out.size)⟩

end Go.Proofs.Yteoncpkfinheoaa
