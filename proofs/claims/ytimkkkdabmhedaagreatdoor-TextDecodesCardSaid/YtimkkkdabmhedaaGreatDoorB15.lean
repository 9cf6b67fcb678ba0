/- Walk: heap.up over the pile. -/
import Derived.Test.YtimkkkdabmhedaaGreatDoorB14
namespace Go.Proofs.YtimkkkdabmhedaaGreatDoor
open Go.RowKit Go.ChangeMaps
set_option linter.unusedVariables false

/-- The same entries, and from n on the same places. -/
structure Rest (L L' : List Ent) (n : Nat) : Prop where
  len : L'.length = L.length
  mem : ∀ e, e ∈ L' ↔ e ∈ L
  tail : ∀ k, n ≤ k → en L' k = en L k
theorem Rest.refl (L : List Ent) (n : Nat) : Rest L L n := ⟨rfl, fun _ => Iff.rfl, fun _ _ => rfl⟩
theorem Rest.trans {A B C : List Ent} {n : Nat} (h : Rest A B n) (h2 : Rest B C n) : Rest A C n := ⟨h2.len.trans h.len, fun e => (h2.mem e).trans (h.mem e), fun k hk => (h2.tail k hk).trans (h.tail k hk)⟩
theorem Rest.swp {L : List Ent} {n i j : Nat} (hi : i < n) (hj : j < n) (hn : n ≤ L.length) : Rest L (swp L i j) n := by
  refine ⟨swp_len L i j, fun e => ⟨fun h => mem_swp (by omega) (by omega) h, fun h => ?_⟩, fun k hk => ?_⟩
  · obtain ⟨k, hk, rfl⟩ := List.getElem_of_mem h
    rw [en_get hk]
    have hE := fun q => en_swp (L := L) (i := i) (j := j) q (by omega) (by omega)
    have key : ∀ q, q < L.length → ∀ e, en (Go.Proofs.YtimkkkdabmhedaaGreatDoor.swp L i j) q = e → e ∈ Go.Proofs.YtimkkkdabmhedaaGreatDoor.swp L i j := fun q hq e he => he ▸ List.mem_of_getElem? (en_eq (by rw [swp_len]; exact hq))
    by_cases e1 : k = i
    · exact key j (by omega) _ (by rw [hE j, if_pos rfl, e1])
    · by_cases e2 : k = j
      · refine key i (by omega) _ ?_
        rw [hE i]
        by_cases e3 : i = j
        · rw [if_pos e3, e2, e3]
        · rw [if_neg e3, if_pos rfl, e2]
      · exact key k hk _ (by rw [hE k, if_neg e2, if_neg e1])
  · rw [en_swp k (by omega) (by omega), if_neg (by omega), if_neg (by omega)]

theorem m_less (n : Nat) (a : Addr) (w : World) : (method (n + 1) 217 (.pointer (some a)) "Less").run Tryz.prog w = .ok (212, .pointer (some a)) w := by kernel_rfl
theorem m_swap (n : Nat) (a : Addr) (w : World) : (method (n + 1) 217 (.pointer (some a)) "Swap").run Tryz.prog w = .ok (215, .pointer (some a)) w := by kernel_rfl

set_option maxHeartbeats 2000000 in
set_option maxRecDepth 100000 in
theorem up_calls {base g mb : Nat} {v : Value} {L : List Ent} (n j : Nat) (w : World) (h : PileV w base g mb v L) (hj : j < n) (hn : n ≤ L.length) (hU : HeapU L n j) :
    Calls Tryz.prog 183 #[.iface 217 (.pointer (some ⟨g, 0, none⟩)), .int .i64 j] w fun e w' => e = .returned (.tuple #[]) ∧ ∃ L', PileV w' base g mb v L' ∧ Heap L' n ∧ Rest L L' n ∧ Trod w w' g mb v v := by
  have H := Lib.hid h
  have HU := Lib.hid hU
  have hsm := h.small
  have ml := m_less
  have ms := m_swap
  clear h hU
  go_enter Tryz.func183, Tryz.ntmps183
  go_wp2_with (fail)
  go_loopw [1] (fun jv wr => ∃ (k : Nat) (L' : List Ent), jv = .int .i64 k ∧ k < n ∧ Hid (PileV wr base g mb v L') ∧ Hid (HeapU L' n k) ∧ Hid (Rest L L' n) ∧ Hid (Trod w wr g mb v v)) (fun jv _ => (intOf jv).toNat)
  case atStart => exact ⟨j, L, rfl, hj, H, HU, Lib.hid (Rest.refl L n), Lib.hid (Trod.of (Below.refl _ _))⟩
  case round =>
    obtain ⟨k, L', rfl, hk, HP', HU', HR', HT'⟩ := hrel
    by_cases hk0 : k = 0
    · subst hk0
      go_wp2_with (fail)
      go_end0
      exact ⟨rfl, L', HP'.out, up_stop HU'.out (.inl rfl), HR'.out, HT'.out⟩
    · have hlp := par_lt (i := k) (by omega)
      have hl' := HR'.out.len
      have hC := pileLess_calls k (par k) wr HP'.out (by omega) (by omega)
      obtain ⟨p, hp⟩ : ∃ p, par k = p := ⟨_, rfl⟩
      have hp2 : (k - 1) / 2 = p := hp
      rw [hp] at hC hlp
      have q1 : IntKind.i64.wrap ((k : Int) - 1) = (k : Int) - 1 := by rw [IntKind.wrap_i64]; omega
      have q2 : ((k : Int) - 1).tdiv 2 = (p : Int) := by rw [Int.tdiv_eq_ediv_of_nonneg (by omega)]; omega
      have q3 : IntKind.i64.wrap (p : Int) = (p : Int) := by rw [IntKind.wrap_i64]; omega
      have q4 : ¬ (p : Int) = (k : Int) := by omega
      have HLP := Lib.hid hlp
      have HL := Lib.hid hl'
      have HPE := Lib.hid hp
      obtain ⟨t, ht⟩ : ∃ t, (en L' k).less (en L' p) = t := ⟨_, rfl⟩
      rw [ht] at hC
      have HC := Lib.hid hC
      have HT := Lib.hid ht
      clear hC hlp hl' hp hp2 ht
      cases t with
      | false =>
        go_wp2_with (go_at_call 212; refine HC.out.mono ?_; rintro e w1 ⟨rfl, hb1⟩)
        go_end0
        exact ⟨rfl, L', HP'.out.below hb1, up_stop HU'.out (.inr (by rw [HPE.out, HT.out]; simp)), HR'.out, HT'.out.trans (Trod.of hb1)⟩
      | true =>
        go_wp2_with (first
          | (go_at_call 212; refine HC.out.mono ?_; rintro e w1 ⟨rfl, hb1⟩)
          | (go_at_call 215; refine (pileSwap_calls p k _ (HP'.out.below hb1) (by have := HL.out; have := HLP.out; omega) (by have := HL.out; omega)).mono ?_; rintro e w2 ⟨rfl, hP2, hT2⟩))
        go_roundw
        case rel =>
          have hlp := HLP.out
          have hl := HL.out
          have hst := up_step HU'.out (by omega) hk (by omega) (by rw [HPE.out]; exact HT.out)
          rw [HPE.out] at hst
          exact ⟨p, swp L' p k, rfl, by omega, Lib.hid hP2, Lib.hid hst, Lib.hid (HR'.out.trans (Rest.swp (by omega) hk (by omega))), Lib.hid (HT'.out.trans ((Trod.of hb1).trans hT2))⟩
        case measure => have := HLP.out; simp [intOf]; omega

end Go.Proofs.YtimkkkdabmhedaaGreatDoor
