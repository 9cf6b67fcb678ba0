/- Walk: heap.Push over the pile. -/
import Derived.Test.YtimkkkdabmhedaaGreatDoorB16
namespace Go.Proofs.YtimkkkdabmhedaaGreatDoor
open Go.RowKit Go.ChangeMaps
set_option linter.unusedVariables false

theorem m_len (n : Nat) (a : Addr) (w : World) : (method (n + 1) 217 (.pointer (some a)) "Len").run Tryz.prog w = .ok (174, .pointer (some a)) w := by kernel_rfl
theorem m_push (n : Nat) (a : Addr) (w : World) : (method (n + 1) 217 (.pointer (some a)) "Push").run Tryz.prog w = .ok (214, .pointer (some a)) w := by kernel_rfl

set_option maxHeartbeats 1000000 in
set_option maxRecDepth 100000 in
theorem hpush_calls {base g mb : Nat} {v : Value} {L : List Ent} (x : Ent) (w : World) (h : PileV w base g mb v L) (hH : Heap L L.length) (hx : ∀ i, i < L.length → (en L i).place ≠ x.place) (hp : -9223372036854775808 ≤ x.place ∧ x.place ≤ 9223372036854775807) (hn : L.length + 1 ≤ 1048576) (hb : base ≤ w.heap.size) :
    Calls Tryz.prog 171 #[.iface 217 (.pointer (some ⟨g, 0, none⟩)), .iface 186 (.agg #[.int .i64 x.place, .int .i64 x.order, .int .i64 x.out])] w fun e w' => e = .returned (.tuple #[]) ∧ ∃ v' L', PileV w' base g mb v' L' ∧ Heap L' (L.length + 1) ∧ Rest (L ++ [x]) L' (L.length + 1) ∧ Trod w w' g mb v v' := by
  have HC := Lib.hid (pilePush_calls x w h hx hp hn hb)
  have HU := Lib.hid (heap_push (x := x) hH)
  have ml := m_len
  have ms := m_push
  have hl : (L ++ [x]).length = L.length + 1 := by simp
  have HLN := Lib.hid hl
  obtain ⟨n, hn'⟩ : ∃ n, L.length = n := ⟨_, rfl⟩
  rw [hn'] at HU HLN
  have q1 : IntKind.i64.wrap (n : Int) = (n : Int) := by rw [IntKind.wrap_i64]; omega
  rw [hn']
  clear h hH hx hp hn hb hl
  go_enter Tryz.func171, Tryz.ntmps171
  go_wp2_with (first
    | (go_at_call 214; refine HC.out.mono ?_; rintro e w1 ⟨rfl, v1, hP1, hT1⟩; have HP1 := Lib.hid hP1; have HT1 := Lib.hid hT1; clear hP1 hT1)
    | (go_at_call 174; refine (pileLen_calls _ HP1.out).mono ?_; rintro e w2 ⟨rfl, rfl⟩; rw [HLN.out])
    | (go_at_call 183; refine (up_calls (n + 1) n _ HP1.out (by omega) (by rw [HLN.out]; omega) HU.out).mono ?_; rintro e w3 ⟨rfl, L', hP3, hH3, hR3, hT3⟩))
  go_end0
  exact ⟨rfl, v1, L', hP3, hH3, hR3, HT1.out.trans hT3⟩

end Go.Proofs.YtimkkkdabmhedaaGreatDoor

/- Walk: heap.Pop over the pile. -/
namespace Go.Proofs.YtimkkkdabmhedaaGreatDoor
open Go.RowKit Go.ChangeMaps
set_option linter.unusedVariables false

theorem m_pop (n : Nat) (a : Addr) (w : World) : (method (n + 1) 217 (.pointer (some a)) "Pop").run Tryz.prog w = .ok (213, .pointer (some a)) w := by kernel_rfl
theorem last_split {L : List Ent} {n : Nat} (h : L.length = n + 1) : ∃ M, L = M ++ [en L n] ∧ M.length = n := by
  refine ⟨L.take n, ?_, by simp; omega⟩
  apply List.ext_getElem?
  intro k
  rw [List.getElem?_append]
  simp only [List.length_take]
  by_cases hk : k < n
  · rw [if_pos (by omega)]
    simp [hk]
  · rw [if_neg (by omega)]
    by_cases e : k = n
    · subst e
      rw [en_eq (by omega)]
      simp [show min k L.length = k by omega]
    · rw [List.getElem?_eq_none (by omega), List.getElem?_eq_none (by simp; omega)]

set_option maxHeartbeats 1000000 in
set_option maxRecDepth 100000 in
theorem hpop_calls {base g mb : Nat} {v : Value} {L : List Ent} (n : Nat) (w : World) (h : PileV w base g mb v L) (hH : Heap L L.length) (hn : L.length = n + 1) :
    Calls Tryz.prog 153 #[.iface 217 (.pointer (some ⟨g, 0, none⟩))] w fun e w' => e = .returned (.iface 186 (.agg #[.int .i64 (en L 0).place, .int .i64 (en L 0).order, .int .i64 (en L 0).out])) ∧ ∃ v' M, PileV w' base g mb v' M ∧ Heap M n ∧ M.length = n ∧ (∀ e, e ∈ L ↔ e ∈ M ++ [en L 0]) ∧ Trod w w' g mb v v' := by
  have hH' : Heap L (n + 1) := by rw [← hn]; exact hH
  have hD : HeapD (swp L 0 n) n 0 False := by
    by_cases h0 : n = 0
    · subst h0; exact ⟨fun k k0 hk => by omega, fun c c0 hc => by omega⟩
    · exact heap_last hH' (by omega) (by omega)
  have HL := Lib.hid (pileLen_calls w h)
  have HS := Lib.hid (pileSwap_calls 0 n w h (by omega) (by omega))
  have HR := Lib.hid (Rest.swp (L := L) (n := n + 1) (i := 0) (j := n) (by omega) (by omega) (by omega))
  have HD := Lib.hid hD
  have HN := Lib.hid hn
  have hlast : en (swp L 0 n) n = en L 0 := by rw [en_swp n (by omega) (by omega), if_pos rfl]
  have HLA := Lib.hid hlast
  have hsm := h.small
  have q1 : IntKind.i64.wrap (n : Int) = (n : Int) := by rw [IntKind.wrap_i64]; omega
  have ml := m_len
  have mp := m_pop
  have ms := m_swap
  rw [hn] at HL hsm
  clear h hH hH' hD hn hlast
  go_enter Tryz.func153, Tryz.ntmps153
  go_wp2_with (first
    | (go_at_call 174; refine HL.out.mono ?_; rintro e w1 ⟨rfl, rfl⟩)
    | (go_at_call 215; refine HS.out.mono ?_; rintro e w2 ⟨rfl, hP2, hT2⟩; have HP2 := Lib.hid hP2; have HT2 := Lib.hid hT2; clear hP2 hT2)
    | (go_at_call 175; refine (down_calls n 0 _ HP2.out (by omega) (by have := HN.out; rw [swp_len]; omega) HD.out).mono ?_; rintro e w3 ⟨t, L3, rfl, hE⟩; have HE := Lib.hid hE; clear hE; obtain ⟨M, hM, hMl⟩ := last_split (L := L3) (n := n) (by have := HE.out.rest.len; have := HN.out; rw [swp_len] at *; omega); have HM := Lib.hid hM; have HML := Lib.hid hMl; have HP3 := Lib.hid (by have := HE.out.pile; rw [hM] at this; exact this); have HX : Hid (en L3 n = en L 0) := Lib.hid ((HE.out.rest.tail n (Nat.le_refl _)).trans HLA.out); clear hM hMl)
    | (go_at_call 213; refine (pilePop_calls _ _ HP3.out).mono ?_; rintro e w4 ⟨rfl, v4, hP4, hT4⟩))
  go_ret
  have hHL : Heap L3 n := by
    cases t with
    | true => exact HE.out.yes rfl
    | false =>
      obtain ⟨e1, e2⟩ := HE.out.no rfl
      rw [e1]
      exact up_stop e2 (.inl rfl)
  have hM := HM.out
  rw [HX.out] at hM
  refine ⟨by rw [← HX.out]; rfl, v4, M, hP4, ?_, HML.out, fun e => ?_, (HT2.out.trans HE.out.trod).trans hT4⟩
  · intro k k0 hk
    have := hHL k k0 hk
    rw [hM, en_app (by have := HML.out; omega), en_app (by have := HML.out; have := par_lt k0; omega)] at this
    exact this
  · rw [← hM]
    exact ((HR.out.mem e).symm).trans (HE.out.rest.mem e).symm

end Go.Proofs.YtimkkkdabmhedaaGreatDoor
