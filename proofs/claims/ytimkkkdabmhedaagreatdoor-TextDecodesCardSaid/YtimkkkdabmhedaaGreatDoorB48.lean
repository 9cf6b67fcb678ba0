/- Walks: what is more than is gone through; the document's coder. (Printed by gKit16.py.) -/
import Derived.Test.YtimkkkdabmhedaaGreatDoorB47
import Derived.Test.YtimkkkdabmhedaaGreatDoorB11
import Derived.Test.YtimkkkdabmhedaaGreatDoorB35
import Derived.Test.YtimkkkdabmhedaaGreatDoorB29
import Derived.Test.YtimkkkdabmhedaaGreatDoorB9
import Derived.Deep.LoopGhost
import Derived.Test.YtimkkkdabmhedaaGreatDoorB36
import Derived.Test.YtimkkkdabmhedaaGreatDoorB2
import Derived.Test.YtimkkkdabmhedaaGreatDoorB31
namespace Go.Proofs.YtimkkkdabmhedaaGreatDoor
open Go.RowKit
set_option linter.unusedVariables false

def GreatK (V : Vc) (N : List ByteArray) (T : List Rg) : Prop := GreatV V ∨ 20 < N.length ∨ 80 < T.length ∨ ∃ s ∈ N, 40 < s.size
def Great16Post (V : Vc) (N : List ByteArray) (T : List Rg) (w : World) (e : Ending) (w' : World) : Prop := (∃ b, e = .returned (.bool b) ∧ (b = true ↔ GreatK V N T)) ∧ Below w.heap.size w w'

set_option maxHeartbeats 1000000 in
theorem great16_calls {V : Vc} {dd : Vd} {N : List ByteArray} {T : List Rg} {no to_ : Option Addr} {nn nc tn tc : Nat} (w : World) (hV : VocR w dd V) (hok : (∀ s ∈ V.tokens, s.size ≤ maxLen) ∧ Sized V.specials) (hN : SlS w no nn nc N) (hNs : ∀ s ∈ N, s.size ≤ maxLen)
    (hT : SlF 3 w to_ tn tc (flat Rg.enc T)) : Calls Tryz.prog 12 #[dd.val, .slice no nn nc, .slice to_ tn tc] w (Great16Post V N T w) := by
  obtain ⟨ta, tn', tc', ma, mn, mc, sa, sn, sc⟩ := dd
  obtain ⟨w0, hw0⟩ : ∃ w0, w.alloc (.cells #[.slice ta tn' tc', .slice ma mn mc, .slice sa sn sc] 26) = w0 := ⟨_, rfl⟩
  have hb0 : Below w.heap.size w w0 := hw0 ▸ below_alloc w _
  have hx0 : w0.heap[w.heap.size]? = some (.cells #[.slice ta tn' tc', .slice ma mn mc, .slice sa sn sc] 26) := by rw [← hw0]; exact heap_alloc_new w _
  obtain ⟨c0, c1, c2⟩ := box3v hx0
  have hgr := greatV_calls (dd := ⟨ta, tn', tc', ma, mn, mc, sa, sn, sc⟩) w0 (hV.below hb0) hok
  have HN := Lib.hid (hN.below hb0)
  have HB0 := Lib.hid hb0
  have HNS := Lib.hid hNs
  have HNL := Lib.hid hN.count
  have HTL := Lib.hid (hT.count Rg.enc_len (by omega))
  have hm1 := Nat.le_trans (Sl.le hN) (Sl.max hN)
  have hm2 := Nat.le_trans hT.le hT.max
  unfold maxLen at hm1 hm2
  have HW0 := Lib.hid hw0
  clear hV hN hT hNs hb0 hx0 hw0 hok
  go_enter Tryz.func12, Tryz.ntmps12
  go_wp2_with (fail)
  rw [HW0.out]
  refine hgr.mono ?_
  rintro e w1 ⟨⟨b, rfl, hb⟩, hb1⟩
  have HB1 := Lib.hid (HB0.out.trans (hb1.mono HB0.out.size))
  have HG := Lib.hid hb
  have HN1 := Lib.hid (Sl.below HN.out hb1)
  clear hb hb1 hgr c0 c1 c2 HN
  cases b with
  | true =>
    have HF : Hid (GreatK V N T) := Lib.hid (.inl (HG.out.1 rfl))
    go_wp2_with (fail)
    go_ret
    exact ⟨⟨_, rfl, (fun _ => HF.out), (fun _ => rfl)⟩, HB1.out⟩
  | false =>
  by_cases h20 : (20 : Int) < nn
  · have HF : Hid (GreatK V N T) := Lib.hid (.inr (.inl (by rw [HNL.out]; omega)))
    go_wp2_with (fail)
    go_ret
    exact ⟨⟨_, rfl, (fun _ => HF.out), (fun _ => rfl)⟩, HB1.out⟩
  by_cases h80 : (80 : Int) < tn
  · have HF : Hid (GreatK V N T) := Lib.hid (.inr (.inr (.inl (by rw [HTL.out]; omega))))
    go_wp2_with (fail)
    go_ret
    exact ⟨⟨_, rfl, (fun _ => HF.out), (fun _ => rfl)⟩, HB1.out⟩
  go_wp2_with (fail)
  go_loop [7, 22] (fun _ i => ∃ k : Nat, k ≤ nn ∧ i = .int .i64 k ∧ Hid (∀ j, j < k → ¬ 40 < (tk N j).size)) (fun _ i => nn - (intOf i).toNat)
  case atStart => exact ⟨0, Nat.zero_le _, rfl, Lib.hid (fun j h => by omega)⟩
  case round =>
    obtain ⟨k, hk, rfl, HK⟩ := hrel
    by_cases hlt : k < nn
    · have hkT : k < N.length := by have := HNL.out; omega
      obtain ⟨b, o, hao, hc⟩ := SlS.cell HN1.out (tk_eq hkT)
      subst hao
      have hks := HNS.out _ (tk_mem hkT)
      unfold maxLen at hks
      by_cases h40 : (40 : Int) < (tk N k).size
      · have HF : Hid (GreatK V N T) := Lib.hid (.inr (.inr (.inr ⟨_, tk_mem hkT, by omega⟩)))
        go_wp2_with (fail)
        go_ret
        exact ⟨⟨_, rfl, (fun _ => HF.out), (fun _ => rfl)⟩, HB1.out⟩
      · have HK2 : Hid (∀ j, j < k + 1 → ¬ 40 < (tk N j).size) := Lib.hid (fun j hj => by
          by_cases e : j = k
          · subst e; omega
          · exact HK.out j (by omega))
        go_wp2_with (fail)
        go_round
        case rel => exact ⟨k + 1, by omega, by go_num, HK2⟩
        case measure => simp [intOf]; omega
    · have HF : Hid (¬ GreatK V N T) := Lib.hid (by
        rintro (h | h | h | ⟨s, hs, h⟩)
        · have := HG.out.2 h; cases this
        · have := HNL.out; omega
        · have := HTL.out; omega
        · obtain ⟨j, hj, rfl⟩ := mem_tk hs
          exact HK.out j (by have := HNL.out; omega) h)
      go_wp2_with (fail)
      go_ret
      exact ⟨⟨_, rfl, (fun h => by cases h), (fun h => absurd h HF.out)⟩, HB1.out⟩

def noC : Value := .agg #[.slice none 0 0, .slice none 0 0, .slice none 0 0, .slice none 0 0, .int .i64 0, .slice none 0 0]
def New16Post (dd : Vd) (no : Option Addr) (nn nc : Nat) (V : Vc) (N : List ByteArray) (kind : Int) (T : List Rg) (room : Int) (w : World) (e : Ending) (w' : World) : Prop :=
  ((¬ May V ∧ e = .returned (.tuple #[noC, .int .i64 2])) ∨ (May V ∧ ¬ OkKit N kind T room ∧ e = .returned (.tuple #[noC, .int .i64 1])) ∨
    (May V ∧ OkKit N kind T room ∧ ∃ to_ tn tc, e = .returned (.tuple #[.agg #[.slice dd.ta dd.tn dd.tc, .slice dd.ma dd.mn dd.mc, .slice dd.sa dd.sn dd.sc, .slice no nn nc, .int .i64 kind, .slice to_ tn tc], .int .i64 0]) ∧ SlF 3 w' to_ tn tc (flat Rg.enc (tabOf T)))) ∧ Below w.heap.size w w'
theorem box6 {w : World} {g : Nat} {a b c d e f : Value} {t : TypeId} (h : w.heap[g]? = some (.cells #[a, b, c, d, e, f] t)) :
    w.cell? ⟨g, 0, none⟩ = some a ∧ w.cell? ⟨g, 1, none⟩ = some b ∧ w.cell? ⟨g, 2, none⟩ = some c ∧ w.cell? ⟨g, 3, none⟩ = some d ∧ w.cell? ⟨g, 4, none⟩ = some e ∧ w.cell? ⟨g, 5, none⟩ = some f ∧ ∀ o, w.frozen? ⟨g, o, none⟩ = false := by
  simp [World.cell?, World.frozen?, h]

set_option maxHeartbeats 2000000 in
set_option maxRecDepth 100000 in
theorem rnew16_calls {V : Vc} {dd : Vd} {N : List ByteArray} {kind : Int} {T : List Rg} {room : Int} {no to_ : Option Addr} {nn nc tn tc : Nat} (w : World) (hV : VocR w dd V) (hok : VOk V) (hN : SlS w no nn nc N) (hNs : ∀ s ∈ N, s.size ≤ maxLen)
    (hT : SlF 3 w to_ tn tc (flat Rg.enc T)) : Calls Tryz.prog 15 #[dd.val, .slice no nn nc, .int .i64 kind, .slice to_ tn tc, .int .i64 room] w (New16Post dd no nn nc V N kind T room w) := by
  obtain ⟨ta, tn', tc', ma, mn, mc, sa, sn, sc⟩ := dd
  obtain ⟨w0, hw0⟩ : ∃ w0, (w.alloc (.cells #[.slice ta tn' tc', .slice ma mn mc, .slice sa sn sc] 26)).alloc (.cells #[.slice none 0 0, .slice none 0 0, .slice none 0 0, .slice none 0 0, .int .i64 0, .slice none 0 0] 37) = w0 := ⟨_, rfl⟩
  have hb0 : Below w.heap.size w w0 := hw0 ▸ (below_alloc w _).alloc (by simp) _
  have hx0 : w0.heap[w.heap.size]? = some (.cells #[.slice ta tn' tc', .slice ma mn mc, .slice sa sn sc] 26) := by rw [← hw0]; exact (Below.heap_alloc _ _ _ (by simp)).trans (heap_alloc_new w _)
  have hx1 : w0.heap[w.heap.size + 1]? = some (.cells #[.slice none 0 0, .slice none 0 0, .slice none 0 0, .slice none 0 0, .int .i64 0, .slice none 0 0] 37) := by
    rw [← hw0]
    have := heap_alloc_new (w.alloc (.cells #[.slice ta tn' tc', .slice ma mn mc, .slice sa sn sc] 26)) (.cells #[.slice none 0 0, .slice none 0 0, .slice none 0 0, .slice none 0 0, .int .i64 0, .slice none 0 0] 37)
    simpa using this
  have hsz1 : w.heap.size < w0.heap.size := by rw [← hw0]; simp; omega
  have hsz2 : w.heap.size + 1 < w0.heap.size := by rw [← hw0]; simp
  have HSZ1 := Lib.hid hsz1
  have HSZ2 := Lib.hid hsz2
  obtain ⟨c0, c1, c2⟩ := box3v hx0
  have hma := rmay_calls (dd := ⟨ta, tn', tc', ma, mn, mc, sa, sn, sc⟩) w0 (hV.below hb0) hok
  have HBC : Hid (w.heap.size ≤ w.heap.size + 1) := Lib.hid (by omega)
  have HN := Lib.hid (Sl.below hN hb0)
  have HT := Lib.hid (hT.below hb0)
  have HTW := Lib.hid hT
  have HB0 := Lib.hid hb0
  have HX0 := Lib.hid hx0
  have HX1 := Lib.hid hx1
  have HNS := Lib.hid hNs
  have HTL := Lib.hid (hT.count Rg.enc_len (by omega))
  have HW0 := Lib.hid hw0
  clear hV hN hT hNs hb0 hx0 hx1 hw0 hok hsz1 hsz2
  go_enter Tryz.func15, Tryz.ntmps15
  go_wp2_with (fail)
  rw [HW0.out]
  refine hma.mono ?_
  rintro e w1 ⟨⟨b, rfl, hb⟩, hb1⟩
  have HB1 := Lib.hid hb1
  have HM := Lib.hid hb
  clear hb hb1 hma c0 c1 c2
  cases b with
  | false =>
    have HF : Hid (¬ May V) := Lib.hid (fun h => no_of HM.out rfl h)
    obtain ⟨c0, c1, c2⟩ := box3v ((HB1.out.block w.heap.size HSZ1.out).trans HX0.out)
    obtain ⟨b0, b1, b2, b3, b4, b5, bf⟩ := box6 ((HB1.out.block (w.heap.size + 1) HSZ2.out).trans HX1.out)
    go_wp2_with (fail)
    refine bodyPost_ret (v := .tuple #[noC, .int .i64 2]) ?_ rfl ⟨.inl ⟨HF.out, rfl⟩, ?_⟩
    · simp [results, Tryz.results15, go_sem, b0, b1, b2, b3, b4, b5, noC]
    · exact ((((((HB0.out.trans ((HB1.out).mono HB0.out.size)).setCell HBC.out _).setCell HBC.out _).setCell HBC.out _).setCell HBC.out _).setCell HBC.out _).setCell HBC.out _
  | true =>
  have HM1 := Lib.hid (HM.out.1 rfl)
  have hmn := rmayNames_calls w1 (Sl.below HN.out HB1.out) HNS.out
  clear HM
  go_wp2_with (fail)
  refine hmn.mono ?_
  rintro e w2 ⟨⟨b, rfl, hb⟩, hb2⟩
  have HB2 := Lib.hid (HB1.out.trans (hb2.mono HB1.out.size))
  have HI1 := Lib.hid hb
  clear hb hb2 hmn
  cases b with
  | false =>
    have HF : Hid (¬ OkKit N kind T room) := Lib.hid (fun h => no_of HI1.out rfl h.1)
    obtain ⟨c0, c1, c2⟩ := box3v ((HB2.out.block w.heap.size HSZ1.out).trans HX0.out)
    obtain ⟨b0, b1, b2, b3, b4, b5, bf⟩ := box6 ((HB2.out.block (w.heap.size + 1) HSZ2.out).trans HX1.out)
    go_wp2_with (fail)
    refine bodyPost_ret (v := .tuple #[noC, .int .i64 1]) ?_ rfl ⟨.inr (.inl ⟨HM1.out, HF.out, rfl⟩), ?_⟩
    · simp [results, Tryz.results15, go_sem, b0, b1, b2, b3, b4, b5, noC]
    · exact ((((((HB0.out.trans ((HB2.out).mono HB0.out.size)).setCell HBC.out _).setCell HBC.out _).setCell HBC.out _).setCell HBC.out _).setCell HBC.out _).setCell HBC.out _
  | true =>
  have HN1 := Lib.hid (HI1.out.1 rfl)
  by_cases hk0 : kind < 0
  · have HF : Hid (¬ OkKit N kind T room) := Lib.hid (fun h => by have := h.2.1; omega)
    obtain ⟨c0, c1, c2⟩ := box3v ((HB2.out.block w.heap.size HSZ1.out).trans HX0.out)
    obtain ⟨b0, b1, b2, b3, b4, b5, bf⟩ := box6 ((HB2.out.block (w.heap.size + 1) HSZ2.out).trans HX1.out)
    go_wp2_with (fail)
    refine bodyPost_ret (v := .tuple #[noC, .int .i64 1]) ?_ rfl ⟨.inr (.inl ⟨HM1.out, HF.out, rfl⟩), ?_⟩
    · simp [results, Tryz.results15, go_sem, b0, b1, b2, b3, b4, b5, noC]
    · exact ((((((HB0.out.trans ((HB2.out).mono HB0.out.size)).setCell HBC.out _).setCell HBC.out _).setCell HBC.out _).setCell HBC.out _).setCell HBC.out _).setCell HBC.out _
  by_cases hk3 : (3 : Int) < kind
  · have HF : Hid (¬ OkKit N kind T room) := Lib.hid (fun h => by have := h.2.2.1; omega)
    obtain ⟨c0, c1, c2⟩ := box3v ((HB2.out.block w.heap.size HSZ1.out).trans HX0.out)
    obtain ⟨b0, b1, b2, b3, b4, b5, bf⟩ := box6 ((HB2.out.block (w.heap.size + 1) HSZ2.out).trans HX1.out)
    go_wp2_with (fail)
    refine bodyPost_ret (v := .tuple #[noC, .int .i64 1]) ?_ rfl ⟨.inr (.inl ⟨HM1.out, HF.out, rfl⟩), ?_⟩
    · simp [results, Tryz.results15, go_sem, b0, b1, b2, b3, b4, b5, noC]
    · exact ((((((HB0.out.trans ((HB2.out).mono HB0.out.size)).setCell HBC.out _).setCell HBC.out _).setCell HBC.out _).setCell HBC.out _).setCell HBC.out _).setCell HBC.out _
  have hcm := rclassMay_calls w2 (HT.out.below HB2.out)
  go_wp2_with (fail)
  refine hcm.mono ?_
  rintro e w3 ⟨⟨b, rfl, hb⟩, hb3⟩
  have HB3 := Lib.hid (HB2.out.trans (hb3.mono HB2.out.size))
  have HI2 := Lib.hid hb
  clear hb hb3 hcm
  obtain ⟨c0, c1, c2⟩ := box3v ((HB3.out.block w.heap.size HSZ1.out).trans HX0.out)
  obtain ⟨b0, b1, b2, b3, b4, b5, bf⟩ := box6 ((HB3.out.block (w.heap.size + 1) HSZ2.out).trans HX1.out)
  cases b with
  | false =>
    have HF : Hid (¬ OkKit N kind T room) := Lib.hid (fun h => no_of HI2.out rfl h.2.2.2.1)
    go_wp2_with (fail)
    refine bodyPost_ret (v := .tuple #[noC, .int .i64 1]) ?_ rfl ⟨.inr (.inl ⟨HM1.out, HF.out, rfl⟩), ?_⟩
    · simp [results, Tryz.results15, go_sem, b0, b1, b2, b3, b4, b5, noC]
    · exact ((((((HB0.out.trans ((HB3.out).mono HB0.out.size)).setCell HBC.out _).setCell HBC.out _).setCell HBC.out _).setCell HBC.out _).setCell HBC.out _).setCell HBC.out _
  | true =>
  have HT1 := Lib.hid (HI2.out.1 rfl)
  by_cases hr0 : room < 0
  · have HF : Hid (¬ OkKit N kind T room) := Lib.hid (fun h => by have := h.2.2.2.2.1; omega)
    go_wp2_with (fail)
    refine bodyPost_ret (v := .tuple #[noC, .int .i64 1]) ?_ rfl ⟨.inr (.inl ⟨HM1.out, HF.out, rfl⟩), ?_⟩
    · simp [results, Tryz.results15, go_sem, b0, b1, b2, b3, b4, b5, noC]
    · exact ((((((HB0.out.trans ((HB3.out).mono HB0.out.size)).setCell HBC.out _).setCell HBC.out _).setCell HBC.out _).setCell HBC.out _).setCell HBC.out _).setCell HBC.out _
  by_cases hr1 : (1048576 : Int) < room
  · have HF : Hid (¬ OkKit N kind T room) := Lib.hid (fun h => by have := h.2.2.2.2.2; omega)
    go_wp2_with (fail)
    refine bodyPost_ret (v := .tuple #[noC, .int .i64 1]) ?_ rfl ⟨.inr (.inl ⟨HM1.out, HF.out, rfl⟩), ?_⟩
    · simp [results, Tryz.results15, go_sem, b0, b1, b2, b3, b4, b5, noC]
    · exact ((((((HB0.out.trans ((HB3.out).mono HB0.out.size)).setCell HBC.out _).setCell HBC.out _).setCell HBC.out _).setCell HBC.out _).setCell HBC.out _).setCell HBC.out _
  have HOKK : Hid (OkKit N kind T room) := Lib.hid ⟨HN1.out, by omega, by omega, HT1.out, by omega, by omega⟩
  by_cases ht0 : tn = 0
  · have hT0 : T = [] := List.eq_nil_of_length_eq_zero (by have := HTL.out; omega)
    have HTU : Hid (tabOf T = usR) := Lib.hid (by unfold tabOf; rw [if_pos hT0])
    have htc := table_calls w3
    subst ht0
    clear hT0
    go_wp2_with (fail)
    refine htc.mono ?_
    rintro e w4 ⟨v, rfl, ho, hb4⟩
    obtain ⟨ua, uc, rfl, hs⟩ := ho.sl
    have HB4 := Lib.hid (HB3.out.trans (hb4.mono HB3.out.size))
    have HS := Lib.hid ho
    clear ho hb4 hs htc
    obtain ⟨c0, c1, c2⟩ := box3v ((HB4.out.block w.heap.size HSZ1.out).trans HX0.out)
    obtain ⟨b0, b1, b2, b3, b4, b5, bf⟩ := box6 ((HB4.out.block (w.heap.size + 1) HSZ2.out).trans HX1.out)
    go_wp2_with (fail)
    refine bodyPost_ret (v := .tuple #[.agg #[.slice ta tn' tc', .slice ma mn mc, .slice sa sn sc, .slice no nn nc, .int .i64 kind, .slice ua usR.length uc], .int .i64 0]) ?_ rfl ⟨.inr (.inr ⟨HM1.out, HOKK.out, ua, _, uc, rfl, ?_⟩), ?_⟩
    · simp [results, Tryz.results15, go_sem, b0, b1, b2, b3, b4, b5]
    · rw [HTU.out]
      obtain ⟨ao', cap', e', hs'⟩ := OwnF.sl (OwnF.keepG HS.out ((((((KeepG.refl (w.heap.size + 1) w4).set 0 _).set 1 _).set 2 _).set 3 _).set 4 _ |>.set 5 _) (fun q hq => by have := (World.ownsRow.lt HS.out q hq).1; have := HSZ2.out; have := HB3.out.size; omega))
      simp only [Value.slice.injEq] at e'
      obtain ⟨rfl, _, rfl⟩ := e'
      exact hs'
    · exact ((((((HB0.out.trans (HB4.out.mono HB0.out.size)).setCell HBC.out _).setCell HBC.out _).setCell HBC.out _).setCell HBC.out _).setCell HBC.out _).setCell HBC.out _
  · have HTU : Hid (tabOf T = T) := Lib.hid (by unfold tabOf; rw [if_neg (fun e => ht0 (by have := HTL.out; rw [e] at this; simpa using this.symm))])
    have HS := Lib.hid (HT.out.below HB3.out)

    go_wp2_with (fail)
    refine bodyPost_ret (v := .tuple #[.agg #[.slice ta tn' tc', .slice ma mn mc, .slice sa sn sc, .slice no nn nc, .int .i64 kind, .slice to_ tn tc], .int .i64 0]) ?_ rfl ⟨.inr (.inr ⟨HM1.out, HOKK.out, to_, tn, tc, rfl, ?_⟩), ?_⟩
    · simp [results, Tryz.results15, go_sem, b0, b1, b2, b3, b4, b5]
    · rw [HTU.out]
      exact HTW.out.below (((((((HB0.out.trans (HB3.out.mono HB0.out.size)).setCell HBC.out _).setCell HBC.out _).setCell HBC.out _).setCell HBC.out _).setCell HBC.out _).setCell HBC.out _)
    · exact ((((((HB0.out.trans (HB3.out.mono HB0.out.size)).setCell HBC.out _).setCell HBC.out _).setCell HBC.out _).setCell HBC.out _).setCell HBC.out _).setCell HBC.out _

end Go.Proofs.YtimkkkdabmhedaaGreatDoor

/- Walks: a token's symbols, by the program and by the document. (Printed by gSyms.py.) -/
namespace Go.Proofs.YtimkkkdabmhedaaGreatDoor
open Go.RowKit
set_option linter.unusedVariables false

/-- A row of one number, made. -/
theorem own_one (w : World) (x : Int) : Own (w.alloc (.cells #[.int .i64 x] 3)) w.heap.size (.slice (some ⟨w.heap.size, 0, none⟩) 1 1) [x] := by
  refine ⟨by simp, .inr ⟨w.heap.size, 1, #[.int .i64 x], by simp, Nat.le_refl _, heap_alloc_new w _, by simp, by unfold maxLen; omega, by simp, ?_⟩⟩
  simp
end Go.Proofs.YtimkkkdabmhedaaGreatDoor

/- Plain laws: the document's loops over tokens; what a symbol more does. -/
namespace Go.Proofs.YtimkkkdabmhedaaGreatDoor
open Go
set_option linter.unusedVariables false

theorem BestOf.up {seen : List Fr} {s : List Int} {best most : Int} (h : BestOf seen s best most) {r : Fr} (hb : begins s r.1 = true) (hm : most < (r.1.length : Int)) : BestOf (seen ++ [r]) s r.2 (r.1.length : Int) := by
  refine .inr ⟨r, by simp, hb, rfl, rfl, fun q hq hqb => ?_⟩
  rcases List.mem_append.1 hq with hq | hq
  · rcases h with ⟨_, _, h3⟩ | ⟨r0, _, _, _, h4, h5⟩
    · rw [h3 q hq] at hqb; cases hqb
    · have := h5 q hq hqb
      omega
  · simp at hq; rw [hq]; exact Nat.le_refl _
theorem BestOf.no {seen : List Fr} {s : List Int} {best most : Int} (h : BestOf seen s best most) {r : Fr} (hb : begins s r.1 = false) : BestOf (seen ++ [r]) s best most := by
  rcases h with ⟨h1, h2, h3⟩ | ⟨r0, h1, h2, h3, h4, h5⟩
  · refine .inl ⟨h1, h2, fun q hq => ?_⟩
    rcases List.mem_append.1 hq with hq | hq
    · exact h3 q hq
    · simp at hq; rw [hq]; exact hb
  · refine .inr ⟨r0, by simp [h1], h2, h3, h4, fun q hq hqb => ?_⟩
    rcases List.mem_append.1 hq with hq | hq
    · exact h5 q hq hqb
    · simp at hq; rw [hq, hb] at hqb; cases hqb
end Go.Proofs.YtimkkkdabmhedaaGreatDoor

/- Walks: the document's begins, Len, Allowed, Longest; the law's has. -/
namespace Go.Proofs.YtimkkkdabmhedaaGreatDoor
open Go.RowKit
set_option linter.unusedVariables false

/-- What a value of the document's coder reads as. -/
structure CR (w : World) (dd : Vd) (no : Option Addr) (nn nc : Nat) (V : Vc) (N : List ByteArray) : Prop where
  voc : VocR w dd V
  names : SlS w no nn nc N
  t64 : ∀ s ∈ V.tokens, s.size ≤ 64
  n16 : nn ≤ 16
  sp : V.specials.length ≤ 1048576
  tk : V.tokens.length ≤ 1048576
theorem CR.below {w w' : World} {dd : Vd} {no : Option Addr} {nn nc : Nat} {V : Vc} {N : List ByteArray} (h : CR w dd no nn nc V N) (hb : Below w.heap.size w w') : CR w' dd no nn nc V N :=
  ⟨h.voc.below hb, Sl.below h.names hb, h.t64, h.n16, h.sp, h.tk⟩
end Go.Proofs.YtimkkkdabmhedaaGreatDoor

/- Walk: the coder of a kit, and the document's. -/
namespace Go.Proofs.YtimkkkdabmhedaaGreatDoor
open Go.RowKit
set_option linter.unusedVariables false

theorem box7 {w : World} {g : Nat} {a b c d e f x : Value} {t : TypeId} (h : w.heap[g]? = some (.cells #[a, b, c, d, e, f, x] t)) :
    w.cell? ⟨g, 0, none⟩ = some a ∧ w.cell? ⟨g, 1, none⟩ = some b ∧ w.cell? ⟨g, 2, none⟩ = some c ∧ w.cell? ⟨g, 3, none⟩ = some d ∧ w.cell? ⟨g, 4, none⟩ = some e ∧ w.cell? ⟨g, 5, none⟩ = some f ∧ w.cell? ⟨g, 6, none⟩ = some x := by
  simp [World.cell?, h]
theorem CodR.stay {w : World} {base g : Nat} {V : Vc} {N : List ByteArray} {kind : Int} {T : List Rg} {room : Int} {cb mb : Nat} {no : Option Addr} {l : List Row} {hits misses : Int} (h : CodR w base g V N kind T room cb mb no l hits misses) :
    ∀ w', Below w.heap.size w w' → TCod w' base g V N kind T cb := by
  obtain ⟨⟨S, h1, h2⟩, _⟩ := h
  exact fun w' hb => h1 w' (fun q hq => hb.block q (h2 q hq).1.2) hb.size
theorem TCod.mono {w : World} {base base' g : Nat} {V : Vc} {N : List ByteArray} {kind : Int} {T : List Rg} {cb : Nat} (h : TCod w base g V N kind T cb) (hb : base' ≤ base) : TCod w base' g V N kind T cb := by
  obtain ⟨h1, ta, tc, sa, sc, na, nc, ma, mc, oa, oc, eg, hx, a1, a2, a3, a4, a5, a6⟩ := h
  exact ⟨by omega, ta, tc, sa, sc, na, nc, ma, mc, oa, oc, eg, hx, a1.mono hb, a2.mono hb, a3.mono hb, a4.mono hb, a5.mono hb, a6.mono hb⟩
/-- Behind a change of blocks below the coder's. -/
theorem CodR.hold {w w' : World} {base base' g : Nat} {V : Vc} {N : List ByteArray} {kind : Int} {T : List Rg} {room : Int} {cb mb : Nat} {no : Option Addr} {l : List Row} {hits misses : Int} (h : CodR w base g V N kind T room cb mb no l hits misses)
    (hk : ∀ q, base ≤ q → q < w.heap.size → w'.heap[q]? = w.heap[q]?) (hs : w.heap.size ≤ w'.heap.size) (hb : base' ≤ base) :
    ∀ w'', Below w'.heap.size w' w'' → TCod w'' base' g V N kind T cb := by
  obtain ⟨⟨S, h1, h2⟩, _⟩ := h
  exact fun w'' hb' => (h1 w'' (fun q hq => (hb'.block q (Nat.lt_of_lt_of_le (h2 q hq).1.2 hs)).trans (hk q (h2 q hq).1.1 (h2 q hq).1.2)) (Nat.le_trans hs hb'.size)).mono hb

end Go.Proofs.YtimkkkdabmhedaaGreatDoor
