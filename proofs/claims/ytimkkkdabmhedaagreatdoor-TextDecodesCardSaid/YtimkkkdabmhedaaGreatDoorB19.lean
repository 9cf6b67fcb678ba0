/- Walks: the agenda: New, Len, Put, Drop, Take. -/
import Derived.Test.YtimkkkdabmhedaaGreatDoorB18
import Derived.Test.YtimkkkdabmhedaaGreatDoorB1
import Derived.DeepKeys4
import Derived.Maps.Own
import Derived.Lib.SmallJoins
import Derived.Deep.Matrix
import Derived.Deep.Slices
import Derived.Deep.Fields
import Derived.ChangeSame
import Derived.Test.YtimkkkdabmhedaaGreatDoorB8
import Derived.Test.YtimkkkdabmhedaaGreatDoorB9
namespace Go.Proofs.YtimkkkdabmhedaaGreatDoor
open Go.RowKit Go.ChangeMaps
set_option linter.unusedVariables false

/-- An agenda: a pile that is a heap. -/
structure AgV (w : World) (base g mb : Nat) (v : Value) (L : List Ent) : Prop where
  pile : PileV w base g mb v L
  heap : Heap L L.length
theorem AgV.below {w w' : World} {base g mb : Nat} {v : Value} {L : List Ent} (h : AgV w base g mb v L) (hb : Below w.heap.size w w') : AgV w' base g mb v L := ⟨h.pile.below hb, h.heap⟩
theorem AgV.stay {w w' : World} {base g mb : Nat} {v : Value} {L : List Ent} (h : AgV w base g mb v L) (hk : ∀ q, q < w.heap.size → w'.heap[q]? = w.heap[q]?) : AgV w' base g mb v L := ⟨h.pile.stay hk, h.heap⟩

set_option maxHeartbeats 400000 in
theorem aLen_calls {base g mb : Nat} {v : Value} {L : List Ent} (w : World) (h : AgV w base g mb v L) :
    Calls Tryz.prog 152 #[.pointer (some ⟨g, 0, none⟩)] w fun e w' => e = .returned (.int .i64 L.length) ∧ w = w' := by
  have HL := Lib.hid (pileLen_calls w h.pile)
  clear h
  go_enter Tryz.func152, Tryz.ntmps152
  go_wp2_with (go_at_call 174; refine HL.out.mono ?_; rintro e w1 ⟨rfl, rfl⟩)
  go_ret
  exact ⟨rfl, rfl⟩

theorem atL_nil : atL [] = fun _ => none := by funext p; rfl
theorem pile_new (w : World) (base : Nat) (hb : base ≤ w.heap.size) : AgV ((w.alloc (.map #[] 0)).alloc (.cells #[.slice none 0 0, .map (some w.heap.size)] 214)) base (w.heap.size + 1) w.heap.size (.slice none 0 0) [] := by
  refine ⟨⟨?_, OwnF.nil _ _, ?_, fun i j hi => by simp at hi, fun e he => by simp at he, fun q hq => by simp [Value.ownBlock] at hq, ⟨by omega, hb, by omega⟩, by simp⟩, Heap.zero []⟩
  · have := heap_alloc_new (w.alloc (.map #[] 0)) (.cells #[.slice none 0 0, .map (some w.heap.size)] 214)
    simpa using this
  · refine MapK.below ?_ (below_alloc _ _)
    rw [atL_nil]
    exact MapK.new iV 3 w

set_option maxHeartbeats 400000 in
theorem aNew_calls (w : World) :
    Calls Tryz.prog 121 #[] w fun e w' => ∃ g mb, e = .returned (.pointer (some ⟨g, 0, none⟩)) ∧ AgV w' w.heap.size g mb (.slice none 0 0) [] ∧ Below w.heap.size w w' ∧ w'.heap.size ≤ w.heap.size + 2 := by
  have hmk := @run_makeMap Tryz.prog
  have HP := Lib.hid (pile_new w w.heap.size (Nat.le_refl _))
  have HB : Hid (Below w.heap.size w ((w.alloc (.map #[] 0)).alloc (.cells #[.slice none 0 0, .map (some w.heap.size)] 214))) := Lib.hid ((below_alloc w _).trans (Below.mono (below_alloc _ _) (below_alloc w _).size))
  go_enter Tryz.func121, Tryz.ntmps121
  go_wp2_with (fail)
  go_ret
  exact ⟨_, _, rfl, HP.out, HB.out, by simp⟩

theorem ent_mem_ok {w : World} {base g mb : Nat} {v : Value} {L : List Ent} (h : PileV w base g mb v L) {x : Ent} {i : Nat} (hi : i < L.length) (hx : (en L i).place = x.place) : ∀ e ∈ L.set i x, -9223372036854775808 ≤ e.place ∧ e.place ≤ 9223372036854775807 := fun e he => by
  rcases (mem_set h.once hi hx e).1 he with rfl | ⟨h1, _⟩
  · rw [← hx]; exact h.ok _ (List.mem_of_getElem? (en_eq hi))
  · exact h.ok e h1
/-- An entry of the pile is written in its place. -/
theorem pile_put {w : World} {base g mb b rc : Nat} {L : List Ent} (h : PileV w base g mb (.slice (some ⟨b, 0, none⟩) L.length rc) L) {i : Nat} (hi : i < L.length) {x : Ent} (hx : (en L i).place = x.place) :
    PileV (w.setCells b (i * 3) x.enc) base g mb (.slice (some ⟨b, 0, none⟩) L.length rc) (L.set i x) ∧ Trod w (w.setCells b (i * 3) x.enc) g mb (.slice (some ⟨b, 0, none⟩) L.length rc) (.slice (some ⟨b, 0, none⟩) L.length rc) := by
  obtain ⟨hA, hAg, hAs⟩ := Ent.put h.row hi x
  have hf := h.far b rfl
  have hgl := (Array.getElem?_eq_some_iff.1 h.box).1
  have hml := h.at_.lt
  generalize w.setCells b (i * 3) x.enc = W0 at hA hAg hAs ⊢
  have h1 : W0.heap[g]? = w.heap[g]? := hAg.block g hgl (fun e => hf.1 (Option.some.inj e).symm)
  have h2 : W0.heap[mb]? = w.heap[mb]? := hAg.block mb hml (fun e => hf.2 (Option.some.inj e).symm)
  refine ⟨⟨h1.trans h.box, hA, ?_, once_set h.once hi hx, ent_mem_ok h hi hx, h.far, h.lo, by rw [List.length_set]; exact h.small⟩, Trod.row hAg⟩
  rw [List.length_set]
  exact (h.at_.stay (w' := W0) h2).congr rfl (fun s _ => (atL_set h.once hi hx s).symm)

/-- What Put leaves. -/
def PutP (w : World) (base g mb : Nat) (v : Value) (L : List Ent) (x : Ent) (e : Ending) (w' : World) : Prop :=
  e = .returned (.tuple #[]) ∧ ∃ v' L', AgV w' base g mb v' L' ∧ (∀ p, agL L' p = if p = x.place then some (x.order, x.out) else agL L p) ∧ L'.length ≤ L.length + 1 ∧ Trod w w' g mb v v'

set_option maxHeartbeats 2000000 in
set_option maxRecDepth 100000 in
theorem aPut_calls {base g mb : Nat} {v : Value} {L : List Ent} (x : Ent) (w : World) (h : AgV w base g mb v L) (hp : -9223372036854775808 ≤ x.place ∧ x.place ≤ 9223372036854775807) (hn : L.length + 1 ≤ 1048576) (hb : base ≤ w.heap.size) :
    Calls Tryz.prog 150 #[.pointer (some ⟨g, 0, none⟩), .agg #[.int .i64 x.place, .int .i64 x.order, .int .i64 x.out]] w (PutP w base g mb v L x) := by
  obtain ⟨w0, hw0⟩ : ∃ w0, w.alloc (.cells #[.int .i64 x.place, .int .i64 x.order, .int .i64 x.out] 186) = w0 := ⟨_, rfl⟩
  have hb0 : Below w.heap.size w w0 := hw0 ▸ below_alloc w _
  have hx0 : w0.heap[w.heap.size]? = some (.cells #[.int .i64 x.place, .int .i64 x.order, .int .i64 x.out] 186) := by rw [← hw0]; exact heap_alloc_new w _
  have h0 := h.below hb0
  have hbb : base ≤ w0.heap.size := Nat.le_trans hb hb0.size
  obtain ⟨b0, b1, bf⟩ := box2p h0.pile.box
  obtain ⟨x0, x1, x2⟩ := box3e hx0
  have hok : iV.ok x.place := i64_wf.2 hp
  have hlk : ∀ m, (Instr.lookup 209 (.map (some mb)) (.int .i64 x.place) true).run Tryz.prog (w0.drewN m) = .ok (.tuple #[.int .i64 ((atL L x.place).getD 0), .bool (atL L x.place).isSome]) (w0.drewN m) := fun m =>
    MapK.getOk (V := iV) Tryz.underlying209 Tryz.underlying3 zeroI (h0.pile.at_.drewN m) hok
  have HW0 := Lib.hid hw0
  have HB0 := Lib.hid hb0
  have HP := Lib.hid hp
  cases hat : atL L x.place with
  | none =>
    have hx := atL_none.1 hat
    have HC := fun (W : World) (hW : Below w0.heap.size w0 W) => hpush_calls x W (h0.below hW).pile h0.heap hx hp hn (Nat.le_trans hbb hW.size)
    have HCC := Lib.hid HC
    have HX := Lib.hid hx
    have HO := Lib.hid h.pile.once
    rw [hat] at hlk
    simp only [Option.getD_none, Option.isSome_none] at hlk
    clear h0 h hw0 hb0 hx0 hok hp HC hx hat
    go_enter Tryz.func150, Tryz.ntmps150
    go_wp2_with (fail)
    rw [HW0.out]
    go_quiet (fail)
    go_wp2_with (fail)
    go_region_with (go_at_call 171; refine (HCC.out _ (by exact ⟨rfl, rfl, rfl, Nat.le_refl _, fun _ _ => rfl⟩)).mono ?_; rintro e w2 ⟨rfl, v2, L2, hP2, hH2, hR2, hT2⟩; have HP2 := Lib.hid hP2; have HH2 := Lib.hid hH2; have HR2 := Lib.hid hR2; have HT2 := Lib.hid hT2; clear hP2 hH2 hR2 hT2)
    all_goals (
      go_wp2_with (fail)
      refine bodyPost_ret (results_none rfl _ _ _) rfl ⟨rfl, v2, L2, ⟨HP2.out, ?_⟩, fun p => agL_put HO.out HP2.out.once HX.out HR2.out.mem p, ?_, ?_⟩
      · have h1 := HH2.out
        have h2 := HR2.out.len
        rw [List.length_append] at h2
        rw [h2]; exact h1
      · have h2 := HR2.out.len
        rw [List.length_append] at h2
        rw [h2]; exact Nat.le_refl _
      · exact ((Trod.of HB0.out).trans (Trod.of (w := w0) (by exact ⟨rfl, rfl, rfl, Nat.le_refl _, fun _ _ => rfl⟩))).trans HT2.out)
  | some c =>
    obtain ⟨i, rfl, hi, hpl⟩ := atL_at h.pile.once hat
    rw [hat] at hlk
    simp only [Option.getD_some, Option.isSome_some] at hlk
    obtain ⟨b, rc, rfl, hbb, hbl⟩ := h0.pile.row.at0 (by omega)
    have hrow := h0.pile.row
    have hfr := Ent.free hrow
    obtain ⟨ro, rc', e0, hsl⟩ := hrow.sl
    obtain ⟨e1, _, e2⟩ := Value.slice.inj e0
    subst e1 e2
    obtain ⟨b', o', hao', hci⟩ := hsl.elem Ent.enc_len (by omega) (en_eq hi)
    simp only [Option.some.injEq, Addr.mk.injEq, and_true] at hao'
    obtain ⟨rfl, rfl⟩ := hao'
    simp only [Nat.zero_add] at hci
    have d0 := hci 0 _ rfl
    have d1 := hci 1 _ rfl
    have d2 := hci 2 _ rfl
    rw [Nat.add_zero] at d0
    have gi : (i : Int) < (L.length : Int) := by omega
    have gi0 : (0 : Int) ≤ (i : Int) := by omega
    have hPP := fun (q : Nat) => pile_put (w := w0.drewN q) (x := x) (h0.pile.below (below_drewN (Below.refl _ _) q)) hi hpl
    have hFX := fun (q : Nat) => hfix_calls i _ (hPP q).1 (by rw [List.length_set]; exact hi) (by rw [List.length_set]; exact heap_set h0.heap hi (Nat.le_refl _))
    have HPP := Lib.hid hPP
    have HFX := Lib.hid hFX
    have HO := Lib.hid h.pile.once
    have HI := Lib.hid hi
    have HPL := Lib.hid hpl
    obtain ⟨n, hn⟩ : ∃ n, L.length = n := ⟨_, rfl⟩
    have HN := Lib.hid hn
    have HB := Lib.hid (show ∃ y, y = en L i from ⟨_, rfl⟩)
    obtain ⟨y, hy⟩ : ∃ y, en L i = y := ⟨_, rfl⟩
    rw [hy] at d0 d1 d2
    rw [hn] at gi b0 HPP HFX
    clear h0 h hw0 hb0 hx0 hok hp hPP hFX hat hrow hsl hci e0 hi hpl hn hy hbb hbl
    go_enter Tryz.func150, Tryz.ntmps150
    go_wp2_with (fail)
    rw [HW0.out]
    go_quiet (fail)
    go_wp2_with (fail)
    go_region
    all_goals go_wp2_with (fail)
    all_goals (
      go_at_call 172; refine (HFX.out _).mono ?_; rintro e w2 ⟨rfl, L2, hP2, hH2, hR2, hT2⟩; have HP2 := Lib.hid hP2; have HH2 := Lib.hid hH2; have HR2 := Lib.hid hR2; have HT2 := Lib.hid hT2; clear hP2 hH2 hR2 hT2
      go_wp2_with (fail)
      go_end0
      have hl : L2.length = n := by have := HR2.out.len; rw [List.length_set] at this; rw [this]; exact HN.out
      refine ⟨rfl, _, L2, ⟨HP2.out, ?_⟩, fun p => agL_set HO.out HP2.out.once HI.out HPL.out HR2.out.mem p, by rw [hl, HN.out]; omega, ?_⟩
      · have h1 := HH2.out
        rw [List.length_set, HN.out] at h1
        rw [hl]; exact h1
      · rw [HN.out]
        exact (((Trod.of HB0.out).trans (Trod.of (w := w0) (by exact ⟨rfl, rfl, rfl, Nat.le_refl _, fun _ _ => rfl⟩))).trans (HPP.out _).2).trans HT2.out)

/-- What Drop leaves. -/
def DropP (w : World) (base g mb : Nat) (v : Value) (L : List Ent) (pl : Int) (e : Ending) (w' : World) : Prop :=
  (∃ t, e = .returned (.bool t)) ∧ ∃ v' L', AgV w' base g mb v' L' ∧ (∀ p, agL L' p = if p = pl then none else agL L p) ∧ L'.length ≤ L.length ∧ Trod w w' g mb v v'

set_option maxHeartbeats 1000000 in
set_option maxRecDepth 100000 in
theorem aDrop_calls {base g mb : Nat} {v : Value} {L : List Ent} (pl : Int) (w : World) (h : AgV w base g mb v L) (hp : -9223372036854775808 ≤ pl ∧ pl ≤ 9223372036854775807) :
    Calls Tryz.prog 151 #[.pointer (some ⟨g, 0, none⟩), .int .i64 pl] w (DropP w base g mb v L pl) := by
  obtain ⟨b0, b1, bf⟩ := box2p h.pile.box
  have hok : iV.ok pl := i64_wf.2 hp
  have hlk : (Instr.lookup 209 (.map (some mb)) (.int .i64 pl) true).run Tryz.prog w = .ok (.tuple #[.int .i64 ((atL L pl).getD 0), .bool (atL L pl).isSome]) w :=
    MapK.getOk (V := iV) Tryz.underlying209 Tryz.underlying3 zeroI h.pile.at_ hok
  have H := Lib.hid h
  cases hat : atL L pl with
  | none =>
    have hx := agL_none.2 (atL_none.1 hat)
    have HX := Lib.hid hx
    rw [hat] at hlk
    simp only [Option.getD_none, Option.isSome_none] at hlk
    clear h hok hp hx hat
    go_enter Tryz.func151, Tryz.ntmps151
    go_wp2_with (fail)
    go_ret
    refine ⟨⟨_, rfl⟩, v, L, H.out, fun p => ?_, Nat.le_refl _, Trod.of (Below.refl _ _)⟩
    by_cases e : p = pl
    · rw [if_pos e, e]; exact HX.out
    · rw [if_neg e]
  | some c =>
    obtain ⟨i, rfl, hi, hpl⟩ := atL_at h.pile.once hat
    rw [hat] at hlk
    simp only [Option.getD_some, Option.isSome_some] at hlk
    obtain ⟨n, hn⟩ : ∃ n, L.length = n + 1 := ⟨L.length - 1, by omega⟩
    have HR := Lib.hid (hremove_calls n i w h.pile h.heap hn (by omega))
    have HN := Lib.hid hn
    have HPL := Lib.hid hpl
    clear h hok hp hat hi hpl hn
    go_enter Tryz.func151, Tryz.ntmps151
    go_wp2_with (fail)
    go_at_call 173
    refine HR.out.mono ?_
    rintro e w2 ⟨⟨y, rfl⟩, v2, M, hP2, hH2, hl2, hm2, hT2⟩
    have HP2 := Lib.hid hP2
    have HH2 := Lib.hid hH2
    have HL2 := Lib.hid hl2
    have HM2 := Lib.hid hm2
    have HT2 := Lib.hid hT2
    clear hP2 hH2 hl2 hm2 hT2
    go_wp2_with (fail)
    go_ret
    have hl := HL2.out
    have hln := HN.out
    refine ⟨⟨_, rfl⟩, v2, M, ⟨HP2.out, by rw [hl]; exact HH2.out⟩, fun p => ?_, by omega, HT2.out⟩
    have := agL_drop H.out.pile.once HP2.out.once (by omega) HM2.out (once_apart H.out.pile.once HP2.out.once (by omega) HM2.out) p
    rw [HPL.out] at this
    exact this

theorem AgV.other {w w' : World} {base g mb : Nat} {v : Value} {L : List Ent} (h : AgV w base g mb v L) (hk : ∀ q, q = g ∨ q = mb ∨ v.ownBlock = some q → w'.heap[q]? = w.heap[q]?) : AgV w' base g mb v L :=
  ⟨⟨(hk _ (.inl rfl)).trans h.pile.box, own_stay h.pile.row (fun q hq => hk q (.inr (.inr hq))), h.pile.at_.stay (hk _ (.inr (.inl rfl))), h.pile.once, h.pile.ok, h.pile.far, h.pile.lo, h.pile.small⟩, h.heap⟩
theorem Trod.setNew {w W : World} {g mb : Nat} {v v' : Value} (h : Trod w W g mb v v') {b : Nat} (hb : w.heap.size ≤ b) (i : Nat) (u : Value) : Trod w (W.setCell ⟨b, i, none⟩ u) g mb v v' :=
  ⟨h.os, h.tape, h.output, by have := h.size; simpa using this, fun q hq h1 h2 h3 => (heap_setCell_other W ⟨b, i, none⟩ q u (fun (e : q = b) => by omega)).trans (h.block q hq h1 h2 h3), h.new⟩

/-- What Take leaves where something waits. -/
def TakeP (w : World) (base g mb : Nat) (v : Value) (L : List Ent) (e : Ending) (w' : World) : Prop :=
  e = .returned (.tuple #[.agg #[.int .i64 (en L 0).place, .int .i64 (en L 0).order, .int .i64 (en L 0).out], .bool true]) ∧ ∃ v' L', AgV w' base g mb v' L' ∧ (∀ p, agL L' p = if p = (en L 0).place then none else agL L p) ∧ L'.length + 1 = L.length ∧ Trod w w' g mb v v'
set_option maxHeartbeats 1000000 in
set_option maxRecDepth 100000 in
theorem aTake_none {base g mb : Nat} {v : Value} (w : World) (h : AgV w base g mb v []) :
    Calls Tryz.prog 123 #[.pointer (some ⟨g, 0, none⟩)] w fun e w' => e = .returned (.tuple #[.agg #[.int .i64 0, .int .i64 0, .int .i64 0], .bool false]) ∧ Below w.heap.size w w' := by
  have HL : Hid (Calls Tryz.prog 152 #[.pointer (some ⟨g, 0, none⟩)] (w.alloc (.cells #[.int .i64 0, .int .i64 0, .int .i64 0] 186)) fun e w' => e = .returned (.int .i64 0) ∧ (w.alloc (.cells #[.int .i64 0, .int .i64 0, .int .i64 0] 186)) = w') := Lib.hid (aLen_calls _ (h.below (below_alloc w _)))
  obtain ⟨x0, x1, x2⟩ := box3e (heap_alloc_new w (.cells #[.int .i64 0, .int .i64 0, .int .i64 0] 186))
  clear h
  go_enter Tryz.func123, Tryz.ntmps123
  go_wp2_with (go_at_call 152; refine HL.out.mono ?_; rintro e w1 ⟨rfl, rfl⟩)
  refine bodyPost_ret (v := .tuple #[.agg #[.int .i64 0, .int .i64 0, .int .i64 0], .bool false]) ?_ rfl ⟨rfl, below_alloc w _⟩
  simp [results, Tryz.results123, go_sem, x0, x1, x2]

set_option maxHeartbeats 2000000 in
set_option maxRecDepth 100000 in
theorem aTake_calls {base g mb : Nat} {v : Value} {L : List Ent} (w : World) (h : AgV w base g mb v L) (h0 : 0 < L.length) :
    Calls Tryz.prog 123 #[.pointer (some ⟨g, 0, none⟩)] w (TakeP w base g mb v L) := by
  obtain ⟨n, hn⟩ : ∃ n, L.length = n + 1 := ⟨L.length - 1, by omega⟩
  obtain ⟨x, hx⟩ : ∃ x, en L 0 = x := ⟨_, rfl⟩
  have hB1 := below_alloc w (.cells #[.int .i64 0, .int .i64 0, .int .i64 0] 186)
  have hA1 := h.below hB1
  have hlen := aLen_calls _ hA1
  rw [hn] at hlen
  have hB2 := below_alloc (w.alloc (.cells #[.int .i64 0, .int .i64 0, .int .i64 0] 186)) (.cells #[.int .i64 x.place, .int .i64 x.order, .int .i64 x.out] 186)
  have hA2 := hA1.below hB2
  have hpop := hpop_calls n _ hA2.pile hA2.heap hn
  obtain ⟨w2, hw2⟩ : ∃ w2, (w.alloc (.cells #[.int .i64 0, .int .i64 0, .int .i64 0] 186)).alloc (.cells #[.int .i64 x.place, .int .i64 x.order, .int .i64 x.out] 186) = w2 := ⟨_, rfl⟩
  obtain ⟨b0, b1, bf⟩ := box2p hA1.pile.box
  obtain ⟨b, rc, rfl, hbb, hbl⟩ := hA1.pile.row.at0 (by omega)
  obtain ⟨ro, rc', e0, hsl⟩ := hA1.pile.row.sl
  obtain ⟨e1, _, e2⟩ := Value.slice.inj e0
  subst e1 e2
  obtain ⟨b', o', hao', hci⟩ := hsl.elem Ent.enc_len (by omega) (en_eq (L := L) (i := 0) (by omega))
  simp only [Option.some.injEq, Addr.mk.injEq, and_true] at hao'
  obtain ⟨rfl, rfl⟩ := hao'
  rw [hx] at hci
  simp only [Nat.zero_add, Nat.zero_mul] at hci
  have d0 := hci 0 _ rfl
  have d1 := hci 1 _ rfl
  have d2 := hci 2 _ rfl
  have gn : (0 : Int) < ((n + 1 : Nat) : Int) := by omega
  rw [hn] at b0
  have HLN := Lib.hid hlen
  have HX := Lib.hid hx
  have HN := Lib.hid hn
  have H := Lib.hid h
  have HB12 : Hid (Below w.heap.size w w2) := Lib.hid (hw2 ▸ hB1.trans (Below.mono hB2 hB1.size))
  have hz1 := heap_alloc_new w (.cells #[.int .i64 0, .int .i64 0, .int .i64 0] 186)
  have hz2 := heap_alloc_new (w.alloc (.cells #[.int .i64 0, .int .i64 0, .int .i64 0] 186)) (.cells #[.int .i64 x.place, .int .i64 x.order, .int .i64 x.out] 186)
  have hz1' := (hB2.block w.heap.size (by simp)).trans hz1
  have hs1 : (w.alloc (.cells #[.int .i64 0, .int .i64 0, .int .i64 0] 186)).heap.size = w.heap.size + 1 := by simp
  have hs2 : w2.heap.size = w.heap.size + 2 := by rw [← hw2]; simp
  rw [hw2] at hpop hz1' hz2
  rw [hs1] at hz2
  have HPOP := Lib.hid hpop
  have HZ1 := Lib.hid hz1'
  have HZ2 := Lib.hid hz2
  have HS2 := Lib.hid hs2
  have HW2 := Lib.hid hw2
  have hgl : g < w.heap.size := (Array.getElem?_eq_some_iff.1 h.pile.box).1
  have hml : mb < w.heap.size := h.pile.at_.lt
  have hbw : b < w.heap.size := (World.ownsRow.lt h.pile.row b rfl).2
  have HGL := Lib.hid (show g < w.heap.size ∧ mb < w.heap.size ∧ b < w.heap.size from ⟨hgl, hml, hbw⟩)
  clear h h0 hB1 hB2 hA1 hA2 hlen hpop hsl hci hx hn hz1 hz1' hz2 hs1 hs2 hw2 hgl hml hbw e0 hbb hbl
  go_enter Tryz.func123, Tryz.ntmps123
  go_wp2_with (go_at_call 152; refine HLN.out.mono ?_; rintro e w1 ⟨rfl, rfl⟩)
  rw [HW2.out]
  go_at_call 153
  refine HPOP.out.mono ?_
  rintro e w3 ⟨rfl, v3, M, hP3, hH3, hl3, hm3, hT3⟩
  have k0 : w3.heap[w.heap.size]? = _ := (hT3.block w.heap.size (by have := HS2.out; omega) (by have := HGL.out; omega) (by have := HGL.out; omega) (by have := HGL.out; simp only [Value.ownBlock, ne_eq, Option.some.injEq]; omega)).trans HZ1.out
  have k1 : w3.heap[w.heap.size + 1]? = _ := (hT3.block (w.heap.size + 1) (by have := HS2.out; omega) (by have := HGL.out; omega) (by have := HGL.out; omega) (by have := HGL.out; simp only [Value.ownBlock, ne_eq, Option.some.injEq]; omega)).trans HZ2.out
  obtain ⟨y0, y1, y2⟩ := box3e k0
  obtain ⟨z0, z1, z2⟩ := box3e k1
  have yf : ∀ o, w3.frozen? ⟨w.heap.size, o, none⟩ = false := fun o => by simp [World.frozen?, k0]
  have HP3 := Lib.hid hP3
  have HH3 := Lib.hid hH3
  have HL3 := Lib.hid hl3
  have HM3 := Lib.hid hm3
  have HT3 := Lib.hid hT3
  have K0 := Lib.hid k0
  clear hP3 hH3 hl3 hm3 hT3 k0 k1
  go_wp2_with (fail)
  have hn := HN.out
  have hl3 := HL3.out
  have hT0 : Trod w w3 g mb (.slice (some ⟨b, 0, none⟩) L.length rc) v3 := (Trod.of HB12.out).trans HT3.out
  have hnb : ∀ q, v3.ownBlock = some q → q ≠ w.heap.size := fun q hq e => by
    rcases HT3.out.new q hq with h1 | h1
    · have := HGL.out; simp [Value.ownBlock] at h1; omega
    · have := HS2.out; omega
  refine bodyPost_ret (v := .tuple #[.agg #[.int .i64 x.place, .int .i64 x.order, .int .i64 x.out], .bool true]) ?_ rfl ⟨by rw [HX.out], v3, M, AgV.other (w := w3) ⟨HP3.out, by rw [hl3]; exact HH3.out⟩ ?_, fun p => agL_drop H.out.pile.once HP3.out.once (by omega) HM3.out (once_apart H.out.pile.once HP3.out.once (by omega) HM3.out) p, by omega, ((hT0.setNew (Nat.le_refl _) _ _).setNew (Nat.le_refl _) _ _).setNew (Nat.le_refl _) _ _⟩
  · simp [results, Tryz.results123, go_sem, y0, y1, y2]
  · intro q hq
    have hqn : q ≠ w.heap.size := by
      have := HGL.out
      rcases hq with rfl | rfl | hq
      · omega
      · omega
      · exact hnb q hq
    have hk : ∀ (W : World) (o : Nat) (u : Value), (W.setCell ⟨w.heap.size, o, none⟩ u).heap[q]? = W.heap[q]? := fun W o u => heap_setCell_other W ⟨w.heap.size, o, none⟩ q u hqn
    rw [hk, hk, hk]

end Go.Proofs.YtimkkkdabmhedaaGreatDoor

/- Pairs of numbers as the keys of the table of pairs. -/
namespace Go.Proofs.YtimkkkdabmhedaaGreatDoor
open Go.RowKit Go.Maps Go.ChangeMaps Go.WideMaps Go.WideElems
set_option linter.unusedVariables false

theorem laidAllP : laidOutB Tryz.prog = true := by kernel_rfl
theorem rowTwoP : (171 : TypeId) < Tryz.prog.types.size := of_decide_eq_true (by kernel_rfl)
theorem wideTwoP : (match Tryz.prog.underlying 171 with | some (.array _ _) | some (.struct _) => true | _ => false) = true := by kernel_rfl
set_option maxRecDepth 100000 in
theorem keyedTwoP : Keyed Tryz.prog 171 := Keyed.of_law (deep_law_laid laidAllP (m := 2) (by omega) rowTwoP (by kernel_rfl) wideTwoP)
theorem keyTypeTwoP : Tryz.prog.keyType 171 = true := by kernel_rfl
theorem cellsTwoP : Tryz.prog.cellsOf 171 = 2 := by kernel_rfl

theorem keyOf_twoP {a b : Int} (ha : (Lit.int .i64 a).wf = true) (hb : (Lit.int .i64 b).wf = true) : (keyOf Tryz.prog 171 (.agg #[.int .i64 a, .int .i64 b])).isSome = true := by
  have hf : (Value.agg #[.int .i64 a, .int .i64 b]).formed Tryz.prog 171 = true := by
    simp [Value.formed, Tryz.underlying171, cellsTwoP]
  have hk : ∀ n, (Tryz.prog.keyLits (n + 2) 171 [.int .i64 a, .int .i64 b]).isSome = true := by
    intro n
    have h3 : Tryz.prog.cellsOf 3 = 1 := by kernel_rfl
    unfold Program.keyLits
    simp [Tryz.underlying171, cellsTwoP, h3, Program.keyLits, Tryz.underlying3, ha, hb]
  unfold keyOf
  rw [Tryz.underlying171]
  simp only [keyTypeTwoP, hf, Bool.and_self, if_true]
  obtain ⟨n, hn⟩ : ∃ n, Tryz.prog.types.size + 1 = n + 2 := ⟨Tryz.prog.types.size - 1, by
    have h : (0 : Nat) < Tryz.prog.types.size := Nat.lt_of_le_of_lt (Nat.zero_le _) rowTwoP
    omega⟩
  have h2 := hk n
  rw [← hn] at h2
  show (Option.map _ (Tryz.prog.keyLits (Tryz.prog.types.size + 1) _ [.int .i64 a, .int .i64 b])).isSome = true
  rw [Option.isSome_map]
  exact h2

noncomputable def twoViewP : KeyView Tryz.prog 171 (Int × Int) :=
  KeyView.of (fun p => .agg #[.int .i64 p.1, .int .i64 p.2]) (fun p => (Lit.int .i64 p.1).wf = true ∧ (Lit.int .i64 p.2).wf = true) (fun p h => keyOf_twoP h.1 h.2)
    (fun x y h => by simp at h; exact Prod.ext h.1 h.2) keyedTwoP

end Go.Proofs.YtimkkkdabmhedaaGreatDoor

/- A slice of structs that came in, opened to a list. Plain lemmas over any program. -/
namespace Go.Proofs.YtimkkkdabmhedaaGreatDoor
open Go.ChangeShapes Go.WideShapes Go.Deep Go.RowKit
set_option linter.unusedVariables false

section
variable {H : Type} {enc : TypeId × Value → H} {P : Program} {w : World} {base : Nat} {spare : Nat → Bool} {held : Bool}
theorem open_slice_fields {t e : TypeId} {fs : Array Field} {fuel : Nat} {cs : List Value} {x : DataW H × List MemPlace} (ht : P.underlying t = some (.slice e)) (he : P.underlying e = some (.struct fs))
    (hone : oneCellFields P fs = true) (hC : P.cellsOf e = fs.size) (h : DataW.trod enc P w base spare held fuel t cs = some x) :
    (cs = [.slice none 0 0] ∧ x = (.nil, [])) ∨
    ∃ (a : Addr) (len cap m : Nat) (D : Nat → DataW H) (Pl : Nat → List MemPlace), cs = [.slice (some a) len cap] ∧ base ≤ a.block ∧ len ≤ cap ∧ cap ≤ maxLen ∧ m = (if spare a.block then cap else len) ∧
      x = (.slice ((List.range len).map D) ((List.range (m - len)).map fun j => D (len + j)), MemPlace.row a (m * fs.size) ++ (List.range m).flatMap Pl) ∧
      ∀ i, i < m → ∃ (ys : List (DataW H × List MemPlace)) (n : Nat), D i = .agg (ys.map (·.1)) ∧ Pl i = ys.flatMap (·.2) ∧ ys.length = fs.size ∧
        ∀ (j : Nat) (f : Field), fs[j]? = some f → ∃ (v : Value) (y : DataW H × List MemPlace), w.cell? (a.add (i * fs.size + j)) = some v ∧ ys[j]? = some y ∧ DataW.trod enc P w base spare held n f.type [v] = some y := by
  rcases open_slice ht h with h0 | ⟨a, len, cap, m, n, D, Pl, hcs, hb, hl, hm, hmm, hx, hi⟩
  · exact .inl h0
  · refine .inr ⟨a, len, cap, m, D, Pl, hcs, hb, hl, hm, hmm, by rw [hC] at hx; exact hx, fun i him => ?_⟩
    obtain ⟨cs', hc, ht'⟩ := hi i him
    rw [hC] at hc
    obtain ⟨ys, n', hn', hy, hlen, hyl, hf⟩ := DataW.trod_struct he ht'
    obtain ⟨_, hcl, hat⟩ := World.cells?_some hc
    simp only [Prod.mk.injEq] at hy
    refine ⟨ys, n', hy.1, hy.2, hyl, fun j f hj => ?_⟩
    obtain ⟨ho, hk⟩ := hone_of hone j f hj
    have hjl : j < fs.size := (Array.getElem?_eq_some_iff.1 hj).1
    have hcell := hat j hjl
    have hv : cs'[j]? = some (cs'[j]'(by omega)) := List.getElem?_eq_getElem (by omega)
    have h1 := hf j f hj
    rw [ho, hk] at h1
    have hone' : (cs'.drop j).take 1 = [cs'[j]'(by omega)] := by
      rw [List.drop_eq_getElem_cons (by omega)]
      rfl
    rw [hone'] at h1
    have hys : ys[j]? = some (ys[j]'(by omega)) := List.getElem?_eq_getElem (by omega)
    refine ⟨_, _, ?_, hys, h1.trans hys⟩
    rw [← Go.Deep.add_add, hcell, hv]
end

theorem slF_mk {α : Type} {enc : α → List Value} {s n cap : Nat} {w : World} {a : Addr} {R : α → Prop} (hs : ∀ x, (enc x).length = s) (h0 : 0 < s) (hle : n ≤ cap) (hmax : cap ≤ maxLen)
    (h : ∀ i, i < n → ∃ x : α, (∀ j u, (enc x)[j]? = some u → w.cell? (a.add (i * s + j)) = some u) ∧ R x) :
    ∃ L : List α, SlF s w (some a) n cap (flat enc L) ∧ ∀ x ∈ L, R x := by
  classical
  have key : ∀ m, m ≤ n → ∃ L : List α, L.length = m ∧ (∀ i x, L[i]? = some x → ∀ j u, (enc x)[j]? = some u → w.cell? (a.add (i * s + j)) = some u) ∧ ∀ x ∈ L, R x := by
    intro m
    induction m with
    | zero => exact fun _ => ⟨[], rfl, fun i x hx => by simp at hx, fun x hx => by simp at hx⟩
    | succ m ih =>
      intro hm
      obtain ⟨L, hl, h1, h2⟩ := ih (by omega)
      obtain ⟨x, hx1, hx2⟩ := h m (by omega)
      refine ⟨L ++ [x], by simp [hl], fun i y hy => ?_, fun y hy => ?_⟩
      · rcases Nat.lt_or_ge i L.length with h' | h'
        · rw [List.getElem?_append_left h'] at hy
          exact h1 i y hy
        · rw [List.getElem?_append_right h'] at hy
          have : i - L.length = 0 := by
            have := (List.getElem?_eq_some_iff.1 hy).1
            simp at this
            omega
          rw [this] at hy
          simp at hy
          subst hy
          obtain rfl : i = m := by omega
          exact hx1
      · rcases List.mem_append.1 hy with h' | h'
        · exact h2 y h'
        · simp at h'
          subst h'
          exact hx2
  obtain ⟨L, hl, h1, h2⟩ := key n (Nat.le_refl _)
  refine ⟨L, ⟨by rw [flat_len hs, hl], hle, hmax, by simp, fun i u hu => ?_⟩, h2⟩
  have hi : i < n * s := by have := (List.getElem?_eq_some_iff.1 hu).1; rw [flat_len hs, hl] at this; exact this
  have hd : i = i / s * s + i % s := by rw [Nat.mul_comm]; exact (Nat.div_add_mod i s).symm
  have hlt : i / s < n := Nat.div_lt_of_lt_mul (by rw [Nat.mul_comm]; exact hi)
  obtain ⟨x, hx⟩ : ∃ x, L[i / s]? = some x := ⟨L[i / s]'(by rw [hl]; exact hlt), List.getElem?_eq_getElem _⟩
  have hm := Nat.mod_lt i h0
  rw [hd, flat_at hs hx hm] at hu
  have hc := h1 _ x hx _ u hu
  rw [← hd] at hc
  have hsp : a.spot = none := by
    obtain ⟨x0, hx0⟩ : ∃ x, L[0]? = some x := ⟨L[0]'(by have h9 := Nat.lt_of_le_of_lt (Nat.zero_le _) hlt; rw [hl]; exact h9), List.getElem?_eq_getElem _⟩
    obtain ⟨u0, hu0⟩ : ∃ u, (enc x0)[0]? = some u := ⟨(enc x0)[0]'(by rw [hs]; exact h0), List.getElem?_eq_getElem _⟩
    have h00 := h1 0 x0 hx0 0 u0 hu0
    have := World.cell?_spot h00
    simpa [Addr.add] using this
  obtain ⟨b, o, sp⟩ := a
  simp at hsp
  subst hsp
  refine ⟨b, o, rfl, ?_⟩
  rw [Addr.add_lit] at hc
  exact hc

end Go.Proofs.YtimkkkdabmhedaaGreatDoor

/- How vocabularies, rows, pairs, specials come in. -/
namespace Go.Proofs.YtimkkkdabmhedaaGreatDoor
open Go.ChangeShapes Go.WideShapes Go.ChangeAt Go.RowKit Go.Joins Go.Deep
set_option linter.unusedVariables false

theorem cellsStr : Tryz.prog.cellsOf 9 = 1 := by kernel_rfl

section
variable {H : Type} {enc : TypeId × Value → H} {W : World} {held : Bool}

theorem flat_str (T : List ByteArray) : flat (fun s : ByteArray => [Value.string s]) T = T.map .string := by
  induction T with
  | nil => rfl
  | cons x T ih => rw [flat_cons, ih]; rfl

theorem sls_of_trod {fuel : Nat} {v : Value} {y : DataW H × List MemPlace} (h : DataW.trod enc Tryz.prog W 0 (fun _ => true) held fuel 22 [v] = some y) :
    ∃ ao n c T, v = .slice ao n c ∧ SlS W ao n c T ∧ ∀ s ∈ T, s.size ≤ maxLen := by
  rcases open_slice1 Tryz.underlying22 cellsStr h with ⟨hcs, _⟩ | ⟨a, len, cap, m, n, V, D, Pl, hcs, _, hl, hm, hmm, _, hi⟩
  · simp at hcs
    subst hcs
    exact ⟨none, 0, 0, [], rfl, Sl.none, by simp⟩
  · simp at hcs
    subst hcs
    simp at hmm
    subst hmm
    obtain ⟨T, hT, hR⟩ := slF_mk (enc := fun s : ByteArray => [Value.string s]) (s := 1) (n := len) (cap := m) (w := W) (a := a) (R := fun s => s.size ≤ maxLen) (fun _ => rfl) (by omega) hl hm (by
      intro i hi2
      obtain ⟨hc, ht⟩ := hi i (by omega)
      obtain ⟨s, es, _, hs⟩ := DataW.trod_string Tryz.underlying9 ht
      simp at es
      refine ⟨s, fun j u hu => ?_, hs⟩
      match j, hu with
      | 0, hu => simp at hu; subst hu; rw [Nat.mul_one, Nat.add_zero, hc, es]
      | j + 1, hu => simp at hu)
    rw [flat_str] at hT
    exact ⟨some a, len, m, T, rfl, ⟨by have := hT.len; omega, hT.le, hT.max, hT.nil, hT.at_⟩, hR⟩

theorem spStruct : ∃ f0 f1 : Field, Tryz.prog.underlying 58 = some (.struct #[f0, f1]) ∧ f0.type = 9 ∧ f1.type = 3 ∧ oneCellFields Tryz.prog #[f0, f1] = true :=
  ⟨_, _, Tryz.underlying58, rfl, rfl, by kernel_rfl⟩
theorem cellsSp : Tryz.prog.cellsOf 58 = 2 := by kernel_rfl
theorem mgStruct : ∃ f0 f1 f2 f3 : Field, Tryz.prog.underlying 165 = some (.struct #[f0, f1, f2, f3]) ∧ f0.type = 3 ∧ f1.type = 3 ∧ f2.type = 3 ∧ f3.type = 3 ∧ oneCellFields Tryz.prog #[f0, f1, f2, f3] = true :=
  ⟨_, _, _, _, Tryz.underlying165, rfl, rfl, rfl, rfl, by kernel_rfl⟩
theorem cellsMg : Tryz.prog.cellsOf 165 = 4 := by kernel_rfl

theorem sps_of_trod {fuel : Nat} {v : Value} {y : DataW H × List MemPlace} (h : DataW.trod enc Tryz.prog W 0 (fun _ => true) held fuel 24 [v] = some y) :
    ∃ ao n c S, v = .slice ao n c ∧ SlF 2 W ao n c (flat Sp.enc S) ∧ ∀ s ∈ S, s.name.size ≤ maxLen := by
  obtain ⟨f0, f1, hu, e0, e1, hone⟩ := spStruct
  rcases open_slice_fields Tryz.underlying24 hu hone (by rw [cellsSp]; rfl) h with ⟨hcs, _⟩ | ⟨a, len, cap, m, D, Pl, hcs, _, hl, hm, hmm, _, hrow⟩
  · simp at hcs
    subst hcs
    exact ⟨_, _, _, [], rfl, SlF.nothing _, by simp⟩
  · simp at hcs
    subst hcs
    simp at hmm
    subst hmm
    obtain ⟨S, hS, hR⟩ := slF_mk (enc := Sp.enc) (s := 2) (n := len) (cap := m) (w := W) (a := a) (R := fun x => x.name.size ≤ maxLen) Sp.enc_len (by omega) hl hm (by
      intro i hi
      obtain ⟨ys, n', _, _, _, hf⟩ := hrow i (by omega)
      obtain ⟨u0, y0, c0, _, t0⟩ := hf 0 f0 rfl
      obtain ⟨u1, y1, c1, _, t1⟩ := hf 1 f1 rfl
      rw [e0] at t0
      rw [e1] at t1
      obtain ⟨s, es, _, hs⟩ := DataW.trod_string Tryz.underlying9 t0
      obtain ⟨z, ez, _, _⟩ := DataW.trod_int Tryz.underlying3 t1
      simp at es ez
      subst es ez
      refine ⟨⟨s, z⟩, fun j u hu => ?_, hs⟩
      match j, hu with
      | 0, hu => simp [Sp.enc] at hu; subst hu; exact c0
      | 1, hu => simp [Sp.enc] at hu; subst hu; exact c1
      | j + 2, hu => simp [Sp.enc] at hu)
    exact ⟨_, _, _, S, rfl, hS, hR⟩

theorem mgs_of_trod {fuel : Nat} {v : Value} {y : DataW H × List MemPlace} (h : DataW.trod enc Tryz.prog W 0 (fun _ => true) held fuel 23 [v] = some y) :
    ∃ ao n c M, v = .slice ao n c ∧ SlF 4 W ao n c (flat Mg.enc M) := by
  obtain ⟨f0, f1, f2, f3, hu, e0, e1, e2, e3, hone⟩ := mgStruct
  rcases open_slice_fields Tryz.underlying23 hu hone (by rw [cellsMg]; rfl) h with ⟨hcs, _⟩ | ⟨a, len, cap, m, D, Pl, hcs, _, hl, hm, hmm, _, hrow⟩
  · simp at hcs
    subst hcs
    exact ⟨_, _, _, [], rfl, SlF.nothing _⟩
  · simp at hcs
    subst hcs
    simp at hmm
    subst hmm
    obtain ⟨M, hM, _⟩ := slF_mk (enc := Mg.enc) (s := 4) (n := len) (cap := m) (w := W) (a := a) (R := fun _ => True) Mg.enc_len (by omega) hl hm (by
      intro i hi
      obtain ⟨ys, n', _, _, _, hf⟩ := hrow i (by omega)
      obtain ⟨u0, y0, c0, _, t0⟩ := hf 0 f0 rfl
      obtain ⟨u1, y1, c1, _, t1⟩ := hf 1 f1 rfl
      obtain ⟨u2, y2, c2, _, t2⟩ := hf 2 f2 rfl
      obtain ⟨u3, y3, c3, _, t3⟩ := hf 3 f3 rfl
      rw [e0] at t0
      rw [e1] at t1
      rw [e2] at t2
      rw [e3] at t3
      obtain ⟨z0, ez0, _, _⟩ := DataW.trod_int Tryz.underlying3 t0
      obtain ⟨z1, ez1, _, _⟩ := DataW.trod_int Tryz.underlying3 t1
      obtain ⟨z2, ez2, _, _⟩ := DataW.trod_int Tryz.underlying3 t2
      obtain ⟨z3, ez3, _, _⟩ := DataW.trod_int Tryz.underlying3 t3
      simp at ez0 ez1 ez2 ez3
      subst ez0 ez1 ez2 ez3
      refine ⟨⟨z0, z1, z2, z3⟩, fun j u hu => ?_, trivial⟩
      match j, hu with
      | 0, hu => simp [Mg.enc] at hu; subst hu; exact c0
      | 1, hu => simp [Mg.enc] at hu; subst hu; exact c1
      | 2, hu => simp [Mg.enc] at hu; subst hu; exact c2
      | 3, hu => simp [Mg.enc] at hu; subst hu; exact c3
      | j + 4, hu => simp [Mg.enc] at hu)
    exact ⟨_, _, _, M, rfl, hM⟩

theorem cellsVoc : Tryz.prog.cellsOf 26 = 3 := by kernel_rfl

end

end Go.Proofs.YtimkkkdabmhedaaGreatDoor

/- Walks: slices.Clone at strings, merges, ranges. (Printed by gClone.py.) -/
namespace Go.Proofs.YtimkkkdabmhedaaGreatDoor
open Go.RowKit
set_option linter.unusedVariables false

theorem infoRg : (Tryz.prog.info? 93).map (fun i => (i.zero.map (·.cells.size), i.size, i.bytes)) = some (some 3, 3, 24) := by kernel_rfl
theorem infoSt : (Tryz.prog.info? 9).map (fun i => (i.zero.map (·.cells.size), i.size, i.bytes)) = some (some 1, 1, 16) := by kernel_rfl
def encS (s : ByteArray) : List Value := [.string s]
theorem encS_len (s : ByteArray) : (encS s).length = 1 := rfl
theorem encS_one (x : ByteArray) : ∀ v ∈ encS x, v.oneCell' = true := by
  intro v hv; simp [encS] at hv; subst hv; rfl
theorem flat_encS (T : List ByteArray) : flat encS T = T.map .string := flat_str T
theorem SlS.flat {w : World} {ao : Option Addr} {n c : Nat} {T : List ByteArray} (h : SlS w ao n c T) : SlF 1 w ao n c (flat encS T) :=
  ⟨by rw [flat_encS, List.length_map, h.count]; omega, Sl.le h, Sl.max h, Sl.nil h, fun i u hu => by rw [flat_encS] at hu; exact Sl.at_ h i u hu⟩
set_option maxHeartbeats 400000 in
theorem cloneStr_nil (c : Nat) (w : World) :
    Calls Tryz.prog 47 #[.slice none 0 c] w fun e w' => ∃ v, e = .returned v ∧ OwnF encS 1 9 w' w.heap.size v [] ∧ Below w.heap.size w w' := by
  have hsn := fun w => Lib.run_eql_slice_nil (P := Tryz.prog) w 22 9 none 0 c 0 0 Tryz.underlying22
  go_enter Tryz.func47, Tryz.ntmps47
  go_wp2
  go_ret
  exact ⟨_, rfl, OwnF.nil _ _, Below.refl _ _⟩
set_option maxHeartbeats 400000 in
theorem cloneStr_some {S : List ByteArray} {ad : Addr} {n c : Nat} (w : World) (hS : SlF 1 w (some ad) n c (flat encS S)) (hn : n ≤ 1048576) :
    Calls Tryz.prog 47 #[.slice (some ad) n c] w fun e w' => ∃ v, e = .returned v ∧ OwnF encS 1 9 w' w.heap.size v S ∧ Below w.heap.size w w' := by
  obtain ⟨i0, z0, hi, hz0, hz1, hz2, hz3⟩ := info_row infoSt
  have hsn := fun w => Lib.run_eql_slice_nil (P := Tryz.prog) w 22 9 (some ad) n c 0 0 Tryz.underlying22
  have hown : OwnF encS 1 9 (w.alloc (.cells #[] 9)) w.heap.size (.slice (some ⟨w.heap.size, 0, .none⟩) 0 0) [] := OwnF.made0 w
  have hA2 := hS.alloc (.cells #[] 9)
  go_enter Tryz.func47, Tryz.ntmps47
  go_wp2_with (at_builtin; go_loud (refine wpList_flat_app rfl _ _ 22 rfl i0 z0 16 Tryz.underlying22 hi hz0 hz1 hz2 hz3 encS_len (by omega) encS_one rfl hown rfl hA2 (by unfold maxLen; simp only [List.length_nil]; omega) (by simp only [List.length_nil]; omega) (by simp) ?_))
  intro v' w' ho hg hb
  go_wp2
  go_ret
  exact ⟨_, rfl, by simpa using ho, (below_alloc w _).trans hb⟩
theorem cloneStr_calls {S : List ByteArray} {ao : Option Addr} {n c : Nat} (w : World) (hS : SlF 1 w ao n c (flat encS S)) (hn : n ≤ 1048576) :
    Calls Tryz.prog 47 #[.slice ao n c] w fun e w' => ∃ v, e = .returned v ∧ OwnF encS 1 9 w' w.heap.size v S ∧ Below w.heap.size w w' := by
  cases ao with
  | some ad => exact cloneStr_some w hS hn
  | none =>
    have hc := hS.nil rfl
    have h0 : n = 0 := by have := hS.le; omega
    subst h0
    have : S = [] := List.eq_nil_of_length_eq_zero (hS.count encS_len (by omega))
    subst this
    exact cloneStr_nil c w

set_option maxHeartbeats 400000 in
theorem cloneMg_nil (c : Nat) (w : World) :
    Calls Tryz.prog 112 #[.slice none 0 c] w fun e w' => ∃ v, e = .returned v ∧ OwnF Mg.enc 4 165 w' w.heap.size v [] ∧ Below w.heap.size w w' := by
  have hsn := fun w => Lib.run_eql_slice_nil (P := Tryz.prog) w 23 165 none 0 c 0 0 Tryz.underlying23
  go_enter Tryz.func112, Tryz.ntmps112
  go_wp2
  go_ret
  exact ⟨_, rfl, OwnF.nil _ _, Below.refl _ _⟩
set_option maxHeartbeats 400000 in
theorem cloneMg_some {S : List Mg} {ad : Addr} {n c : Nat} (w : World) (hS : SlF 4 w (some ad) n c (flat Mg.enc S)) (hn : n ≤ 1048576) :
    Calls Tryz.prog 112 #[.slice (some ad) n c] w fun e w' => ∃ v, e = .returned v ∧ OwnF Mg.enc 4 165 w' w.heap.size v S ∧ Below w.heap.size w w' := by
  obtain ⟨i0, z0, hi, hz0, hz1, hz2, hz3⟩ := info_row infoMg
  have hsn := fun w => Lib.run_eql_slice_nil (P := Tryz.prog) w 23 165 (some ad) n c 0 0 Tryz.underlying23
  have hown : OwnF Mg.enc 4 165 (w.alloc (.cells #[] 165)) w.heap.size (.slice (some ⟨w.heap.size, 0, .none⟩) 0 0) [] := OwnF.made0 w
  have hA2 := hS.alloc (.cells #[] 165)
  go_enter Tryz.func112, Tryz.ntmps112
  go_wp2_with (at_builtin; go_loud (refine wpList_flat_app rfl _ _ 23 rfl i0 z0 32 Tryz.underlying23 hi hz0 hz1 hz2 hz3 Mg.enc_len (by omega) Mg.enc_one rfl hown rfl hA2 (by unfold maxLen; simp only [List.length_nil]; omega) (by simp only [List.length_nil]; omega) (by simp) ?_))
  intro v' w' ho hg hb
  go_wp2
  go_ret
  exact ⟨_, rfl, by simpa using ho, (below_alloc w _).trans hb⟩
theorem cloneMg_calls {S : List Mg} {ao : Option Addr} {n c : Nat} (w : World) (hS : SlF 4 w ao n c (flat Mg.enc S)) (hn : n ≤ 1048576) :
    Calls Tryz.prog 112 #[.slice ao n c] w fun e w' => ∃ v, e = .returned v ∧ OwnF Mg.enc 4 165 w' w.heap.size v S ∧ Below w.heap.size w w' := by
  cases ao with
  | some ad => exact cloneMg_some w hS hn
  | none =>
    have hc := hS.nil rfl
    have h0 : n = 0 := by have := hS.le; omega
    subst h0
    have : S = [] := List.eq_nil_of_length_eq_zero (hS.count Mg.enc_len (by omega))
    subst this
    exact cloneMg_nil c w

set_option maxHeartbeats 400000 in
theorem cloneRg_nil (c : Nat) (w : World) :
    Calls Tryz.prog 48 #[.slice none 0 c] w fun e w' => ∃ v, e = .returned v ∧ OwnF Rg.enc 3 93 w' w.heap.size v [] ∧ Below w.heap.size w w' := by
  have hsn := fun w => Lib.run_eql_slice_nil (P := Tryz.prog) w 27 93 none 0 c 0 0 Tryz.underlying27
  go_enter Tryz.func48, Tryz.ntmps48
  go_wp2
  go_ret
  exact ⟨_, rfl, OwnF.nil _ _, Below.refl _ _⟩
set_option maxHeartbeats 400000 in
theorem cloneRg_some {S : List Rg} {ad : Addr} {n c : Nat} (w : World) (hS : SlF 3 w (some ad) n c (flat Rg.enc S)) (hn : n ≤ 1048576) :
    Calls Tryz.prog 48 #[.slice (some ad) n c] w fun e w' => ∃ v, e = .returned v ∧ OwnF Rg.enc 3 93 w' w.heap.size v S ∧ Below w.heap.size w w' := by
  obtain ⟨i0, z0, hi, hz0, hz1, hz2, hz3⟩ := info_row infoRg
  have hsn := fun w => Lib.run_eql_slice_nil (P := Tryz.prog) w 27 93 (some ad) n c 0 0 Tryz.underlying27
  have hown : OwnF Rg.enc 3 93 (w.alloc (.cells #[] 93)) w.heap.size (.slice (some ⟨w.heap.size, 0, .none⟩) 0 0) [] := OwnF.made0 w
  have hA2 := hS.alloc (.cells #[] 93)
  go_enter Tryz.func48, Tryz.ntmps48
  go_wp2_with (at_builtin; go_loud (refine wpList_flat_app rfl _ _ 27 rfl i0 z0 24 Tryz.underlying27 hi hz0 hz1 hz2 hz3 Rg.enc_len (by omega) Rg.enc_one rfl hown rfl hA2 (by unfold maxLen; simp only [List.length_nil]; omega) (by simp only [List.length_nil]; omega) (by simp) ?_))
  intro v' w' ho hg hb
  go_wp2
  go_ret
  exact ⟨_, rfl, by simpa using ho, (below_alloc w _).trans hb⟩
theorem cloneRg_calls {S : List Rg} {ao : Option Addr} {n c : Nat} (w : World) (hS : SlF 3 w ao n c (flat Rg.enc S)) (hn : n ≤ 1048576) :
    Calls Tryz.prog 48 #[.slice ao n c] w fun e w' => ∃ v, e = .returned v ∧ OwnF Rg.enc 3 93 w' w.heap.size v S ∧ Below w.heap.size w w' := by
  cases ao with
  | some ad => exact cloneRg_some w hS hn
  | none =>
    have hc := hS.nil rfl
    have h0 : n = 0 := by have := hS.le; omega
    subst h0
    have : S = [] := List.eq_nil_of_length_eq_zero (hS.count Rg.enc_len (by omega))
    subst this
    exact cloneRg_nil c w

set_option maxHeartbeats 400000 in
theorem cloneSp_nil (c : Nat) (w : World) :
    Calls Tryz.prog 53 #[.slice none 0 c] w fun e w' => ∃ v, e = .returned v ∧ OwnF Sp.enc 2 58 w' w.heap.size v [] ∧ Below w.heap.size w w' := by
  have hsn := fun w => Lib.run_eql_slice_nil (P := Tryz.prog) w 24 58 none 0 c 0 0 Tryz.underlying24
  go_enter Tryz.func53, Tryz.ntmps53
  go_wp2
  go_ret
  exact ⟨_, rfl, OwnF.nil _ _, Below.refl _ _⟩
set_option maxHeartbeats 400000 in
theorem cloneSp_some {S : List Sp} {ad : Addr} {n c : Nat} (w : World) (hS : SlF 2 w (some ad) n c (flat Sp.enc S)) (hn : n ≤ 1048576) :
    Calls Tryz.prog 53 #[.slice (some ad) n c] w fun e w' => ∃ v, e = .returned v ∧ OwnF Sp.enc 2 58 w' w.heap.size v S ∧ Below w.heap.size w w' := by
  obtain ⟨i0, z0, hi, hz0, hz1, hz2, hz3⟩ := info_row infoSp
  have hsn := fun w => Lib.run_eql_slice_nil (P := Tryz.prog) w 24 58 (some ad) n c 0 0 Tryz.underlying24
  have hown : OwnF Sp.enc 2 58 (w.alloc (.cells #[] 58)) w.heap.size (.slice (some ⟨w.heap.size, 0, .none⟩) 0 0) [] := OwnF.made0 w
  have hA2 := hS.alloc (.cells #[] 58)
  go_enter Tryz.func53, Tryz.ntmps53
  go_wp2_with (at_builtin; go_loud (refine wpList_flat_app rfl _ _ 24 rfl i0 z0 24 Tryz.underlying24 hi hz0 hz1 hz2 hz3 Sp.enc_len (by omega) Sp.enc_one rfl hown rfl hA2 (by unfold maxLen; simp only [List.length_nil]; omega) (by simp only [List.length_nil]; omega) (by simp) ?_))
  intro v' w' ho hg hb
  go_wp2
  go_ret
  exact ⟨_, rfl, by simpa using ho, (below_alloc w _).trans hb⟩
theorem cloneSp_calls {S : List Sp} {ao : Option Addr} {n c : Nat} (w : World) (hS : SlF 2 w ao n c (flat Sp.enc S)) (hn : n ≤ 1048576) :
    Calls Tryz.prog 53 #[.slice ao n c] w fun e w' => ∃ v, e = .returned v ∧ OwnF Sp.enc 2 58 w' w.heap.size v S ∧ Below w.heap.size w w' := by
  cases ao with
  | some ad => exact cloneSp_some w hS hn
  | none =>
    have hc := hS.nil rfl
    have h0 : n = 0 := by have := hS.le; omega
    subst h0
    have : S = [] := List.eq_nil_of_length_eq_zero (hS.count Sp.enc_len (by omega))
    subst this
    exact cloneSp_nil c w

end Go.Proofs.YtimkkkdabmhedaaGreatDoor
