/- Walk: the coder of a kit, and the document's. -/
import Derived.Test.YtnadelmbkaoeeaaGreatDoorK9
import Derived.Deep.RegionHeld3
import Derived.Test.YtnadelmbkaoeeaaGreatDoorK4
namespace Go.Proofs.YtnadelmbkaoeeaaGreatDoor
open Go.RowKit
set_option linter.unusedVariables false

theorem box7 {w : World} {g : Nat} {a b c d e f x : Value} {t : TypeId} (h : w.heap[g]? = some (.cells #[a, b, c, d, e, f, x] t)) :
    w.cell? ⟨g, 0, none⟩ = some a ∧ w.cell? ⟨g, 1, none⟩ = some b ∧ w.cell? ⟨g, 2, none⟩ = some c ∧ w.cell? ⟨g, 3, none⟩ = some d ∧ w.cell? ⟨g, 4, none⟩ = some e ∧ w.cell? ⟨g, 5, none⟩ = some f ∧ w.cell? ⟨g, 6, none⟩ = some x := by
  simp [World.cell?, h]
theorem set6N {w : World} {g : Nat} {a b c d e f a' b' c' d' e' f' : Value} {t : TypeId} (h : w.heap[g]? = some (.cells #[a, b, c, d, e, f] t)) :
    ((((((w.setCell ⟨g, 0, none⟩ a').setCell ⟨g, 1, none⟩ b').setCell ⟨g, 2, none⟩ c').setCell ⟨g, 3, none⟩ d').setCell ⟨g, 4, none⟩ e').setCell ⟨g, 5, none⟩ f').heap[g]? = some (.cells #[a', b', c', d', e', f'] t) := by
  simp [World.setCell, Array.getElem?_modify, h]
def MadePost (V : Vc) (N : List ByteArray) (kind : Int) (T : List Rg) (room : Int) (w : World) (e : Ending) (w' : World) : Prop :=
  (e = .returned (.tuple #[.pointer none, noC, .bool false]) ∨
    (May V ∧ OkKit N kind T room ∧ ¬ GreatK V N T ∧ ∃ g cb dd no nn nc to_ tn tc, e = .returned (.tuple #[.pointer (some ⟨g, 0, none⟩), cVal dd no nn nc kind to_ tn tc, .bool true]) ∧ (∀ w'', Below w'.heap.size w' w'' → TCod w'' w.heap.size g V N kind (tabOf T) cb) ∧ CR w' dd no nn nc V N)) ∧ Below w.heap.size w w'
theorem CodR.stay {w : World} {base g : Nat} {V : Vc} {N : List ByteArray} {kind : Int} {T : List Rg} {room : Int} {cb mb : Nat} {no : Option Addr} {l : List Row} {hits misses : Int} (h : CodR w base g V N kind T room cb mb no l hits misses) :
    ∀ w', Below w.heap.size w w' → TCod w' base g V N kind T cb := by
  obtain ⟨⟨S, h1, h2⟩, _⟩ := h
  exact fun w' hb => h1 w' (fun q hq => hb.block q (h2 q hq).1.2) hb.size
theorem below_set6 {w w4 : World} {n k : Nat} (h : Below n w w4) (hn : n ≤ k) (a b c d e f : Value) :
    Below n w ((((((w4.setCell ⟨k, 0, none⟩ a).setCell ⟨k, 1, none⟩ b).setCell ⟨k, 2, none⟩ c).setCell ⟨k, 3, none⟩ d).setCell ⟨k, 4, none⟩ e).setCell ⟨k, 5, none⟩ f).drew :=
  have h1 := h.setCell (p := ⟨k, 0, none⟩) hn a
  have h2 := h1.setCell (p := ⟨k, 1, none⟩) hn b
  have h3 := h2.setCell (p := ⟨k, 2, none⟩) hn c
  have h4 := h3.setCell (p := ⟨k, 3, none⟩) hn d
  have h5 := h4.setCell (p := ⟨k, 4, none⟩) hn e
  have h6 := h5.setCell (p := ⟨k, 5, none⟩) hn f
  h6.drew
theorem heap_set6 {w4 : World} {k q : Nat} (hn : q ≠ k) (a b c d e f : Value) :
    ((((((w4.setCell ⟨k, 0, none⟩ a).setCell ⟨k, 1, none⟩ b).setCell ⟨k, 2, none⟩ c).setCell ⟨k, 3, none⟩ d).setCell ⟨k, 4, none⟩ e).setCell ⟨k, 5, none⟩ f).drew.heap[q]? = w4.heap[q]? := by
  have e0 : ∀ X : World, X.drew.heap = X.heap := fun _ => rfl
  rw [e0]
  exact (Below.heap_setCell _ _ _ _ hn).trans ((Below.heap_setCell _ _ _ _ hn).trans ((Below.heap_setCell _ _ _ _ hn).trans ((Below.heap_setCell _ _ _ _ hn).trans ((Below.heap_setCell _ _ _ _ hn).trans (Below.heap_setCell _ _ _ _ hn)))))
theorem TCod.mono {w : World} {base base' g : Nat} {V : Vc} {N : List ByteArray} {kind : Int} {T : List Rg} {cb : Nat} (h : TCod w base g V N kind T cb) (hb : base' ≤ base) : TCod w base' g V N kind T cb := by
  obtain ⟨h1, ta, tc, sa, sc, na, nc, ma, mc, oa, oc, eg, hx, a1, a2, a3, a4, a5, a6⟩ := h
  exact ⟨by omega, ta, tc, sa, sc, na, nc, ma, mc, oa, oc, eg, hx, a1.mono hb, a2.mono hb, a3.mono hb, a4.mono hb, a5.mono hb, a6.mono hb⟩
/-- Behind a change of blocks below the coder's. -/
theorem CodR.hold {w w' : World} {base base' g : Nat} {V : Vc} {N : List ByteArray} {kind : Int} {T : List Rg} {room : Int} {cb mb : Nat} {no : Option Addr} {l : List Row} {hits misses : Int} (h : CodR w base g V N kind T room cb mb no l hits misses)
    (hk : ∀ q, base ≤ q → q < w.heap.size → w'.heap[q]? = w.heap[q]?) (hs : w.heap.size ≤ w'.heap.size) (hb : base' ≤ base) :
    ∀ w'', Below w'.heap.size w' w'' → TCod w'' base' g V N kind T cb := by
  obtain ⟨⟨S, h1, h2⟩, _⟩ := h
  exact fun w'' hb' => (h1 w'' (fun q hq => (hb'.block q (Nat.lt_of_lt_of_le (h2 q hq).1.2 hs)).trans (hk q (h2 q hq).1.1 (h2 q hq).1.2)) (Nat.le_trans hs hb'.size)).mono hb

set_option maxHeartbeats 2000000 in
set_option maxRecDepth 100000 in
theorem made_calls {V : Vc} {dd : Vd} {N : List ByteArray} {kind : Int} {T : List Rg} {room : Int} {no to_ : Option Addr} {nn nc tn tc : Nat} (w : World) (hV : VocR w dd V) (hok : (∀ s ∈ V.tokens, s.size ≤ maxLen) ∧ Sized V.specials) (hN : SlS w no nn nc N) (hNs : ∀ s ∈ N, s.size ≤ maxLen)
    (hT : SlF 3 w to_ tn tc (flat Rg.enc T)) (hU : Usu w) :
    Calls Tryz.prog 12 #[.agg #[.slice dd.ta dd.tn dd.tc, .slice dd.ma dd.mn dd.mc, .slice dd.sa dd.sn dd.sc, .slice no nn nc, .int .i64 kind, .slice to_ tn tc, .int .i64 room]] w (MadePost V N kind T room w) := by
  obtain ⟨ta, tn', tc', ma, mn, mc, sa, sn, sc⟩ := dd
  obtain ⟨w0, hw0⟩ : ∃ w0, (w.alloc (.cells #[.slice ta tn' tc', .slice ma mn mc, .slice sa sn sc, .slice no nn nc, .int .i64 kind, .slice to_ tn tc, .int .i64 room] 29)).alloc (.cells #[.slice none 0 0, .slice none 0 0, .slice none 0 0, .slice none 0 0, .int .i64 0, .slice none 0 0] 37) = w0 := ⟨_, rfl⟩
  have hb0 : Below w.heap.size w w0 := hw0 ▸ (below_alloc w _).alloc (by simp) _
  have hx0 : w0.heap[w.heap.size]? = some (.cells #[.slice ta tn' tc', .slice ma mn mc, .slice sa sn sc, .slice no nn nc, .int .i64 kind, .slice to_ tn tc, .int .i64 room] 29) := by rw [← hw0]; exact (Below.heap_alloc _ _ _ (by simp)).trans (heap_alloc_new w _)
  have hx1 : w0.heap[w.heap.size + 1]? = some (.cells #[.slice none 0 0, .slice none 0 0, .slice none 0 0, .slice none 0 0, .int .i64 0, .slice none 0 0] 37) := by
    rw [← hw0]
    have := heap_alloc_new (w.alloc (.cells #[.slice ta tn' tc', .slice ma mn mc, .slice sa sn sc, .slice no nn nc, .int .i64 kind, .slice to_ tn tc, .int .i64 room] 29)) (.cells #[.slice none 0 0, .slice none 0 0, .slice none 0 0, .slice none 0 0, .int .i64 0, .slice none 0 0] 37)
    simpa using this
  have HSZ1 : Hid (w.heap.size < w0.heap.size) := Lib.hid (by rw [← hw0]; simp; omega)
  have HSZ2 : Hid (w.heap.size + 1 < w0.heap.size) := Lib.hid (by rw [← hw0]; simp)
  have hgr := great16_calls (dd := ⟨ta, tn', tc', ma, mn, mc, sa, sn, sc⟩) w0 (hV.below hb0) hok (Sl.below hN hb0) hNs (hT.below hb0)
  have HBC : Hid (w.heap.size ≤ w.heap.size + 1) := Lib.hid (by omega)
  have HV := Lib.hid hV
  have HN := Lib.hid hN
  have HT := Lib.hid hT
  have HU := Lib.hid hU
  have HB0 := Lib.hid hb0
  have HX0 := Lib.hid hx0
  have HX1 := Lib.hid hx1
  have HNS := Lib.hid hNs
  have HOK := Lib.hid hok
  have HW0 := Lib.hid hw0
  obtain ⟨c0, c1, c2, c3, c4, c5, c6⟩ := box7 hx0
  rw [← HW0.out] at c0 c1 c2 c3 c4 c5 c6
  clear hV hN hT hNs hU hb0 hx0 hx1 hw0 hok
  go_enter Tryz.func12, Tryz.ntmps12
  go_wp2_with (fail)
  rw [HW0.out]
  clear c0 c1 c2 c3 c4 c5 c6
  refine hgr.mono ?_
  rintro e w1 ⟨⟨b, rfl, hbg⟩, hb1⟩
  have HB1 := Lib.hid hb1
  have HBG := Lib.hid hbg
  clear hgr hbg hb1
  obtain ⟨c0, c1, c2, c3, c4, c5, c6⟩ := box7 ((HB1.out.block w.heap.size HSZ1.out).trans HX0.out)
  obtain ⟨b0, b1, b2, b3, b4, b5, bf⟩ := box6 ((HB1.out.block (w.heap.size + 1) HSZ2.out).trans HX1.out)
  cases b with
  | true =>
    go_wp2_with (fail)
    refine bodyPost_ret (v := .tuple #[.pointer none, noC, .bool false]) ?_ rfl ⟨.inl rfl, ?_⟩
    · simp [results, Tryz.results12, go_sem, noC, b0, b1, b2, b3, b4, b5]
    · exact (((((((HB0.out.trans (HB1.out.mono HB0.out.size))).setCell HBC.out _).setCell HBC.out _).setCell HBC.out _).setCell HBC.out _).setCell HBC.out _).setCell HBC.out _
  | false =>
  have hng : ¬ GreatK V N T := fun h => by have := HBG.out.2 h; cases this
  have hvok : VOk V := ⟨HOK.out.1, HOK.out.2, by
    rcases Nat.lt_or_ge 20 V.specials.length with h | h
    · exact absurd (.inl (.inr (.inr (.inl h)))) hng
    · omega⟩
  have HNG := Lib.hid hng
  have HVOK := Lib.hid hvok
  have HBW1 : Hid (Below w.heap.size w w1) := Lib.hid (HB0.out.trans (HB1.out.mono HB0.out.size))
  have hrn := rnew16_calls (dd := ⟨ta, tn', tc', ma, mn, mc, sa, sn, sc⟩) (kind := kind) (room := room) w1 (HV.out.below HBW1.out) hvok (Sl.below HN.out HBW1.out) HNS.out (HT.out.below HBW1.out)
  clear hng hvok
  go_wp2_with (fail)
  refine hrn.mono ?_
  rintro e w2 ⟨hpost, hb2⟩
  have HBW2 : Hid (Below w.heap.size w w2) := Lib.hid (HBW1.out.trans (hb2.mono HBW1.out.size))
  have HSZ3 : Hid (w.heap.size + 1 < w2.heap.size) := Lib.hid (by have := hb2.size; have := HB1.out.size; have := HSZ2.out; omega)
  have HX02 : Hid (w2.heap[w.heap.size]? = some (.cells #[.slice ta tn' tc', .slice ma mn mc, .slice sa sn sc, .slice no nn nc, .int .i64 kind, .slice to_ tn tc, .int .i64 room] 29)) := Lib.hid ((hb2.block w.heap.size (by have := HB1.out.size; have := HSZ1.out; omega)).trans ((HB1.out.block w.heap.size HSZ1.out).trans HX0.out))
  have HX12 : Hid (w2.heap[w.heap.size + 1]? = some (.cells #[.slice none 0 0, .slice none 0 0, .slice none 0 0, .slice none 0 0, .int .i64 0, .slice none 0 0] 37)) := Lib.hid ((hb2.block (w.heap.size + 1) (by have := HB1.out.size; have := HSZ2.out; omega)).trans ((HB1.out.block (w.heap.size + 1) HSZ2.out).trans HX1.out))
  clear hb2 hrn c0 c1 c2 c3 c4 c5 c6 b0 b1 b2 b3 b4 b5 bf
  rcases hpost with ⟨_, rfl⟩ | ⟨_, _, rfl⟩ | ⟨hM, hOK, uo, un, uc, rfl, hU2⟩
  iterate 2 (
    · obtain ⟨b0, b1, b2, b3, b4, b5, bf⟩ := box6 ((Below.heap_alloc _ _ _ HSZ3.out : (w2.alloc (.cells #[.slice none 0 0, .slice none 0 0, .slice none 0 0, .slice none 0 0, .int .i64 0, .slice none 0 0] 37)).heap[w.heap.size + 1]? = _).trans HX12.out)
      unfold noC
      go_wp2_with (fail)
      refine bodyPost_ret (v := .tuple #[.pointer none, noC, .bool false]) ?_ rfl ⟨.inl rfl, ?_⟩
      · simp [results, Tryz.results12, go_sem, noC, b0, b1, b2, b3, b4, b5]
      · exact ((((((HBW2.out.alloc HBW2.out.size _).setCell HBC.out _).setCell HBC.out _).setCell HBC.out _).setCell HBC.out _).setCell HBC.out _).setCell HBC.out _)
  obtain ⟨w3, hw3⟩ : ∃ w3, w2.alloc (.cells #[.slice ta tn' tc', .slice ma mn mc, .slice sa sn sc, .slice no nn nc, .int .i64 kind, .slice uo un uc] 37) = w3 := ⟨_, rfl⟩
  have hb3 : Below w2.heap.size w2 w3 := hw3 ▸ below_alloc w2 _
  have HBW3 : Hid (Below w.heap.size w w3) := Lib.hid (HBW2.out.trans (hb3.mono HBW2.out.size))
  have HX3 : Hid (w3.heap[w2.heap.size]? = some (.cells #[.slice ta tn' tc', .slice ma mn mc, .slice sa sn sc, .slice no nn nc, .int .i64 kind, .slice uo un uc] 37)) := Lib.hid (by rw [← hw3]; exact heap_alloc_new w2 _)
  have HX03 := Lib.hid ((hb3.block w.heap.size (by have := HSZ3.out; omega)).trans HX02.out)
  have HX13 := Lib.hid ((hb3.block (w.heap.size + 1) HSZ3.out).trans HX12.out)
  have HSZ4 : Hid (w2.heap.size < w3.heap.size) := Lib.hid (by rw [← hw3]; simp)
  have hnn : nn ≤ 1048576 := by
    have := HN.out.count
    rcases Nat.lt_or_ge 20 N.length with h | h
    · exact absurd (.inr (.inl h)) HNG.out
    · omega
  have htn : tn ≤ 1048576 := by
    have := HT.out.count Rg.enc_len (by omega)
    rcases Nat.lt_or_ge 80 T.length with h | h
    · exact absurd (.inr (.inr (.inl h))) HNG.out
    · omega
  have htx := textNew_calls (dd := ⟨ta, tn', tc', ma, mn, mc, sa, sn, sc⟩) (kind := kind) (room := room) w3 (HV.out.below HBW3.out) HVOK.out (Sl.below HN.out HBW3.out) HNS.out hnn (HT.out.below HBW3.out) htn (HU.out.below HBW3.out)
  have HM := Lib.hid hM
  have HOK2 := Lib.hid hOK
  have HU3 := Lib.hid (hU2.below hb3)
  have HW3 := Lib.hid hw3
  obtain ⟨c0, c1, c2, c3, c4, c5, c6⟩ := box7 HX03.out
  rw [← HW3.out] at c0 c1 c2 c3 c4 c5 c6
  clear hb3 hw3 hM hOK hU2 hnn htn
  go_wp2_with (fail)
  rw [HW3.out]
  refine htx.mono ?_
  rintro e w4 ⟨hpost, hb4⟩
  rcases hpost with ⟨h, _⟩ | ⟨_, h, _⟩ | ⟨_, _, g, cb, mb, rfl, hcod⟩
  · exact absurd HM.out h
  · exact absurd HOK2.out h
  have HB4 := Lib.hid hb4
  have HCOD := Lib.hid hcod
  have hx4 := (HB4.out.block w2.heap.size HSZ4.out).trans HX3.out
  have hx14 := (HB4.out.block (w.heap.size + 1) (by have := HSZ3.out; have := HSZ4.out; omega)).trans HX13.out
  have HX14 := Lib.hid hx14
  obtain ⟨d0, d1, d2, d3, d4, d5, df⟩ := box6 hx4
  obtain ⟨b0, b1, b2, b3, b4, b5, bf⟩ := box6 hx14
  clear hx4 hx14 hb4 hcod htx c0 c1 c2 c3 c4 c5 c6
  go_wp2_with (fail)
  go_region
  all_goals (
    go_wp2_with (fail)
    refine bodyPost_ret (v := .tuple #[.pointer (some ⟨g, 0, none⟩), cVal ⟨ta, tn', tc', ma, mn, mc, sa, sn, sc⟩ no nn nc kind uo un uc, .bool true]) ?_ rfl ⟨.inr ⟨HM.out, HOK2.out, HNG.out, g, cb, ⟨ta, tn', tc', ma, mn, mc, sa, sn, sc⟩, no, nn, nc, uo, un, uc, rfl, ?_, ?_⟩, ?_⟩
    · simp [results, Tryz.results12, go_sem, cVal, b0, b1, b2, b3, b4, b5]
    · refine CodR.hold HCOD.out (fun q h1 h2 => ?_) (by simp) HBW3.out.size
      have hne : q ≠ w.heap.size + 1 := by have := HSZ3.out; have := HSZ4.out; omega
      exact heap_set6 hne _ _ _ _ _ _
    · have hbf := below_set6 (HBW3.out.trans (HB4.out.mono HBW3.out.size)) HBC.out (.slice ta tn' tc') (.slice ma mn mc) (.slice sa sn sc) (.slice no nn nc) (.int .i64 kind) (.slice uo un uc)
      exact ⟨HV.out.below hbf, Sl.below HN.out hbf, HM.out.1.2.1, by have := HN.out.count; have := HOK2.out.1.1; omega, HVOK.out.2.2, by have := HM.out.1.1; omega⟩
    · exact below_set6 (HBW3.out.trans (HB4.out.mono HBW3.out.size)) HBC.out _ _ _ _ _ _)

end Go.Proofs.YtnadelmbkaoeeaaGreatDoor

/- Walk: the law's own example of the index holds. -/
namespace Go.Proofs.YtnadelmbkaoeeaaGreatDoor
open Go.RowKit
set_option linter.unusedVariables false

theorem Sl.lit (w : World) (vs : List Value) (cs : Array Value) (hcs : cs = vs.toArray) (g n : Nat) (hg : g = w.heap.size) (hn : n = vs.length) (hm : n ≤ 100) (t : TypeId) :
    Sl (w.alloc (.cells cs t)) (some ⟨g, 0, .none⟩) n n vs := by
  subst hg hn hcs
  refine ⟨rfl, Nat.le_refl _, by unfold maxLen; omega, fun h => (by cases h), fun i u hu => ⟨_, _, rfl, ?_⟩⟩
  simp [hu]
theorem abs_small : ∀ s ∈ [abS, abcS], s.size ≤ maxLen := fun s hs => by
  rcases List.mem_cons.1 hs with rfl | hs
  · exact show 2 ≤ maxLen by unfold maxLen; omega
  · obtain rfl := List.mem_singleton.1 hs
    exact show 3 ≤ maxLen by unfold maxLen; omega
theorem mayNames_nil : MayNames [] := ⟨by simp, by simp, by simp⟩
theorem okKit_fix : OkKit [] 2 [] 4 := ⟨mayNames_nil, by omega, by omega, ⟨by simp, by simp, by simp⟩, by omega, by omega⟩

set_option maxHeartbeats 2000000 in
set_option maxRecDepth 100000 in
theorem fixed23_calls (w : World) (hU : Usu w) : Calls Tryz.prog 18 #[] w fun e w' => e = .returned (.bool true) ∧ Below w.heap.size w w' := by
  obtain ⟨w1, hw1⟩ : ∃ w1, w.alloc (.cells #[.string ⟨#[97, 98]⟩, .string ⟨#[97, 98, 99]⟩] 9) = w1 := ⟨_, rfl⟩
  have hb1 : Below w.heap.size w w1 := hw1 ▸ below_alloc w _
  have HS1 : Hid (SlS w1 (some ⟨w.heap.size, 0, none⟩) 2 2 [abS, abcS]) := Lib.hid (by rw [← hw1]; exact Sl.lit w _ _ rfl _ _ rfl rfl (by simp) _)
  have HU1 := Lib.hid (hU.below hb1)
  have HB1 := Lib.hid hb1
  have HW1 := Lib.hid hw1
  clear hw1 hb1 hU
  go_enter Tryz.func18, Tryz.ntmps18
  go_wp2_with (fail)
  rw [HW1.out]
  refine (letters_calls (M := [abS, abcS]) (N := []) w1 HS1.out Sl.none abs_small (by simp) (by omega) (by omega)).mono ?_
  rintro e w2 ⟨hpost, hb2⟩
  rw [R1_eq] at hpost
  have hn0 : lettersS [abS, abcS] [] = [] := rfl
  rw [hn0, voc_R1] at hpost
  rcases hpost with ⟨_, ⟨ta, tn, tc, ma, mn, mc, sa, sn, sc⟩, rfl, hv⟩ | ⟨hn, _⟩
  rotate_left
  · exact absurd good_R1 hn
  obtain ⟨w3, hw3⟩ : ∃ w3, w2.alloc (.cells #[.slice ta tn tc, .slice ma mn mc, .slice sa sn sc] 26) = w3 := ⟨_, rfl⟩
  have hb3 : Below w2.heap.size w2 w3 := hw3 ▸ below_alloc w2 _
  have HB3 : Hid (Below w.heap.size w w3) := Lib.hid (HB1.out.trans ((hb2.trans (hb3.mono hb2.size)).mono HB1.out.size))
  have HV3 := Lib.hid (hv.below hb3)
  have HU3 := Lib.hid ((HU1.out.below hb2).below hb3)
  have HW3 := Lib.hid hw3
  clear hw3 hb3 hb2 hv hn0
  simp only [Vd.val]
  go_wp2_with (fail)
  rw [HW3.out]
  refine (textNew_calls (dd := ⟨ta, tn, tc, ma, mn, mc, sa, sn, sc⟩) (kind := 2) (N := []) (T := []) (room := 4) w3 HV3.out ⟨fun s hs => Nat.le_trans (may_V1.1.2.1 s hs) (by unfold maxLen; omega), fun s hs => (by cases hs), (show 0 ≤ 1048576 by omega)⟩ Sl.none (by simp) (by omega) (SlF.nothing _) (by omega) HU3.out).mono ?_
  rintro e w4 ⟨hpost, hb4⟩
  rcases hpost with ⟨h, _⟩ | ⟨_, h, _⟩ | ⟨_, _, g, cb, mb, rfl, hcod⟩
  · exact absurd may_V1 h
  · exact absurd okKit_fix h
  have HB4 := Lib.hid (HB3.out.trans (hb4.mono HB3.out.size))
  have HCOD := Lib.hid hcod.stay
  clear hb4 hcod
  go_wp2_with (fail)
  refine (fnew_calls w4 HCOD.out may_V1 mayNames_nil).mono ?_
  rintro e w5 ⟨⟨x, P, rfl, hi⟩, hb5⟩
  have HB5 := Lib.hid (HB4.out.trans (hb5.mono HB4.out.size))
  have HI := Lib.hid hi
  clear hb5 hi
  go_wp2_with (fail)
  refine (vlen_calls w5 HI.out).mono ?_
  rintro e w5' ⟨rfl, rfl⟩
  rw [rowsLen_V1]
  obtain ⟨w6, hw6⟩ : ∃ w6, w5.alloc (.cells #[.int .i64 97, .int .i64 98] 3) = w6 := ⟨_, rfl⟩
  have hb6 : Below w5.heap.size w5 w6 := hw6 ▸ below_alloc w5 _
  have HS6 : Hid (SlI w6 (some ⟨w5.heap.size, 0, none⟩) 2 2 [97, 98]) := Lib.hid (by rw [← hw6]; exact Sl.lit w5 _ _ rfl _ _ rfl rfl (by simp) _)
  have HB6 := Lib.hid (HB5.out.trans (hb6.mono HB5.out.size))
  have HI6 := Lib.hid (HI.out.below hb6)
  have HW6 := Lib.hid hw6
  clear hw6 hb6
  go_wp2_with (fail)
  rw [HW6.out]
  refine (vallowed_calls w6 HI6.out may_V1 HS6.out).mono ?_
  rintro e w7 ⟨⟨v, rfl, ho⟩, hb7⟩
  rw [allowed_V1] at ho
  obtain ⟨ao, cap, rfl, hs⟩ := ho.sl
  obtain ⟨w8, hw8⟩ : ∃ w8, w7.alloc (.cells #[.int .i64 97, .int .i64 256, .int .i64 257] 3) = w8 := ⟨_, rfl⟩
  have hb8 : Below w7.heap.size w7 w8 := hw8 ▸ below_alloc w7 _
  have HS8 : Hid (SlI w8 (some ⟨w7.heap.size, 0, none⟩) 3 3 [97, 256, 257]) := Lib.hid (by rw [← hw8]; exact Sl.lit w7 _ _ rfl _ _ rfl rfl (by simp) _)
  have HA8 := Lib.hid (hs.below hb8)
  have HB8 := Lib.hid ((HB6.out.trans (hb7.mono HB6.out.size)).trans (hb8.mono (Nat.le_trans HB6.out.size hb7.size)))
  have HI8 := Lib.hid ((HI6.out.below hb7).below hb8)
  have HW8 := Lib.hid hw8
  clear hw8 hb8 hb7 ho hs
  go_wp2_with (fail)
  rw [HW8.out]
  refine (same10 w8 HA8.out HS8.out).mono ?_
  rintro e w9 ⟨k, rfl, rfl⟩
  rw [eqB_true rfl]
  obtain ⟨wa, hwa⟩ : ∃ wa, (w8.drewN k).alloc (.cells #[.int .i64 97, .int .i64 98] 3) = wa := ⟨_, rfl⟩
  have hb9 : Below w8.heap.size w8 (w8.drewN k) := below_drewN (Below.refl _ _) k
  have hba : Below (w8.drewN k).heap.size (w8.drewN k) wa := hwa ▸ below_alloc _ _
  have HSA : Hid (SlI wa (some ⟨w8.heap.size, 0, none⟩) 2 2 [97, 98]) := Lib.hid (by rw [← hwa]; exact Sl.lit (w8.drewN k) _ _ rfl _ _ rfl rfl (by simp) _)
  have HBA := Lib.hid (HB8.out.trans ((hb9.trans (hba.mono (Nat.le_refl _))).mono HB8.out.size))
  have HIA := Lib.hid ((HI8.out.below hb9).below hba)
  have HWA := Lib.hid hwa
  clear hwa hb9 hba
  have HBST : Hid (longTo (P.map FP.fr) [97, 98] (min [(97 : Int), 98].length 64) = 256) := Lib.hid (best_V1.all (goodF may_V1) HI.out.perm).symm
  go_wp2_with (fail)
  rw [HWA.out]
  refine (vlongest_calls wa HIA.out may_V1 HSA.out).mono ?_
  rintro e wb ⟨rfl, hbb⟩
  rw [HBST.out]
  have HBB := Lib.hid (HBA.out.trans (hbb.mono HBA.out.size))
  clear hbb
  go_wp2_with (fail)
  go_ret
  exact ⟨rfl, HBB.out⟩

end Go.Proofs.YtnadelmbkaoeeaaGreatDoor

/- Walk: ForceNil. -/
namespace Go.Proofs.YtnadelmbkaoeeaaGreatDoor
open Go.RowKit
set_option linter.unusedVariables false

set_option maxHeartbeats 1000000 in
set_option maxRecDepth 100000 in
theorem forceNil_walk (v : Value) (w : World) (hU : Usu w) : Frame.Law Tryz.prog 7 #[v] w := by
  unfold Frame.Law
  have HU := Lib.hid hU
  clear hU
  go_enter Tryz.func7, Tryz.ntmps7
  go_wp2_with (fail)
  refine (fnew_nil w).mono ?_
  rintro e w1 ⟨rfl, hb1⟩
  have HB1 := Lib.hid hb1
  have HU1 := Lib.hid (HU.out.below hb1)
  clear hb1
  go_wp2_with (fail)
  refine (fixed23_calls w1 HU1.out).mono ?_
  rintro e w2 ⟨rfl, hb2⟩
  have HB2 := Lib.hid (HB1.out.trans (hb2.mono HB1.out.size))
  clear hb2
  go_wp2_with (fail)
  refine (lenF_nil w2).mono ?_
  rintro e w2' ⟨rfl, rfl⟩
  go_wp2_with (fail)
  refine (allowed_nil v w2).mono ?_
  rintro e w3 ⟨rfl, q, rfl⟩
  go_wp2_with (fail)
  refine (longest_nil v (w2.drewN q)).mono ?_
  rintro e w3' ⟨rfl, rfl⟩
  go_wp2_with (fail)
  go_ret
  exact ⟨rfl, below_drewN HB2.out q⟩

end Go.Proofs.YtnadelmbkaoeeaaGreatDoor

/- Walk: ForceAllows. -/
namespace Go.Proofs.YtnadelmbkaoeeaaGreatDoor
open Go.RowKit
set_option linter.unusedVariables false

theorem keepC {w4 w w' : World} {k : Nat} {a b c d e f : Value} (h : w.cell? ⟨k, 0, none⟩ = some a ∧ w.cell? ⟨k, 1, none⟩ = some b ∧ w.cell? ⟨k, 2, none⟩ = some c ∧ w.cell? ⟨k, 3, none⟩ = some d ∧ w.cell? ⟨k, 4, none⟩ = some e ∧ w.cell? ⟨k, 5, none⟩ = some f ∧ Below w4.heap.size w4 w) (hb : Below w.heap.size w w') :
    w'.cell? ⟨k, 0, none⟩ = some a ∧ w'.cell? ⟨k, 1, none⟩ = some b ∧ w'.cell? ⟨k, 2, none⟩ = some c ∧ w'.cell? ⟨k, 3, none⟩ = some d ∧ w'.cell? ⟨k, 4, none⟩ = some e ∧ w'.cell? ⟨k, 5, none⟩ = some f ∧ Below w4.heap.size w4 w' := by
  obtain ⟨h0, h1, h2, h3, h4, h5, h6⟩ := h
  exact ⟨cell_below hb _ _ h0, cell_below hb _ _ h1, cell_below hb _ _ h2, cell_below hb _ _ h3, cell_below hb _ _ h4, cell_below hb _ _ h5, h6.trans (hb.mono h6.size)⟩
theorem last7 {a b c d e f g : Prop} (h : a ∧ b ∧ c ∧ d ∧ e ∧ f ∧ g) : g := h.2.2.2.2.2.2

set_option maxHeartbeats 2000000 in
set_option maxRecDepth 100000 in
theorem forceAllows_walk {V : Vc} {dd : Vd} {N : List ByteArray} {kind : Int} {T : List Rg} {room : Int} {no to_ so : Option Addr} {nn nc tn tc sl sc : Nat} {S : List Int} (w : World) (hV : VocR w dd V) (hok : (∀ s ∈ V.tokens, s.size ≤ maxLen) ∧ Sized V.specials) (hN : SlS w no nn nc N) (hNs : ∀ s ∈ N, s.size ≤ maxLen)
    (hT : SlF 3 w to_ tn tc (flat Rg.enc T)) (hS : SlI w so sl sc S) (hU : Usu w) :
    Frame.Law Tryz.prog 5 #[.agg #[.slice dd.ta dd.tn dd.tc, .slice dd.ma dd.mn dd.mc, .slice dd.sa dd.sn dd.sc, .slice no nn nc, .int .i64 kind, .slice to_ tn tc, .int .i64 room], .slice so sl sc] w := by
  unfold Frame.Law
  obtain ⟨ta, tn', tc', ma, mn, mc, sa, sn, sc'⟩ := dd
  obtain ⟨w0, hw0⟩ : ∃ w0, w.alloc (.cells #[.slice ta tn' tc', .slice ma mn mc, .slice sa sn sc', .slice no nn nc, .int .i64 kind, .slice to_ tn tc, .int .i64 room] 29) = w0 := ⟨_, rfl⟩
  have hb0 : Below w.heap.size w w0 := hw0 ▸ below_alloc w _
  have hx0 : w0.heap[w.heap.size]? = some (.cells #[.slice ta tn' tc', .slice ma mn mc, .slice sa sn sc', .slice no nn nc, .int .i64 kind, .slice to_ tn tc, .int .i64 room] 29) := by rw [← hw0]; exact heap_alloc_new w _
  have hmade := made_calls (dd := ⟨ta, tn', tc', ma, mn, mc, sa, sn, sc'⟩) (kind := kind) (room := room) w0 (hV.below hb0) hok (Sl.below hN hb0) hNs (hT.below hb0) (hU.below hb0)
  have HS := Lib.hid hS
  have hmx := Sl.max hS
  have hlx := Sl.le hS
  unfold maxLen at hmx
  have HLEN := Lib.hid hS.len
  have HU := Lib.hid hU
  have HB0 := Lib.hid hb0
  have HW0 := Lib.hid hw0
  obtain ⟨c0, c1, c2, c3, c4, c5, c6⟩ := box7 hx0
  rw [← HW0.out] at c0 c1 c2 c3 c4 c5 c6
  clear hV hok hN hNs hT hU hb0 hw0 hx0 hS
  go_enter Tryz.func5, Tryz.ntmps5
  go_wp2_with (fail)
  rw [HW0.out]
  clear c0 c1 c2 c3 c4 c5 c6
  refine hmade.mono ?_
  rintro e w1 ⟨hpost, hb1⟩
  have HB1 : Hid (Below w.heap.size w w1) := Lib.hid (HB0.out.trans (hb1.mono HB0.out.size))
  clear hb1 hmade
  rcases hpost with rfl | ⟨hM, hOK, hG, g, cb, dd2, no2, nn2, nc2, to2, tn2, tc2, rfl, hTC, hCR⟩
  · unfold noC
    have hb2 := HB1.out.alloc HB1.out.size (.cells #[.slice none 0 0, .slice none 0 0, .slice none 0 0, .slice none 0 0, .int .i64 0, .slice none 0 0] 37)
    have HB2 := Lib.hid hb2
    clear hb2
    go_wp2_with (fail)
    refine (fixed23_calls _ (HU.out.below HB2.out)).mono ?_
    rintro e w3 ⟨rfl, hb3⟩
    have HB3 := Lib.hid (HB2.out.trans (hb3.mono HB2.out.size))
    clear hb3
    go_wp2_with (fail)
    go_ret
    exact ⟨rfl, HB3.out⟩
  obtain ⟨ta2, tn2', tc2', ma2, mn2, mc2, sa2, sn2, sc2⟩ := dd2
  obtain ⟨w2, hw2⟩ : ∃ w2, w1.alloc (.cells #[.slice ta2 tn2' tc2', .slice ma2 mn2 mc2, .slice sa2 sn2 sc2, .slice no2 nn2 nc2, .int .i64 kind, .slice to2 tn2 tc2] 37) = w2 := ⟨_, rfl⟩
  have hb2 : Below w1.heap.size w1 w2 := hw2 ▸ below_alloc w1 _
  have hx2 : w2.heap[w1.heap.size]? = some (.cells #[.slice ta2 tn2' tc2', .slice ma2 mn2 mc2, .slice sa2 sn2 sc2, .slice no2 nn2 nc2, .int .i64 kind, .slice to2 tn2 tc2] 37) := by rw [← hw2]; exact heap_alloc_new w1 _
  have HB2 : Hid (Below w.heap.size w w2) := Lib.hid (HB1.out.trans (hb2.mono HB1.out.size))
  have HTC : Hid (∀ w'', Below w2.heap.size w2 w'' → TCod w'' w0.heap.size g V N kind (tabOf T) cb) := Lib.hid (fun w'' h => hTC w'' (hb2.trans (h.mono hb2.size)))
  have HCR := Lib.hid (hCR.below hb2)
  have HM := Lib.hid hM
  have HOK := Lib.hid hOK
  have HX2 := Lib.hid hx2
  have HW2 := Lib.hid hw2
  clear hb2 hx2 hw2 hTC hCR hM hOK hG
  unfold cVal
  by_cases hl : 100 < sl
  · have hl1 : (100 : Int) < (sl : Int) := by omega
    go_wp2_with (fail)
    rw [HW2.out]
    refine (fixed23_calls _ (HU.out.below HB2.out)).mono ?_
    rintro e w3 ⟨rfl, hb3⟩
    have HB3 := Lib.hid (HB2.out.trans (hb3.mono HB2.out.size))
    clear hb3
    go_wp2_with (fail)
    go_ret
    exact ⟨rfl, HB3.out⟩
  have hl1 : ¬ (100 : Int) < (sl : Int) := by omega
  go_wp2_with (fail)
  rw [HW2.out]
  refine (fnew_calls w2 HTC.out HM.out HOK.out.1).mono ?_
  rintro e w3 ⟨⟨x, P, rfl, hi⟩, hb3⟩
  have HB3 := Lib.hid (HB2.out.trans (hb3.mono HB2.out.size))
  have hx3 := (hb3.block w1.heap.size (by rw [← HW2.out]; simp)).trans HX2.out
  have HI := Lib.hid hi
  have HCR3 := Lib.hid (HCR.out.below hb3)
  have HS3 := Lib.hid (HS.out.below HB3.out)
  have HU3 := Lib.hid (HU.out.below HB3.out)
  obtain ⟨b0, b1, b2, b3, b4, b5, bf⟩ := box6 hx3
  obtain ⟨k1, hk1⟩ : ∃ k1 : Int, longTo (P.map FP.fr) S (min S.length 64) = k1 := ⟨_, rfl⟩
  obtain ⟨k0, hk0⟩ : ∃ k0 : Int, ((rowsF V N).length : Int) = k0 := ⟨_, rfl⟩
  obtain ⟨al, hal⟩ : ∃ al, allowedF (rowsF V N) S = al := ⟨_, rfl⟩
  have qlen : ∀ W, Below w3.heap.size w3 W → Calls Tryz.prog 20 #[.pointer (some ⟨x, 0, none⟩)] W fun e w' => e = .returned (.int .i64 k0) ∧ W = w' := fun W hb => by
    rw [← hk0]; exact vlen_calls W (HI.out.below hb)
  have qrlen : ∀ W, Below w3.heap.size w3 W → Calls Tryz.prog 21 #[.agg #[.slice ta2 tn2' tc2', .slice ma2 mn2 mc2, .slice sa2 sn2 sc2, .slice no2 nn2 nc2, .int .i64 kind, .slice to2 tn2 tc2]] W fun e w' => e = .returned (.int .i64 k0) ∧ Below W.heap.size W w' := fun W hb => by
    rw [← hk0]; have := rlen_calls (to_ := to2) (tn' := tn2) (tc' := tc2) (kind := kind) W (HCR3.out.below hb); exact this
  have qal : ∀ W, Below w3.heap.size w3 W → Calls Tryz.prog 22 #[.pointer (some ⟨x, 0, none⟩), .slice so sl sc] W fun e w' => (∃ ao cap, e = .returned (.slice ao al.length cap) ∧ SlI w' ao al.length cap al) ∧ Below W.heap.size W w' := fun W hb => by
    refine (vallowed_calls W (HI.out.below hb) HM.out (HS3.out.below hb)).mono ?_
    rintro e w' ⟨⟨v, rfl, ho⟩, hbb⟩
    rw [hal] at ho
    obtain ⟨ao, cap, rfl, hs⟩ := ho.sl
    exact ⟨⟨ao, cap, rfl, hs⟩, hbb⟩
  have qral : ∀ W, Below w3.heap.size w3 W → Calls Tryz.prog 23 #[.agg #[.slice ta2 tn2' tc2', .slice ma2 mn2 mc2, .slice sa2 sn2 sc2, .slice no2 nn2 nc2, .int .i64 kind, .slice to2 tn2 tc2], .slice so sl sc] W fun e w' => (∃ ao cap, e = .returned (.slice ao al.length cap) ∧ SlI w' ao al.length cap al) ∧ Below W.heap.size W w' := fun W hb => by
    have h0 := rallowed_calls (to_ := to2) (tn' := tn2) (tc' := tc2) (kind := kind) W (HCR3.out.below hb) (HS3.out.below hb)
    refine Calls.mono h0 ?_
    rintro e w' ⟨⟨v, rfl, ho⟩, hbb⟩
    rw [hal] at ho
    obtain ⟨ao, cap, rfl, hs⟩ := ho.sl
    exact ⟨⟨ao, cap, rfl, hs⟩, hbb⟩
  have qlo : ∀ W, Below w3.heap.size w3 W → Calls Tryz.prog 24 #[.pointer (some ⟨x, 0, none⟩), .slice so sl sc] W fun e w' => e = .returned (.int .i64 k1) ∧ Below W.heap.size W w' := fun W hb => by
    rw [← hk1]; exact vlongest_calls W (HI.out.below hb) HM.out (HS3.out.below hb)
  have qrlo : ∀ W, Below w3.heap.size w3 W → Calls Tryz.prog 25 #[.agg #[.slice ta2 tn2' tc2', .slice ma2 mn2 mc2, .slice sa2 sn2 sc2, .slice no2 nn2 nc2, .int .i64 kind, .slice to2 tn2 tc2], .slice so sl sc] W fun e w' => e = .returned (.int .i64 k1) ∧ Below W.heap.size W w' := fun W hb => by
    have h0 := rlongest_calls (to_ := to2) (tn' := tn2) (tc' := tc2) (kind := kind) W (HCR3.out.below hb) HM.out (HS3.out.below hb)
    refine Calls.mono h0 ?_
    rintro e w' ⟨⟨best, most, rfl, hbst⟩, hbb⟩
    rw [← hk1, hbst.all (goodF HM.out) HI.out.perm]
    exact ⟨rfl, hbb⟩
  have qfix : ∀ W, Below w3.heap.size w3 W → Calls Tryz.prog 18 #[] W fun e w' => e = .returned (.bool true) ∧ Below W.heap.size W w' := fun W hb => fixed23_calls W (HU3.out.below hb)
  have qsame : ∀ W (a b : Option Addr) (c d : Nat), SlI W a al.length c al → SlI W b al.length d al → Calls Tryz.prog 17 #[.slice a al.length c, .slice b al.length d] W fun e w' => e = .returned (.bool true) ∧ Below W.heap.size W w' := fun W a b c d h1 h2 => by
    refine (same10 W h1 h2).mono ?_
    rintro e w' ⟨k, rfl, rfl⟩
    rw [eqB_true rfl]
    exact ⟨rfl, below_drewN (Below.refl _ _) k⟩
  have hkk0 : (k0 == k0) = true := by simp
  have hkk1 : (k1 == k1) = true := by simp
  obtain ⟨m, hm⟩ : ∃ m, al.length = m := ⟨_, rfl⟩
  rw [hm] at qal qral qsame
  clear hi hb3 hx3 bf hk0 hk1 hal hm
  go_wp2_with (fail)
  go_region_held3 (fun w' => w'.cell? ⟨w1.heap.size, 0, none⟩ = some (.slice ta2 tn2' tc2') ∧ w'.cell? ⟨w1.heap.size, 1, none⟩ = some (.slice ma2 mn2 mc2) ∧ w'.cell? ⟨w1.heap.size, 2, none⟩ = some (.slice sa2 sn2 sc2) ∧ w'.cell? ⟨w1.heap.size, 3, none⟩ = some (.slice no2 nn2 nc2) ∧ w'.cell? ⟨w1.heap.size, 4, none⟩ = some (.int .i64 kind) ∧ w'.cell? ⟨w1.heap.size, 5, none⟩ = some (.slice to2 tn2 tc2) ∧ Below w3.heap.size w3 w') (first | assumption | exact keepC (by assumption) (by assumption) | exact ⟨b0, b1, b2, b3, b4, b5, (Below.refl _ _).drew⟩)
    (first
      | (go_at_call 18; refine (qfix _ (last7 (by assumption))).mono ?_; rintro e w9 ⟨rfl, hb9⟩)
      | (go_at_call 20; refine (qlen _ (last7 (by assumption))).mono ?_; rintro e w9 ⟨rfl, rfl⟩)
      | (go_at_call 21; refine (qrlen _ (last7 (by assumption))).mono ?_; rintro e w9 ⟨rfl, hb9⟩)
      | (go_at_call 22; refine (qal _ (last7 (by assumption))).mono ?_; rintro e w9 ⟨⟨ao9, cap9, rfl, hs9⟩, hb9⟩; have HA9 := Lib.hid hs9)
      | (go_at_call 23; refine (qral _ (last7 (by assumption))).mono ?_; rintro e w8 ⟨⟨ao8, cap8, rfl, hs8⟩, hb8⟩; have HA8 := Lib.hid hs8)
      | (go_at_call 17; refine (qsame _ _ _ _ _ (by first | exact HA9.out | exact Sl.below HA9.out hb8) (by first | exact HA8.out | exact Sl.below HA8.out hb9)).mono ?_; rintro e w7 ⟨rfl, hb7⟩)
      | (go_at_call 24; refine (qlo _ (last7 (by assumption))).mono ?_; rintro e w6 ⟨rfl, hb6⟩)
      | (go_at_call 25; refine (qrlo _ (last7 (by assumption))).mono ?_; rintro e w5 ⟨rfl, hb5⟩))
  all_goals (go_wp2_with fail; go_ret; exact ⟨rfl, HB3.out.trans (Below.mono (last7 (by assumption)) HB3.out.size)⟩)

end Go.Proofs.YtnadelmbkaoeeaaGreatDoor

/- Walk: ForceMore. -/
namespace Go.Proofs.YtnadelmbkaoeeaaGreatDoor
open Go.RowKit
set_option linter.unusedVariables false

set_option maxHeartbeats 2000000 in
set_option maxRecDepth 100000 in
theorem forceMore_walk {V : Vc} {dd : Vd} {N : List ByteArray} {kind : Int} {T : List Rg} {room : Int} {no to_ so : Option Addr} {nn nc tn tc sl sc : Nat} {S : List Int} (more : Int) (w : World) (hV : VocR w dd V) (hok : (∀ s ∈ V.tokens, s.size ≤ maxLen) ∧ Sized V.specials) (hN : SlS w no nn nc N) (hNs : ∀ s ∈ N, s.size ≤ maxLen)
    (hT : SlF 3 w to_ tn tc (flat Rg.enc T)) (hS : SlI w so sl sc S) (hU : Usu w) :
    Frame.Law Tryz.prog 6 #[.agg #[.slice dd.ta dd.tn dd.tc, .slice dd.ma dd.mn dd.mc, .slice dd.sa dd.sn dd.sc, .slice no nn nc, .int .i64 kind, .slice to_ tn tc, .int .i64 room], .slice so sl sc, .int .i64 more] w := by
  unfold Frame.Law
  obtain ⟨ta, tn', tc', ma, mn, mc, sa, sn, sc'⟩ := dd
  obtain ⟨w0, hw0⟩ : ∃ w0, w.alloc (.cells #[.slice ta tn' tc', .slice ma mn mc, .slice sa sn sc', .slice no nn nc, .int .i64 kind, .slice to_ tn tc, .int .i64 room] 29) = w0 := ⟨_, rfl⟩
  have hb0 : Below w.heap.size w w0 := hw0 ▸ below_alloc w _
  have hx0 : w0.heap[w.heap.size]? = some (.cells #[.slice ta tn' tc', .slice ma mn mc, .slice sa sn sc', .slice no nn nc, .int .i64 kind, .slice to_ tn tc, .int .i64 room] 29) := by rw [← hw0]; exact heap_alloc_new w _
  have hmade := made_calls (dd := ⟨ta, tn', tc', ma, mn, mc, sa, sn, sc'⟩) (kind := kind) (room := room) w0 (hV.below hb0) hok (Sl.below hN hb0) hNs (hT.below hb0) (hU.below hb0)
  have HS := Lib.hid hS
  have hmx := Sl.max hS
  have hlx := Sl.le hS
  unfold maxLen at hmx
  have HLEN := Lib.hid hS.len
  have HU := Lib.hid hU
  have HB0 := Lib.hid hb0
  have HW0 := Lib.hid hw0
  obtain ⟨c0, c1, c2, c3, c4, c5, c6⟩ := box7 hx0
  rw [← HW0.out] at c0 c1 c2 c3 c4 c5 c6
  clear hV hok hN hNs hT hU hb0 hw0 hx0 hS
  go_enter Tryz.func6, Tryz.ntmps6
  go_wp2_with (fail)
  rw [HW0.out]
  clear c0 c1 c2 c3 c4 c5 c6
  refine hmade.mono ?_
  rintro e w1 ⟨hpost, hb1⟩
  have HB1 : Hid (Below w.heap.size w w1) := Lib.hid (HB0.out.trans (hb1.mono HB0.out.size))
  clear hb1 hmade
  rcases hpost with rfl | ⟨hM, hOK, hG, g, cb, dd2, no2, nn2, nc2, to2, tn2, tc2, rfl, hTC, hCR⟩
  · unfold noC
    have hb2 := HB1.out.alloc HB1.out.size (.cells #[.slice none 0 0, .slice none 0 0, .slice none 0 0, .slice none 0 0, .int .i64 0, .slice none 0 0] 37)
    have HB2 := Lib.hid hb2
    clear hb2
    go_wp2_with (fail)
    refine (fixed23_calls _ (HU.out.below HB2.out)).mono ?_
    rintro e w3 ⟨rfl, hb3⟩
    have HB3 := Lib.hid (HB2.out.trans (hb3.mono HB2.out.size))
    clear hb3
    go_wp2_with (fail)
    go_ret
    exact ⟨rfl, HB3.out⟩
  obtain ⟨ta2, tn2', tc2', ma2, mn2, mc2, sa2, sn2, sc2⟩ := dd2
  obtain ⟨w2, hw2⟩ : ∃ w2, w1.alloc (.cells #[.slice ta2 tn2' tc2', .slice ma2 mn2 mc2, .slice sa2 sn2 sc2, .slice no2 nn2 nc2, .int .i64 kind, .slice to2 tn2 tc2] 37) = w2 := ⟨_, rfl⟩
  have hb2 : Below w1.heap.size w1 w2 := hw2 ▸ below_alloc w1 _
  have hx2 : w2.heap[w1.heap.size]? = some (.cells #[.slice ta2 tn2' tc2', .slice ma2 mn2 mc2, .slice sa2 sn2 sc2, .slice no2 nn2 nc2, .int .i64 kind, .slice to2 tn2 tc2] 37) := by rw [← hw2]; exact heap_alloc_new w1 _
  have HB2 : Hid (Below w.heap.size w w2) := Lib.hid (HB1.out.trans (hb2.mono HB1.out.size))
  have HTC : Hid (∀ w'', Below w2.heap.size w2 w'' → TCod w'' w0.heap.size g V N kind (tabOf T) cb) := Lib.hid (fun w'' h => hTC w'' (hb2.trans (h.mono hb2.size)))
  have HCR := Lib.hid (hCR.below hb2)
  have HM := Lib.hid hM
  have HOK := Lib.hid hOK
  have HX2 := Lib.hid hx2
  have HW2 := Lib.hid hw2
  clear hb2 hx2 hw2 hTC hCR hM hOK hG
  unfold cVal
  have fixway : ∀ W, Below w2.heap.size w2 W → Calls Tryz.prog 18 #[] W fun e w' => e = .returned (.bool true) ∧ Below w.heap.size w w' := fun W hb => by
    have hbw := HB2.out.trans (hb.mono HB2.out.size)
    refine (fixed23_calls W (HU.out.below hbw)).mono ?_
    rintro e w' ⟨rfl, hb'⟩
    exact ⟨rfl, hbw.trans (hb'.mono hbw.size)⟩
  by_cases hl : 60 < sl
  · have hl1 : (60 : Int) < (sl : Int) := by omega
    go_wp2_with (fail)
    rw [HW2.out]
    refine (fixway _ (Below.refl _ _)).mono ?_
    rintro e w3 ⟨rfl, hb3⟩
    have HB3 := Lib.hid hb3
    clear hb3
    go_wp2_with (fail)
    go_ret
    exact ⟨rfl, HB3.out⟩
  have hl1 : ¬ (60 : Int) < (sl : Int) := by omega
  by_cases hl0 : sl = 0
  · subst hl0
    go_wp2_with (fail)
    rw [HW2.out]
    refine (fixway _ (Below.refl _ _)).mono ?_
    rintro e w3 ⟨rfl, hb3⟩
    have HB3 := Lib.hid hb3
    clear hb3
    go_wp2_with (fail)
    go_ret
    exact ⟨rfl, HB3.out⟩
  have hl2 : ((sl : Int) == (0 : Int)) = false := by simpa using hl0
  have HNE : Hid (S ≠ []) := Lib.hid (fun e => by have := HLEN.out; rw [e] at this; simp at this; omega)
  go_wp2_with (fail)
  rw [HW2.out]
  refine (fnew_calls w2 HTC.out HM.out HOK.out.1).mono ?_
  rintro e w3 ⟨⟨x, P, rfl, hi⟩, hb3⟩
  have HB23 := Lib.hid hb3
  have HB3 := Lib.hid (HB2.out.trans (hb3.mono HB2.out.size))
  have HX3 := Lib.hid ((hb3.block w1.heap.size (by rw [← HW2.out]; simp)).trans HX2.out)
  have HK3 : Hid (w1.heap.size < w3.heap.size) := Lib.hid (by have := hb3.size; rw [← HW2.out] at this; simp at this; omega)
  have HI := Lib.hid hi
  have HCR3 := Lib.hid (HCR.out.below hb3)
  have HS3 := Lib.hid (HS.out.below HB3.out)
  clear hi hb3
  obtain ⟨i0, hi, hz0, hz1, hz2⟩ := info_parts infoInt3
  have HO4 : Hid (Own (w3.alloc (.cells #[] 3)) w3.heap.size (.slice (some ⟨w3.heap.size, 0, none⟩) 0 0) []) := Lib.hid (own_zero w3)
  have HS4 : Hid (SlI (w3.alloc (.cells #[] 3)) so sl sc S) := Lib.hid (HS3.out.alloc _)
  go_wp2_with (at_builtin; go_loud (refine wpList_int_app rfl _ _ 41 rfl i0 Tryz.underlying41 hi hz0 hz1 hz2 rfl HO4.out rfl HS4.out (by simp; omega) (by simp) ?_))
  intro v5 w5 ho5 hg5 hb5
  have HB5 : Hid (Below w3.heap.size w3 w5) := Lib.hid ((below_alloc w3 _).trans hb5)
  have HO6 : Hid (Own (w5.alloc (.cells #[.int .i64 more] 3)) w3.heap.size v5 S) := Lib.hid (Own.alloc (by simpa using ho5) _)
  have HS6 : Hid (SlI (w5.alloc (.cells #[.int .i64 more] 3)) (some ⟨w5.heap.size, 0, none⟩) 1 1 [more]) := Lib.hid (SlI.one w5 more _)
  have HSZ5 : Hid (w3.heap.size ≤ w5.heap.size) := Lib.hid HB5.out.size
  clear ho5 hg5 hb5
  go_wp2_with (at_builtin; go_loud (refine wpList_int_app rfl _ _ 41 rfl i0 Tryz.underlying41 hi hz0 hz1 hz2 rfl HO6.out rfl HS6.out (by have := HLEN.out; omega) (by have := HSZ5.out; simp; omega) ?_))
  intro v7 w7 ho7 hg7 hb7
  obtain ⟨lo, lc, rfl, hs7⟩ := ho7.sl
  have HB7 : Hid (Below w3.heap.size w3 w7) := Lib.hid ((HB5.out.alloc HB5.out.size _).trans hb7)
  have hll : (S ++ [more]).length = sl + 1 := by rw [List.length_append, HLEN.out]; rfl
  rw [hll] at hs7
  have HS7 := Lib.hid hs7
  have HT7 := Lib.hid (HS3.out.below HB7.out)
  rw [hll]
  clear ho7 hg7 hb7 hs7 hll
  go_wp2_with (fail)
  refine (vallowed_calls w7 (HI.out.below HB7.out) HM.out HS7.out).mono ?_
  rintro e w8 ⟨⟨v8, rfl, ho8⟩, hb8⟩
  obtain ⟨fo, fc, rfl, hs8⟩ := ho8.sl
  have HB8 := Lib.hid (HB7.out.trans (hb8.mono HB7.out.size))
  have HT8 := Lib.hid (HT7.out.below hb8)
  have HS8 := Lib.hid (HS7.out.below hb8)
  have HF8 := Lib.hid hs8
  clear hs8 ho8 hb8
  go_wp2_with (fail)
  refine (vallowed_calls w8 (HI.out.below HB8.out) HM.out HT8.out).mono ?_
  rintro e w9 ⟨⟨v9, rfl, ho9⟩, hb9⟩
  obtain ⟨lo2, lc2, rfl, hs9⟩ := ho9.sl
  have HB9 := Lib.hid (HB8.out.trans (hb9.mono HB8.out.size))
  have HT9 := Lib.hid (HT8.out.below hb9)
  have HS9 := Lib.hid (HS8.out.below hb9)
  have HF9 := Lib.hid (HF8.out.below hb9)
  have HA9 := Lib.hid hs9
  clear hs9 ho9 hb9
  have HSUB : Hid (∀ id ∈ allowedF (rowsF V N) (S ++ [more]), id ∈ allowedF (rowsF V N) S) := Lib.hid (fun id h => more_mem HNE.out h)
  have hle : ((allowedF (rowsF V N) (S ++ [more])).length : Int) ≤ ((allowedF (rowsF V N) S).length : Int) := by
    have := more_len (L := rowsF V N) HNE.out (x := more)
    omega
  obtain ⟨FE, hFE⟩ : ∃ FE, allowedF (rowsF V N) (S ++ [more]) = FE := ⟨_, rfl⟩
  obtain ⟨AL, hAL⟩ : ∃ AL, allowedF (rowsF V N) S = AL := ⟨_, rfl⟩
  rw [hFE] at HSUB HF9 hle ⊢
  rw [hAL] at HSUB HA9 hle ⊢
  clear hFE hAL HF8
  obtain ⟨m, hm⟩ : ∃ m, FE.length = m := ⟨_, rfl⟩
  obtain ⟨m2, hm2⟩ : ∃ m2, AL.length = m2 := ⟨_, rfl⟩
  rw [hm] at HF9 hle ⊢
  rw [hm2] at HA9 hle ⊢
  have HML := Lib.hid hm
  clear hm hm2
  have hmm := Nat.le_trans (Sl.le HF9.out) (Sl.max HF9.out)
  unfold maxLen at hmm
  go_wp2_with (fail)
  go_loop [57] (fun i => ∃ k : Nat, k ≤ m ∧ i = .int .i64 k) (fun i => m - (intOf i).toNat)
  case atStart => exact ⟨0, Nat.zero_le _, rfl⟩
  case round =>
    obtain ⟨k, hk, rfl⟩ := hrel
    by_cases hlt : k < m
    · obtain ⟨b1, o1, hao, hc1⟩ := HF9.out.at_ hlt
      subst hao
      have gk : (k : Int) < (m : Int) := by omega
      have hin : decide (ix FE k ∈ AL) = true := by
        rw [decide_eq_true_iff]
        exact HSUB.out _ (List.mem_of_getElem? (ix_eq (by have := HML.out; omega)))
      obtain ⟨y, hy⟩ : ∃ y, ix FE k = y := ⟨_, rfl⟩
      rw [hy] at hin hc1
      have hcall := has_calls y w9 HA9.out
      rw [hin] at hcall
      clear hy hin
      go_wp2_with (fail)
      refine hcall.mono ?_
      rintro e w' ⟨rfl, rfl⟩
      clear hcall
      go_wp2_with (fail)
      go_round
      case rel => exact ⟨k + 1, by omega, by go_num⟩
      case measure => simp [intOf]; omega
    · obtain rfl : k = m := by omega
      go_wp2_with (fail)
      refine (vlongest_calls w9 (HI.out.below HB9.out) HM.out HT9.out).mono ?_
      rintro e wa ⟨rfl, hba⟩
      have HBA := Lib.hid (HB9.out.trans (hba.mono HB9.out.size))
      have HSA := Lib.hid (HS9.out.below hba)
      obtain ⟨a, ha⟩ : ∃ a, longTo (P.map FP.fr) S (min S.length 64) = a := ⟨_, rfl⟩
      rw [ha]
      have Ha := Lib.hid ha
      clear hba ha
      go_wp2_with (fail)
      refine (vlongest_calls wa (HI.out.below HBA.out) HM.out HSA.out).mono ?_
      rintro e wb ⟨rfl, hbb⟩
      have HBB := Lib.hid (HBA.out.trans (hbb.mono HBA.out.size))
      obtain ⟨b, hb⟩ : ∃ b, longTo (P.map FP.fr) (S ++ [more]) (min (S ++ [more]).length 64) = b := ⟨_, rfl⟩
      rw [hb]
      have hmo := more_long HI.out.perm (x := more) Ha.out.symm hb.symm
      have HMO := Lib.hid hmo
      obtain ⟨c0, c1, c2, c3, c4, c5, cf⟩ := box6 ((HBB.out.block w1.heap.size HK3.out).trans HX3.out)
      clear hbb hb hmo cf
      go_wp2_with (fail)
      refine (rsym_c a wb (HCR3.out.below HBB.out)).mono ?_
      rintro e wc ⟨⟨vs, rfl, hos⟩, hbc⟩
      obtain ⟨s1, s2, rfl, _⟩ := hos.sl
      have HBC := Lib.hid (HBB.out.trans (hbc.mono HBB.out.size))
      obtain ⟨d0, d1, d2, d3, d4, d5, df⟩ := box6 ((HBC.out.block w1.heap.size HK3.out).trans HX3.out)
      clear hbc hos df c0 c1 c2 c3 c4 c5
      go_wp2_with (fail)
      refine (rsym_c b wc (HCR3.out.below HBC.out)).mono ?_
      rintro e wd ⟨⟨vt, rfl, hot⟩, hbd⟩
      obtain ⟨t1, t2, rfl, _⟩ := hot.sl
      have HBD := Lib.hid (HBC.out.trans (hbd.mono HBC.out.size))
      clear hbd hot d0 d1 d2 d3 d4 d5
      have hmo := HMO.out
      obtain ⟨la, hla⟩ : ∃ la, (symsOf V N a).1.length = la := ⟨_, rfl⟩
      obtain ⟨lb, hlb⟩ : ∃ lb, (symsOf V N b).1.length = lb := ⟨_, rfl⟩
      rw [hla, hlb] at hmo
      rw [hla, hlb]
      have HMO2 := Lib.hid hmo
      have HFX := Lib.hid (fixway wd (HB23.out.trans (HBD.out.mono HB23.out.size)))
      clear hla hlb hmo fixway
      by_cases han : a < 0
      · go_wp2_with (fail)
        refine HFX.out.mono ?_
        rintro e we ⟨rfl, hbe⟩
        have HBE := Lib.hid hbe
        clear hbe
        go_wp2_with (fail)
        go_ret
        exact ⟨rfl, HBE.out⟩
      · have h1 : 0 ≤ b := by rcases HMO2.out with h | h <;> omega
        have h2 : (la : Int) ≤ (lb : Int) := by rcases HMO2.out with h | h <;> omega
        go_wp2_with (fail)
        refine HFX.out.mono ?_
        rintro e we ⟨rfl, hbe⟩
        have HBE := Lib.hid hbe
        clear hbe
        go_wp2_with (fail)
        go_ret
        exact ⟨rfl, HBE.out⟩

end Go.Proofs.YtnadelmbkaoeeaaGreatDoor

/- Two facts of the program, for every law's lift. -/
namespace Go.Proofs.YtnadelmbkaoeeaaGreatDoor
theorem own : ownKnob Tryz.prog.godebug = none := by kernel_rfl
theorem laidOut : laidOutB Tryz.prog = true := by kernel_rfl
end Go.Proofs.YtnadelmbkaoeeaaGreatDoor

/- The walks of the index's laws. -/
namespace Go.Proofs.YtnadelmbkaoeeaaGreatDoor
end Go.Proofs.YtnadelmbkaoeeaaGreatDoor
