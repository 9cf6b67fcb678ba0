/- Walk: encode.Coder.Encode. -/
import Derived.Test.YtimkkkdabmhedaaGreatDoorB25
namespace Go.Proofs.YtimkkkdabmhedaaGreatDoor
open Go.RowKit Go.ChangeMaps
set_option linter.unusedVariables false

def lfR (n : Nat) : List Int := (List.range n).map (fun (i : Nat) => (i : Int) - 1)
def rtR (n : Nat) : List Int := (List.range n).map (fun (i : Nat) => (i : Int) + 1)
theorem lfR_len (n : Nat) : (lfR n).length = n := by simp [lfR]
theorem rtR_len (n : Nat) : (rtR n).length = n := by simp [rtR]
theorem lfR_take {n k : Nat} (h : k < n) : (lfR n).take k ++ [(k : Int) - 1] = (lfR n).take (k + 1) := by
  rw [← take_snoc (by rw [lfR_len]; exact h)]
  congr 2
  simp [ix, lfR, List.getD, h]
theorem rtR_take {n k : Nat} (h : k < n) : (rtR n).take k ++ [(k : Int) + 1] = (rtR n).take (k + 1) := by
  rw [← take_snoc (by rw [rtR_len]; exact h)]
  congr 2
  simp [ix, rtR, List.getD, h]

theorem rowOf_take {V : Vc} {B : List Int} {k yn : Nat} (h : B[k]? = some (yn : Int)) : (rowOf V B).take k ++ [ofT V.tokens (one yn)] = (rowOf V B).take (k + 1) := by
  have hk := (List.getElem?_eq_some_iff.1 h).1
  rw [← take_snoc (by rw [rowOf_len]; exact hk)]
  congr 2
  have h2 := (List.getElem?_eq_some_iff.1 h).2
  simp [ix, rowOf, List.getD, hk, h2]

set_option maxHeartbeats 4000000 in
set_option maxRecDepth 100000 in
theorem encode_some {V : Vc} {eb eg : Nat} {B : List Int} {ao : Option Addr} {n c : Nat} (w : World) (hE : ECod w eb eg V) (hM : May V) (hS : SlB w ao n c B) (hby : ∀ y ∈ B, 0 ≤ y ∧ y < 256) (hn0 : 0 < n) (hn : n ≤ 100000) :
    Calls Tryz.prog 91 #[.pointer (some ⟨eg, 0, none⟩), .slice ao n c] w fun e w' => ∃ v, e = .returned v ∧ Own w' w.heap.size v (encF V B) ∧ Below w.heap.size w w' := by
  obtain ⟨lo, cs, to_, tcc, pg, hx, hcs, hto, hpt⟩ := hE
  have hBn := hS.len
  have hel : eg < w.heap.size := (Array.getElem?_eq_some_iff.1 hx).1
  have c1 : w.cell? ⟨eg, 1, none⟩ = some (.pointer (some ⟨pg, 0, none⟩)) := by simp [World.cell?, hx, hcs.2.2.1]
  have G1 := fun w' (hg : Ge w w') => hg.at w w' c1
  have gr := Ge.refl w
  have HN : Hid (∀ W, Ge w W → Calls Tryz.prog 121 #[] W fun e w' => ∃ g mb, e = .returned (.pointer (some ⟨g, 0, none⟩)) ∧ Ge w w' ∧ AgV w' w.heap.size g mb (.slice none 0 0) []) := Lib.hid (fun W hW => (aNew_calls W).mono (by
    rintro e w' ⟨g, mb, rfl, h1, h2, _⟩
    exact ⟨g, mb, rfl, hW.below h2, h1.mono hW.size⟩))
  have HCS := Lib.hid hcs
  have HX := Lib.hid hx
  have HS := Lib.hid hS
  have HPT := Lib.hid hpt
  have HBN := Lib.hid hBn
  have HBY := Lib.hid hby
  have HM := Lib.hid hM
  have gn0 : ¬ (n : Int) = 0 := by omega
  have gn1 : ((n : Int) == 0) = false := by simpa using gn0
  have HEL := Lib.hid hel
  clear hx hcs hto hpt hS hBn hby hM hel
  go_enter Tryz.func91, Tryz.ntmps91
  go_wp2_with (fail)
  refine viaP ?keyP ?keyF ?keyH
  case keyF =>
    intro key
    go_region_held3 (Ge w) (first | (with_reducible assumption) | (with_reducible refine Ge.drew ?_; with_reducible assumption) | (with_reducible refine Ge.alloc ?_ _; with_reducible assumption) | (with_reducible refine Ge.alloc (Ge.drew ?_) _; with_reducible assumption) | (with_reducible refine Ge.drew (Ge.alloc ?_ _); with_reducible assumption) | (with_reducible refine Ge.set4 ?_ (Nat.le_refl _) _ _ _ _ _ _ _ _; with_reducible assumption) | (with_reducible refine Ge.set4 (Ge.drew ?_) (Nat.le_refl _) _ _ _ _ _ _ _ _; with_reducible assumption) | (with_reducible refine Ge.drew (Ge.set4 ?_ (Nat.le_refl _) _ _ _ _ _ _ _ _); with_reducible assumption) | (with_reducible refine Ge.drewN ?_ _; with_reducible assumption)) ((go_at_call 121; refine (HN.out _ (by exact below_drewN (Below.refl _ _) _)).mono ?_; rintro e w1 ⟨g, mb, rfl, hg1, ha1⟩; have HA1 := Lib.hid ha1; clear ha1))
    all_goals (revert w1 g mb; exact key.out)
  intro w1 g mb hg1 HA1 hW
  obtain ⟨W1, hW1⟩ : ∃ W1, w1.alloc (.cells #[.slice none 0 0, .slice none 0 0, .slice none 0 0, .func (.func 120) #[.pointer (some ⟨pg, 0, none⟩)] #[], .pointer (some ⟨g, 0, none⟩)] 183) = W1 := ⟨_, rfl⟩
  have hbx := heap_alloc_new w1 (.cells #[.slice none 0 0, .slice none 0 0, .slice none 0 0, .func (.func 120) #[.pointer (some ⟨pg, 0, none⟩)] #[], .pointer (some ⟨g, 0, none⟩)] 183)
  have hA2 := HA1.out.below (below_alloc w1 (.cells #[.slice none 0 0, .slice none 0 0, .slice none 0 0, .func (.func 120) #[.pointer (some ⟨pg, 0, none⟩)] #[], .pointer (some ⟨g, 0, none⟩)] 183))
  rw [hW1] at hbx hA2 hW ⊢
  obtain ⟨kb, hkb⟩ : ∃ kb, w1.heap.size = kb := ⟨_, rfl⟩
  have hgl : g < w1.heap.size := (Array.getElem?_eq_some_iff.1 HA1.out.pile.box).1
  have hml : mb < w1.heap.size := HA1.out.pile.at_.lt
  have hs1 : w.heap.size ≤ w1.heap.size := hg1.size
  rw [hkb] at hbx hgl hml hs1 ⊢
  have HBL : Hid (Bld W1 w.heap.size kb g mb pg (V3 (.slice none 0 0) (.slice none 0 0) (.slice none 0 0)) (V3 ([] : List Int) [] [])) := Lib.hid ⟨hbx, fun j hj => by
    rcases (by omega : j = 0 ∨ j = 1 ∨ j = 2) with rfl | rfl | rfl <;> exact Own.nil _ _, hA2, ⟨hs1, hW.size⟩, fun j hj q hq => by
    rcases (by omega : j = 0 ∨ j = 1 ∨ j = 2) with rfl | rfl | rfl <;> simp [Value.ownBlock, V3] at hq, ⟨by omega, by omega⟩⟩
  have HW1 := Lib.hid hW
  clear hW1 hbx hA2 hW hkb hgl hml hs1 hg1 HA1 G1 gr c1
  go_wp2_with (fail)
  go_loopw [30] (fun i wr => ∃ (k : Nat) (v1 v2 v3 : Value), k ≤ n ∧ i = .int .i64 k ∧ Hid (Bld wr w.heap.size kb g mb pg (V3 v1 v2 v3) (V3 ((rowOf V B).take k) ((lfR n).take k) ((rtR n).take k))) ∧ Hid (Below w.heap.size w wr)) (fun i _ => n - (intOf i).toNat)
  case atStart => exact ⟨0, _, _, _, Nat.zero_le _, rfl, HBL, Lib.hid HW1.out⟩
  case round =>
    obtain ⟨k, v1, v2, v3, hk, rfl, HB, HBW⟩ := hrel
    by_cases hlt : k < n
    · obtain ⟨yn, hyn, hy⟩ : ∃ yn : Nat, B[k]? = some (yn : Int) ∧ yn < 256 := by
        have hkB : k < B.length := by have := HBN.out; omega
        have h1 := HBY.out _ (List.getElem_mem hkB)
        exact ⟨B[k].toNat, by rw [List.getElem?_eq_getElem hkB]; congr 1; omega, by omega⟩
      obtain ⟨bb, bo, hao, hcb⟩ := Sl.at_ (Sl.below HS.out HBW.out) k (.int .u8 yn) (by rw [List.getElem?_map, hyn]; rfl)
      subst hao
      have hxr := (HBW.out.block eg HEL.out).trans HX.out
      have c1 : wr.cell? ⟨eg, 2 + yn, none⟩ = some (.int .i64 (ofT V.tokens (one yn))) := by
        have := HCS.out.2.2.2 yn hy
        simp [World.cell?, hxr, this]
      have HAT := Lib.hid (rowOf_take (V := V) hyn)
      have hl1 : ((rowOf V B).take k).length = k := by rw [List.length_take, rowOf_len]; have := HBN.out; omega
      have hl2 : ((lfR n).take k).length = k := by rw [List.length_take, lfR_len]; omega
      have hl3 : ((rtR n).take k).length = k := by rw [List.length_take, rtR_len]; omega
      have HL1 := Lib.hid hl1
      have HL2 := Lib.hid hl2
      have HL3 := Lib.hid hl3
      obtain ⟨a, ha⟩ : ∃ a, ofT V.tokens (one yn) = a := ⟨_, rfl⟩
      rw [ha] at c1 HAT
      obtain ⟨b0, b1, b2, bf⟩ := HB.out.cells
      have HR1 : Hid (Own wr w.heap.size v1 ((rowOf V B).take k)) := Lib.hid (HB.out.row 0 (by omega))
      have hkc : (2 : Nat) + yn * 1 = 2 + yn := by omega
      have gy : (yn : Int) < 256 := by omega
      have gk : (k : Int) < (n : Int) := by omega
      have HLO := Lib.hid HB.out.lo.2
      have e0 := cell_below (below_alloc wr (.cells #[.int .i64 a] 3)) _ _ b0
      clear hyn hxr hl1 hl2 hl3 ha
      go_wp2_with (fail)
      refine viaP ?keyQ ?keyG ?keyI
      case keyG =>
        intro key
        go_region_law (refine step_int_lies (by rfl) _ _ (by rfl) (base := w.heap.size) (k := k) (y := a) (by rfl) (by exact World.ownsRow.alloc HR1.out _) HL1.out (by rfl) (by exact heap_alloc_new _ _) (by omega) (by simp; have := HLO.out; omega) ?_; intro gg cap w2 ho2 hg2 hat2; obtain ⟨k0, k1, k2, kf⟩ := HB.out.after (by exact belowA rfl rfl rfl rfl) 0 (by omega) hg2; have HST := Lib.hid (HB.out.step0 (by exact belowA rfl rfl rfl rfl) ho2 hg2 hat2 HAT.out); clear ho2 hg2 hat2)
        all_goals (clear k0 k1 k2 kf; revert w2 gg cap; exact key.out)
      intro gg cap w2 HST
      have hs := HST.out
      obtain ⟨W2, hW2⟩ : ∃ W2, w2.setCell ⟨kb, 0, none⟩ (.slice (some ⟨gg, 0, none⟩) (k + 1) cap) = W2 := ⟨_, rfl⟩
      rw [hW2] at hs
      have hs2 := hs.1
      have HB2 := Lib.hid hs2
      have HBW2 : Hid (Below w.heap.size w W2) := Lib.hid (HBW.out.trans hs.2)
      rw [hW2]
      clear hs hs2 HST hW2 b0 b1 b2 bf e0 c1 hcb HB HR1
      obtain ⟨b0, b1, b2, bf⟩ := HB2.out.cells
      have HR2 : Hid (Own W2 w.heap.size v2 ((lfR n).take k)) := Lib.hid (HB2.out.row 1 (by omega))
      have HLO2 := Lib.hid HB2.out.lo.2
      have qs : IntKind.i64.wrap ((k : Int) - 1) = (k : Int) - 1 := by rw [IntKind.wrap_i64]; omega
      have qp : IntKind.i64.wrap ((k : Int) + 1) = (k : Int) + 1 := by rw [IntKind.wrap_i64]; omega
      go_wp2_with (first
        | (at_builtin; refine wpList_int_lies rfl _ _ rfl (base := w.heap.size) (k := k) (y := (k : Int) - 1) rfl (by exact World.ownsRow.alloc HR2.out _) HL2.out rfl (by exact heap_alloc_new _ _) (by omega) (by simp; have := HLO2.out; omega) ?_; intro gg3 cap3 w3 ho3 hg3 hat3; obtain ⟨k0, k1, k2, kf⟩ := HB2.out.after (by exact belowA rfl rfl rfl rfl) 1 (by omega) hg3; have HST3 := Lib.hid (HB2.out.step1 (by exact belowA rfl rfl rfl rfl) ho3 hg3 hat3 (lfR_take hlt)); clear ho3 hg3 hat3)
        | (at_builtin; refine wpList_int_lies rfl _ _ rfl (base := w.heap.size) (k := k) (y := (k : Int) + 1) rfl (by exact World.ownsRow.alloc (HST3.out.1.row 2 (by omega)) _) HL3.out rfl (by exact alloc_at (by simp)) (by omega) (by have := HST3.out.1.lo.2; simp at this ⊢; omega) ?_; intro gg4 cap4 w4 ho4 hg4 hat4; obtain ⟨m0, m1, m2, mf⟩ := HST3.out.1.after (by exact belowA rfl rfl rfl rfl) 2 (by omega) hg4; have HST4 := Lib.hid (HST3.out.1.step2 (by exact belowA rfl rfl rfl rfl) ho4 hg4 hat4 (rtR_take hlt)); clear ho4 hg4 hat4))
      go_roundw
      case rel => exact ⟨k + 1, _, _, _, by omega, by go_num, Lib.hid HST4.out.1, Lib.hid ((HBW2.out.trans HST3.out.2).trans HST4.out.2)⟩
      case measure => simp [intOf]; omega
    · obtain rfl : k = n := by omega
      have hRl : (rowOf V B).length = k := by rw [rowOf_len]; exact HBN.out
      have hbl := HB.out
      rw [List.take_of_length_le (Nat.le_of_eq hRl), List.take_of_length_le (Nat.le_of_eq (lfR_len k)), List.take_of_length_le (Nat.le_of_eq (rtR_len k))] at hbl
      obtain ⟨rb, lb, tb, rc, lc, tc, rfl, hch⟩ := hbl.chain hn0 hRl (lfR_len k) (rtR_len k)
      obtain ⟨m, hm⟩ : ∃ m, k = m + 1 := ⟨k - 1, by omega⟩
      have qm : (k : Int) - 1 = (m : Int) := by omega
      have qw : IntKind.i64.wrap ((k : Int) - 1) = (m : Int) := by rw [IntKind.wrap_i64]; omega
      have gm : (m : Int) < (k : Int) := by omega
      have gm0 : (0 : Int) ≤ (m : Int) := by omega
      obtain ⟨b0, b1, b2, b3, b4⟩ := hch.cells
      obtain ⟨y0, hy0⟩ : ∃ y0, (rtR k)[m]? = some y0 := ⟨_, List.getElem?_eq_getElem (by rw [rtR_len]; omega)⟩
      have t0 := hch.right.cell hy0
      have tf := hch.right.frozen
      simp only at b0 b1 b2 b3 b4 t0 tf
      have HCH := Lib.hid hch
      have HRL := Lib.hid hRl
      have HMM := Lib.hid hm
      clear hbl hch hy0 hRl HBL HB hm
      go_wp2_with (fail)
      obtain ⟨W5, hW5⟩ : ∃ W5, wr.setCell ⟨tb, m, none⟩ (.int .i64 (-1)) = W5 := ⟨_, rfl⟩
      have HC5 : Hid (ChV W5 ⟨w.heap.size, k, kb, g, mb, rb, lb, tb, rc, lc, tc, pg⟩ (.slice none 0 0) (rowOf V B) (lfR k) ((rtR k).set m (-1)) []) := Lib.hid (hW5 ▸ HCH.out.setRight m (-1))
      have HB5 : Hid (Below w.heap.size w W5) := Lib.hid (hW5 ▸ Below.setCell HBW.out (by show w.heap.size ≤ tb; exact HCH.out.right.lt.1) _)
      have HLK : Hid (Lnk k (chOf (rowOf V B)) (rowOf V B) (lfR k) ((rtR k).set m (-1))) := Lib.hid (by
        have := lnk_start (R := rowOf V B) (by rw [HRL.out]; exact hn0) (lfR k) ((rtR k).set m (-1)) (by rw [HRL.out]; rfl) (by rw [HRL.out, show k - 1 = m by have := HMM.out; omega]; rfl)
        rw [HRL.out] at this
        exact this)
      have HWF : Hid (WfR (rowOf V B)) := Lib.hid (fun y hy => by
        obtain ⟨z, _, rfl⟩ := List.mem_map.1 hy
        exact ofT_wf HM.out.1.1 _)
      have HTB : Hid (Tb w ⟨w.heap.size, k, kb, g, mb, rb, lb, tb, rc, lc, tc, pg⟩ V.merges) := Lib.hid ⟨⟨eb, HPT.out⟩, HM.out.2.1.2.2.imp (fun h => h.2), HM.out.2.1.1, rfl⟩
      rw [hW5]
      clear hW5 b0 b1 b2 b3 b4 t0 tf
      go_wp2_with (fail)
      go_loopw [83] (fun i wr => ∃ (j : Nat) (va : Value) (L : List Ent), j ≤ k ∧ i = .int .i64 j ∧ Hid (ChV wr ⟨w.heap.size, k, kb, g, mb, rb, lb, tb, rc, lc, tc, pg⟩ va (rowOf V B) (lfR k) ((rtR k).set m (-1)) L) ∧ Hid (∀ x, agL L x = agK V.merges (chOf (rowOf V B)) j x) ∧ Hid (L.length ≤ j) ∧ Hid (Below w.heap.size w wr)) (fun i _ => k - (intOf i).toNat)
      case atStart => exact ⟨0, _, [], Nat.zero_le _, rfl, HC5, Lib.hid (fun x => (agK_zero _ _ x).symm), Lib.hid (Nat.le_refl _), HB5⟩
      case round =>
        obtain ⟨j, va, L, hj, rfl, HC, HA, HLL, HBJ⟩ := hrel
        by_cases hjk : j < k
        · have hat : (chOf (rowOf V B))[j]? = some (j, (rowOf V B)[j]'(by rw [HRL.out]; exact hjk)) := chOf_at (List.getElem?_eq_getElem _)
          have HLO := Lib.hid (look_calls (c := ⟨w.heap.size, k, kb, g, mb, rb, lb, tb, rc, lc, tc, pg⟩) (C := chOf (rowOf V B)) j j _ wr HTB.out HBJ.out HC.out (by simp only; omega) (by have := HLL.out; omega) HLK.out HWF.out hat)
          clear hat
          go_wp2_with (fail)
          go_at_call 122
          refine HLO.out.mono ?_
          rintro e w7 ⟨rfl, v7, L7, hC7, hg7, hl7, hT7⟩
          have HC7 := Lib.hid hC7
          have HA7 : Hid (∀ x, agL L7 x = agK V.merges (chOf (rowOf V B)) (j + 1) x) := Lib.hid (fun x => by rw [hg7, agK_succ, HA.out])
          have HL7 : Hid (L7.length ≤ j + 1) := Lib.hid (by have := HLL.out; omega)
          have HB7 : Hid (Below w.heap.size w w7) := Lib.hid (HBJ.out.trans (trod_below HC.out.ag hT7 HC.out.base))
          clear hC7 hg7 hl7 hT7 HLO
          go_wp2_with (fail)
          go_roundw
          case rel => exact ⟨j + 1, v7, L7, by omega, by go_num, HC7, HA7, HL7, HB7⟩
          case measure => simp [intOf]; omega
        · obtain rfl : j = k := by omega
          have HA5 : Hid (∀ x, agL L x = agI V.merges (chOf (rowOf V B)) x) := Lib.hid (fun x => by rw [HA.out, agK_all HLK.out.lt])
          obtain ⟨b0, b1, b2, b3, b4⟩ := HC.out.cells
          simp only at b0 b1 b2 b3 b4
          clear HA HC5 HB5 HBW HCH
          go_wp2_with (fail)
          go_at_call 123
          refine (aTake_any wr HC.out.ag).mono ?_
          rintro e w8 ⟨x, ok, v8, L8, rfl, hA8, hT8, hy8, hn8⟩
          have HA8 := Lib.hid hA8
          have HT8 := Lib.hid hT8
          have HY8 := Lib.hid hy8
          have HN8 := Lib.hid hn8
          clear hA8 hT8 hy8 hn8 b0 b1 b2 b3 b4
          go_wp2_with (fail)
          have HLP : Hid (Lp w (w8.alloc (.cells #[.int .i64 x.place, .int .i64 x.order, .int .i64 x.out] 186)) ⟨w.heap.size, j, kb, g, mb, rb, lb, tb, rc, lc, tc, pg⟩ V.merges (rowOf V B) w8.heap.size x ok v8 (rowOf V B) (lfR j) ((rtR j).set m (-1)) L8 (chOf (rowOf V B))) := Lib.hid (Lp.new HC.out HLK.out HWF.out (Way.start V.merges (by rw [HRL.out]; exact hn0)) HBJ.out HA5.out (by rw [chOf_len, HRL.out]; have := HLL.out; simp only; omega) HA8.out HT8.out HY8.out HN8.out)
          have HCL : Hid ((chOf (rowOf V B)).length = j) := Lib.hid (by rw [chOf_len, HRL.out])
          obtain ⟨W9, hW9⟩ : ∃ W9, w8.alloc (.cells #[.int .i64 x.place, .int .i64 x.order, .int .i64 x.out] 186) = W9 := ⟨_, rfl⟩
          obtain ⟨e9, he9⟩ : ∃ e9, w8.heap.size = e9 := ⟨_, rfl⟩
          rw [hW9, he9] at HLP
          rw [hW9, he9]
          clear hW9 he9 HC HLK HWF HBJ HA5 HLL HA8 HT8 HY8 HN8
          go_loopg [9, 10] j (fun (q : Nat) p b wr => ∃ (eb' : Nat) (x : Ent) (ok : Bool) (va : Value) (Rw Lf Rt : List Int) (L : List Ent) (C : Ch), q = C.length ∧ p = .pointer (some ⟨eb', 0, none⟩) ∧ b = .bool ok ∧ Hid (Lp w wr ⟨w.heap.size, j, kb, g, mb, rb, lb, tb, rc, lc, tc, pg⟩ V.merges (rowOf V B) eb' x ok va Rw Lf Rt L C))
          case atStart => exact ⟨e9, x, ok, v8, _, _, _, L8, _, HCL.out.symm, rfl, rfl, HLP⟩
          case round =>
            obtain ⟨eb', x, ok, va, Rw, Lf, Rt, L, C, rfl, rfl, rfl, HL⟩ := hrel
            cases ok with
            | true =>
              obtain ⟨hy1, hy2, hy3⟩ := HL.out.yes rfl
              obtain ⟨pl, od, d⟩ := x
              simp only at hy1 hy2 hy3
              obtain ⟨pre, post, pn, q, a, b, rfl, rfl, hway⟩ := best_step HL.out.way HL.out.ln.ok hy1 hy2
              have HD := Lib.hid (agI_wf HM.out.2.1 HM.out.1.1 hy1)
              have HY3 := Lib.hid hy3
              have HWY := Lib.hid hway
              obtain ⟨x0, x1, x2⟩ := box3e HL.out.box
              simp only at x0 x1 x2
              have hcnt := HL.out.cnt
              simp only [if_true] at hcnt
              have HCT := Lib.hid hcnt
              clear hy1 hy2 hy3 hway hcnt
              go_wp2_with (fail)
              go_at_call 124
              refine (merge_calls (c := ⟨w.heap.size, j, kb, g, mb, rb, lb, tb, rc, lc, tc, pg⟩) pn q a b od d wr HTB.out HL.out.bel HL.out.ch (by simp only; omega) (by have := HCT.out; omega) HL.out.ln HL.out.wf HD.out HY3.out).mono ?_
              rintro e w5 ⟨rfl, v5, Rw5, Lf5, Rt5, L5, hC5, hK5, hW5, hA5, hl5, hF5⟩
              have hne := HL.out.ne
              have hlt5 := (Array.getElem?_eq_some_iff.1 HL.out.box).1
              have hx5 : w5.heap[eb']? = some (.cells #[.int .i64 pn, .int .i64 od, .int .i64 d] 186) := (hF5.block eb' hlt5 hne.2.1 hne.2.2.1 hne.2.2.2.1 hne.2.2.2.2.1 hne.2.2.2.2.2.1 (fun e => hne.2.2.2.2.2.2.1 e)).trans HL.out.box
              have HC5 := Lib.hid hC5
              have HK5 := Lib.hid hK5
              have HW5 := Lib.hid hW5
              have HA5 := Lib.hid hA5
              have HL5 := Lib.hid hl5
              have HB5 : Hid (Below w.heap.size w w5) := Lib.hid (HL.out.bel.trans (hF5.base HL.out.ch))
              clear hC5 hK5 hW5 hA5 hl5 hF5 hne hlt5 x0 x1 x2
              obtain ⟨x0, x1, x2⟩ := box3e hx5
              have hb6 := below_alloc w5 (.cells #[.int .i64 pn, .int .i64 od, .int .i64 d] 186)
              have hC6 := HC5.out.below hb6
              obtain ⟨b0, b1, b2, b3, b4⟩ := hC6.cells
              simp only at b0 b1 b2 b3 b4
              have HTK := Lib.hid (aTake_any _ hC6.ag)
              have HC6 := Lib.hid hC6
              have hbx := heap_alloc_new w5 (.cells #[.int .i64 pn, .int .i64 od, .int .i64 d] 186)
              obtain ⟨W6, hW6⟩ : ∃ W6, w5.alloc (.cells #[.int .i64 pn, .int .i64 od, .int .i64 d] 186) = W6 := ⟨_, rfl⟩
              rw [hW6] at HTK HC6 hbx
              have HB6 : Hid (Below w.heap.size w W6) := Lib.hid (hW6 ▸ HB5.out.trans (hb6.mono HB5.out.size))
              have HS6 : Hid (W6.heap.size = w5.heap.size + 1) := Lib.hid (by rw [← hW6]; simp)
              have HBX := Lib.hid hbx
              have HW6 := Lib.hid hW6
              clear hx5 hb6 hC6 hW6 hbx
              go_wp2_with (fail)
              rw [HW6.out]
              go_at_call 123
              refine HTK.out.mono ?_
              rintro e w7 ⟨x7, ok7, v7, L7, rfl, hA7, hT7, hy7, hn7⟩
              have k1 := (Array.getElem?_eq_some_iff.1 HC5.out.box).1
              have k2 := (Array.getElem?_eq_some_iff.1 HC5.out.ag.pile.box).1
              have k3 := HC5.out.ag.pile.at_.lt
              have k4 := HC5.out.row.lt.2
              have k5 := HC5.out.left.lt.2
              have k6 := HC5.out.right.lt.2
              simp only at k1 k2 k3 k4 k5 k6
              have hv5 : v5.ownBlock ≠ some w5.heap.size := fun e => by have := (World.ownsRow.lt HC5.out.ag.pile.row _ e).2; omega
              have hb5 : w.heap.size ≤ w5.heap.size := HB5.out.size
              have hs6 : w5.heap.size < W6.heap.size := by have := HS6.out; omega
              have hx7 : w7.heap[w5.heap.size]? = some (.cells #[.int .i64 pn, .int .i64 od, .int .i64 d] 186) := (hT7.block w5.heap.size hs6 (by omega) (by omega) hv5).trans HBX.out
              have HNE : Hid (w5.heap.size ≠ kb ∧ w5.heap.size ≠ g ∧ w5.heap.size ≠ mb ∧ w5.heap.size ≠ rb ∧ w5.heap.size ≠ lb ∧ w5.heap.size ≠ tb ∧ v5.ownBlock ≠ some w5.heap.size ∧ w.heap.size ≤ w5.heap.size) := Lib.hid ⟨by omega, by omega, by omega, by omega, by omega, by omega, hv5, hb5⟩
              have HA7 := Lib.hid hA7
              have HT7 := Lib.hid hT7
              have HY7 := Lib.hid hy7
              have HN7 := Lib.hid hn7
              have HX7 := Lib.hid hx7
              have yf : ∀ o, w7.frozen? ⟨w5.heap.size, o, none⟩ = false := fun o => by simp [World.frozen?, hx7]
              have HS6b := Lib.hid hs6
              clear hA7 hT7 hy7 hn7 k1 k2 k3 k4 k5 k6 hv5 hb5 hs6 b0 b1 b2 b3 b4 x0 x1 x2
              obtain ⟨x0, x1, x2⟩ := box3e hx7
              clear hx7
              have HLP : Hid (Lp w (((w7.setCell ⟨w5.heap.size, 0, none⟩ (.int .i64 x7.place)).setCell ⟨w5.heap.size, 1, none⟩ (.int .i64 x7.order)).setCell ⟨w5.heap.size, 2, none⟩ (.int .i64 x7.out)) ⟨w.heap.size, j, kb, g, mb, rb, lb, tb, rc, lc, tc, pg⟩ V.merges (rowOf V B) w5.heap.size x7 ok7 v7 Rw5 Lf5 Rt5 L7 (pre ++ (pn, d) :: post)) := Lib.hid (Lp.stored HC6.out HK5.out HW5.out HWY.out HB6.out HA5.out (by have h1 := HL5.out; have h2 := HCT.out; simp at h2 ⊢; omega) HA7.out HT7.out HY7.out HN7.out HX7.out HS6b.out HNE.out)
              go_wp2_with (fail)
              go_roundg (pre ++ (pn, d) :: post).length
              case measure => simp
              case rel => exact ⟨w5.heap.size, x7, ok7, v7, Rw5, Lf5, Rt5, L7, pre ++ (pn, d) :: post, rfl, rfl, rfl, HLP⟩
            | false =>
              go_wp2_with (fail)
              have hno := HL.out.no rfl
              have HEND : Hid (C.map (·.2) = encF V B) := Lib.hid (by
                have h1 := HL.out.way.done (agI_none HL.out.ln.ok hno)
                rw [h1]
                unfold encF
                rw [rowOf_len])
              have HP0 : Hid (plC C 0 = 0) := Lib.hid (by obtain ⟨a, ha⟩ := HL.out.way.zero; rw [plC_at ha]; rfl)
              have HCN : Hid (C.length ≤ 1048576) := Lib.hid (by have := HL.out.cnt; simp at this; omega)
              clear hno
              obtain ⟨W4, hW4⟩ : ∃ W4, W4 = wr := ⟨_, rfl⟩
              subst hW4
              go_loopw [11, 12] (fun o i wq => ∃ (y : Nat), y ≤ C.length ∧ i = .int .i64 (plC C y) ∧ lenS o = y ∧ Hid (Own wq W4.heap.size o ((C.map (·.2)).take y)) ∧ Hid (Below W4.heap.size W4 wq)) (fun o _ _ => C.length - lenS o)
              case atStart => exact ⟨0, Nat.zero_le _, by rw [HP0.out], rfl, Lib.hid (Own.nil _ _), Lib.hid (Below.refl _ _)⟩
              case round =>
                obtain ⟨y, hy, rfl, hly, HO, HBQ⟩ := hrel
                by_cases hyc : y < C.length
                · obtain ⟨p, a, hat⟩ : ∃ (p : Nat) (a : Int), C[y]? = some (p, a) := ⟨_, _, List.getElem?_eq_getElem hyc⟩
                  rw [plC_at hat]
                  have hpn := HL.out.ln.lt _ (List.mem_of_getElem? hat)
                  have hC := HL.out.ch.below HBQ.out
                  obtain ⟨b0, b1, b2, b3, b4⟩ := hC.cells
                  have r0 := hC.row.cell (HL.out.ln.row _ _ _ hat)
                  simp only at b0 b1 b2 b3 b4 r0 hpn
                  have gp : (p : Int) < (j : Int) := by omega
                  have gp0 : (0 : Int) ≤ (p : Int) := by omega
                  have gpn : ¬ (p : Int) = -1 := by omega
                  have HTK : Hid ((C.map (·.2)).take y ++ [a] = (C.map (·.2)).take (y + 1)) := Lib.hid (by
                    rw [← take_snoc (by rw [List.length_map]; exact hyc)]
                    congr 2
                    simp [ix, List.getD, hat])
                  have HLN : Hid (((C.map (·.2)).take y).length = y) := Lib.hid (by rw [List.length_take, List.length_map]; omega)
                  have HAT := Lib.hid hat
                  have HRT := Lib.hid (HL.out.ln.right _ _ _ hat)
                  clear hat hC hpn
                  go_wp2_with (at_builtin; refine wpList_int_lies rfl _ _ rfl (base := W4.heap.size) (k := y) (y := a) rfl (by exact World.ownsRow.alloc HO.out _) HLN.out rfl (by exact alloc_at (by simp)) (by have := HCN.out; omega) (by have := HBQ.out.size; simp; omega) ?_; intro gg cap w2 ho2 hg2 hat2; have hb2 : Below W4.heap.size W4 w2 := Below.grown (HBQ.out.trans (Below.mono (by exact belowA rfl rfl rfl rfl) HBQ.out.size)) hg2 (by have := HBQ.out.size; simp; omega) (fun q hq => (World.ownsRow.lt HO.out q hq).1); obtain ⟨d0, d1, d2, d3, d4⟩ := (HL.out.ch.below hb2).cells; have t0 := (HL.out.ch.below hb2).right.cell HRT.out; rw [nxt_pl] at t0; simp only at d0 d1 d2 d3 d4 t0; have HO2 := Lib.hid ho2; have HB2 := Lib.hid hb2; clear ho2 hg2 hat2 hb2)
                  go_roundw
                  case rel => exact ⟨y + 1, by omega, rfl, rfl, Lib.hid (by rw [← HTK.out]; exact HO2.out), HB2⟩
                  case measure => rw [hly]; show C.length - (y + 1) < C.length - y; omega
                · obtain rfl : y = C.length := by omega
                  have hpe : plC C C.length = -1 := plC_end (Nat.le_refl _)
                  rw [hpe]
                  clear hpe
                  go_wp2_with (fail)
                  go_ret
                  refine ⟨_, rfl, ?_, HL.out.bel.trans (HBQ.out.mono HL.out.bel.size)⟩
                  have h1 := HO.out.mono HL.out.bel.size
                  rw [List.take_of_length_le (by simp), HEND.out] at h1
                  exact h1

end Go.Proofs.YtimkkkdabmhedaaGreatDoor
