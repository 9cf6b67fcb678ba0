/- Walk: the document's base: tokens of rows, specials by rising names. (Printed by gBase9.py.) -/
import Derived.Test.YtnadelmbkaoeeaaGreatDoorK4
import Derived.Test.YtnadelmbkaoeeaaGreatDoorK3
import Derived.Test.YtnadelmbkaoeeaaGreatDoorK1
namespace Go.Proofs.YtnadelmbkaoeeaaGreatDoor
open Go.RowKit
set_option linter.unusedVariables false

def SortedS (S : List Sp) : Prop := S.Pairwise (fun a b => sless b.name a.name = false)
theorem insS_sorted {S : List Sp} {s : Sp} {k : Nat} (h1 : ∀ j, j < k → sless s.name (sp S j).name = false) (hk : k ≤ S.length) (h2 : k = S.length ∨ sless s.name (sp S k).name = true) (hs : SortedS S) : SortedS (S.take k ++ s :: S.drop k) := by
  refine ins_sorted (lt := fun a b : Sp => sless a.name b.name) (fun a b c => sless_ntrans) hs (fun j x hj hx => ?_) (fun x hx => ?_)
  · rw [sp_eq (by omega)] at hx
    simp only [Option.some.injEq] at hx
    subst hx
    exact h1 j hj
  · rcases h2 with rfl | h2
    · rw [List.getElem?_eq_none (Nat.le_refl _)] at hx; cases hx
    · have hlt := (List.getElem?_eq_some_iff.1 hx).1
      rw [sp_eq hlt] at hx
      simp only [Option.some.injEq] at hx
      subst hx
      exact sless_asym _ _ h2

def BasePost (R : List Rw) (S : List Sp) (w : World) (e : Ending) (w' : World) : Prop :=
  ((OkRows R S ∧ ∃ (gt n : Nat) (sa : Option Addr) (sn sc : Nat) (S' : List Sp) (b : Bool), e = .returned (.tuple #[.agg #[.slice (some ⟨gt, 0, none⟩) n n, .slice none 0 0, .slice sa sn sc], .bool b]) ∧ OwnT w' w.heap.size (.slice (some ⟨gt, 0, none⟩) n n) (toksOf R S) ∧ OwnF Sp.enc 2 82 w' w.heap.size (.slice sa sn sc) S' ∧ S'.Perm S ∧ SortedS S' ∧ (b = true ↔ MayTok (toksOf R S))) ∨ (¬ OkRows R S ∧ e = .returned (.tuple #[noVd.val, .bool false]))) ∧ Below w.heap.size w w'
theorem OwnT.set {w : World} {base g n : Nat} {L : List ByteArray} (h : OwnT w base (.slice (some ⟨g, 0, none⟩) n n) L) (hl : L.length = n) (i : Nat) (s : ByteArray) : OwnT (w.setCell ⟨g, i, none⟩ (.string s)) base (.slice (some ⟨g, 0, none⟩) n n) (L.set i s) := by
  have c1 : w.ownsRow base 9 1 (.slice (some ⟨g, 0, none⟩) n n) L.length (L.map .string) := h
  rw [hl] at c1
  show World.ownsRow _ base 9 1 _ (L.set i s).length ((L.set i s).map .string)
  rw [List.length_set, hl, List.map_set]
  exact (World.ownsRow.stored c1 i (.string s)).1
theorem OwnT.at_ {w : World} {base g n : Nat} {L : List ByteArray} (h : OwnT w base (.slice (some ⟨g, 0, none⟩) n n) L) (hl : L.length = n) {i : Nat} (hi : i < n) : w.cell? ⟨g, i, none⟩ = some (.string (tk L i)) ∧ w.frozen? ⟨g, i, none⟩ = false ∧ base ≤ g ∧ g < w.heap.size := by
  have c1 : w.ownsRow base 9 1 (.slice (some ⟨g, 0, none⟩) n n) L.length (L.map .string) := h
  have a1 := World.ownsRow.lt c1 g rfl
  rw [hl] at c1
  exact ⟨by rw [World.ownsRow.cellAt c1 i (by omega), List.getElem?_map, tk_eq (by omega)]; rfl, World.ownsRow.frozenAt c1 i, a1.1, a1.2⟩
theorem ownT_slc {w : World} {base : Nat} {v : Value} {T : List ByteArray} (h : OwnT w base v T) : ∃ ao cap, v = .slice ao T.length cap ∧ SlS w ao T.length cap T := Sl.of_own h
theorem LaidR.free {R : List Rw} {k n : Nat} {L : List ByteArray} {A : List Int} (h : LaidR R k n L A) {r : Nat} (hr : r < n) (hno : ∀ j, j < k → (rw' R j).rank ≠ (r : Int)) : ix A r = 0 := by
  rcases h.hit r hr with ⟨h1, _⟩ | ⟨_, j, hj, hje⟩
  · exact h1
  · exact absurd hje (hno j hj)
theorem sless_tri {a b : ByteArray} (h1 : sless a b = false) (h2 : a ≠ b) : sless b a = true := by
  cases h : sless b a with
  | true => rfl
  | false =>
    exfalso
    apply h2
    apply bytes_of
    unfold sless at h1 h
    rw [bytesLess_lt] at h1 h
    simp at h1 h
    exact List.le_antisymm h h1
theorem heap_set3' (w : World) (g : Nat) (x y z : Value) {q : Nat} (h : q ≠ g) : (((w.setCell ⟨g, 0, none⟩ x).setCell ⟨g, 1, none⟩ y).setCell ⟨g, 2, none⟩ z).heap[q]? = w.heap[q]? := heap_set3 w g x y z h

theorem take_sp {S : List Sp} {k : Nat} (h : k < S.length) : S.take k ++ [sp S k] = S.take (k + 1) := by
  rw [List.take_add_one, sp_eq h]; rfl

set_option maxHeartbeats 1500000 in
set_option maxRecDepth 100000 in
theorem base_calls {R : List Rw} {S : List Sp} {ro so : Option Addr} {rn rc sn sc : Nat} (w : World) (hR : SlF 2 w ro rn rc (flat Rw.enc R)) (hS : SlF 2 w so sn sc (flat Sp.enc S))
    (hrs : ∀ r ∈ R, r.token.size ≤ maxLen) (hss : Sized S) (hsn : sn ≤ 20) :
    Calls Tryz.prog 83 #[.slice ro rn rc, .slice so sn sc] w (BasePost R S w) := by
  have hm := Nat.le_trans hR.le hR.max
  have hmm := Nat.le_trans hS.le hS.max
  unfold maxLen at hm hmm
  have hlenR := Lib.hid (hR.count Rw.enc_len (by omega))
  have hlenS := Lib.hid (hS.count Sp.enc_len (by omega))
  obtain ⟨i9, hi9, hz9, hs9, hb9⟩ := info_parts infoStr9
  obtain ⟨i1, z1, ki, kz0, kz1, kz2, kz3⟩ := info_row infoSp
  obtain ⟨w0, hw0⟩ : ∃ w0, w.alloc (.cells #[.slice none 0 0, .slice none 0 0, .slice none 0 0] 26) = w0 := ⟨_, rfl⟩
  have hb0 : Below w.heap.size w w0 := hw0 ▸ below_alloc w _
  have hx0 : w0.heap[w.heap.size]? = some (.cells #[.slice none 0 0, .slice none 0 0, .slice none 0 0] 26) := by rw [← hw0]; exact heap_alloc_new w _
  have hs0 : w.heap.size < w0.heap.size := by rw [← hw0]; simp
  have HR := Lib.hid (hR.below hb0)
  have HSS := Lib.hid (hS.below hb0)
  have HB0 := Lib.hid hb0
  have HX0 := Lib.hid hx0
  have HW0 := Lib.hid hw0
  have HSZ : Hid (∀ s ∈ toksOf R S, s.size ≤ maxLen) := Lib.hid (toks_sized hrs)
  have HSS2 := Lib.hid hss
  clear hR hS hb0 hx0 hw0 hrs hss
  go_enter Tryz.func83, Tryz.ntmps83
  go_wp2_with (fail)
  rw [HW0.out]
  go_loopw [6, 18] (fun m i wr => ∃ (k t : Nat), k ≤ sn ∧ i = .int .i64 k ∧ m = .int .i64 t ∧ t ≤ 4096 ∧ Hid (topS S k = (t : Int)) ∧ Hid (OkS S k) ∧ Below w0.heap.size w0 wr) (fun _ i _ => sn - (intOf i).toNat)
  case atStart => exact ⟨0, 0, Nat.zero_le _, rfl, rfl, by omega, Lib.hid rfl, Lib.hid (fun j hj => by omega), Below.refl _ _⟩
  case round =>
    obtain ⟨k, t, hk, rfl, rfl, ht, HT, HO, hb⟩ := hrel
    have HB := Lib.hid hb
    have hsr := hb.size
    obtain ⟨c0, c1, c2⟩ := box3v ((hb.block w.heap.size hs0).trans HX0.out)
    have f0 := boxf ((hb.block w.heap.size hs0).trans HX0.out)
    clear hb
    by_cases hlt : k < sn
    · have hkS : k < S.length := by have := hlenS.out; omega
      obtain ⟨b, of, rfl, hce⟩ := (HSS.out.below HB.out).elem Sp.enc_len (by omega) (sp_eq hkS)
      obtain ⟨⟨nm, id⟩, hseq⟩ : ∃ m, sp S k = m := ⟨_, rfl⟩
      rw [hseq] at hce
      have d0 := hce 0 _ rfl
      have d1 := hce 1 _ rfl
      rw [Nat.add_zero] at d0
      simp only at d0 d1
      have HSK := Lib.hid hseq
      clear hce hseq
      by_cases h0 : id < 0
      · have hg : decide (id < 0) = true := by simpa using h0
        have HF := Lib.hid (notOk_s (R := R) hkS (by rw [HSK.out]; simp only; omega))
        go_wp2_with (fail)
        refine bodyPost_ret (v := .tuple #[noVd.val, .bool false]) ?_ rfl ⟨.inr ⟨HF.out, rfl⟩, ?_⟩
        · simp [results, Tryz.results83, go_sem, c0, c1, c2, noVd]
        · exact (((HB0.out.trans (HB.out.mono HB0.out.size)).setCell (Nat.le_refl _) _).setCell (Nat.le_refl _) _).setCell (Nat.le_refl _) _
      have hg0 : decide (id < 0) = false := by simpa using h0
      by_cases h1 : 4096 ≤ id
      · have hg : decide (4096 ≤ id) = true := by simpa using h1
        have HF := Lib.hid (notOk_s (R := R) hkS (by rw [HSK.out]; simp only; omega))
        go_wp2_with (fail)
        refine bodyPost_ret (v := .tuple #[noVd.val, .bool false]) ?_ rfl ⟨.inr ⟨HF.out, rfl⟩, ?_⟩
        · simp [results, Tryz.results83, go_sem, c0, c1, c2, noVd]
        · exact (((HB0.out.trans (HB.out.mono HB0.out.size)).setCell (Nat.le_refl _) _).setCell (Nat.le_refl _) _).setCell (Nat.le_refl _) _
      have hg1 : decide (4096 ≤ id) = false := by simpa using h1
      have hw1 : IntKind.i64.wrap (id + 1) = id + 1 := by rw [IntKind.wrap_i64]; omega
      have HO2 : Hid (OkS S (k + 1)) := Lib.hid (fun j hj => by
        by_cases e : j = k
        · subst e; rw [HSK.out]; simp only; omega
        · exact HO.out j (by omega))
      have HTn : Hid (topS S (k + 1) = max (t : Int) (id + 1)) := Lib.hid (by rw [topS_succ hkS, HT.out, HSK.out])
      go_wp2_with (fail)
      go_roundw
      case rel => exact ⟨k + 1, (max (t : Int) (id + 1)).toNat, by omega, by go_num, by rw [Int.toNat_of_nonneg (by omega)], by omega, Lib.hid (by rw [HTn.out, Int.toNat_of_nonneg (by omega)]), HO2, HB.out⟩
      case measure => simp [intOf]; omega
    · have HSA : Hid (OkS S S.length) := Lib.hid (by rw [hlenS.out, show sn = k by omega]; exact HO.out)
      have HTA : Hid (topR R S 0 = (t : Int)) := Lib.hid (by rw [topR_zero, hlenS.out, show sn = k by omega]; exact HT.out)
      clear c0 c1 c2 f0
      obtain ⟨wo, rfl⟩ : ∃ wo : World, wo = wr := ⟨_, rfl⟩
      go_wp2_with (fail)
      go_loopw [6, 47] (fun m i wr => ∃ (k t : Nat), k ≤ rn ∧ i = .int .i64 k ∧ m = .int .i64 t ∧ t ≤ 4096 ∧ Hid (topR R S k = (t : Int)) ∧ Hid (OkR R k) ∧ Below w0.heap.size w0 wr) (fun _ i _ => rn - (intOf i).toNat)
      case atStart => exact ⟨0, t, Nat.zero_le _, rfl, rfl, ht, HTA, Lib.hid (fun j hj => by omega), HB.out⟩
      case round =>
        obtain ⟨k2, t2, hk2, rfl, rfl, ht2, HT2, HO2, hb2⟩ := hrel
        have HB2 := Lib.hid hb2
        have hsr2 := hb2.size
        obtain ⟨c0, c1, c2⟩ := box3v ((hb2.block w.heap.size hs0).trans HX0.out)
        have f0 := boxf ((hb2.block w.heap.size hs0).trans HX0.out)
        clear hb2
        by_cases hlt2 : k2 < rn
        · have hkR : k2 < R.length := by have := hlenR.out; omega
          obtain ⟨b, of, rfl, hce⟩ := (HR.out.below HB2.out).elem Rw.enc_len (by omega) (rw_eq hkR)
          obtain ⟨⟨tn, id⟩, hseq⟩ : ∃ m, rw' R k2 = m := ⟨_, rfl⟩
          rw [hseq] at hce
          have d0 := hce 0 _ rfl
          have d1 := hce 1 _ rfl
          rw [Nat.add_zero] at d0
          simp only at d0 d1
          have HSK := Lib.hid hseq
          clear hce hseq
          by_cases h0 : id < 0
          · have hg : decide (id < 0) = true := by simpa using h0
            have HF := Lib.hid (notOk_r (S := S) hkR (by rw [HSK.out]; simp only; omega))
            go_wp2_with (fail)
            refine bodyPost_ret (v := .tuple #[noVd.val, .bool false]) ?_ rfl ⟨.inr ⟨HF.out, rfl⟩, ?_⟩
            · simp [results, Tryz.results83, go_sem, c0, c1, c2, noVd]
            · exact (((HB0.out.trans (HB2.out.mono HB0.out.size)).setCell (Nat.le_refl _) _).setCell (Nat.le_refl _) _).setCell (Nat.le_refl _) _
          have hg0 : decide (id < 0) = false := by simpa using h0
          by_cases h1 : 4096 ≤ id
          · have hg : decide (4096 ≤ id) = true := by simpa using h1
            have HF := Lib.hid (notOk_r (S := S) hkR (by rw [HSK.out]; simp only; omega))
            go_wp2_with (fail)
            refine bodyPost_ret (v := .tuple #[noVd.val, .bool false]) ?_ rfl ⟨.inr ⟨HF.out, rfl⟩, ?_⟩
            · simp [results, Tryz.results83, go_sem, c0, c1, c2, noVd]
            · exact (((HB0.out.trans (HB2.out.mono HB0.out.size)).setCell (Nat.le_refl _) _).setCell (Nat.le_refl _) _).setCell (Nat.le_refl _) _
          have hg1 : decide (4096 ≤ id) = false := by simpa using h1
          have hw1 : IntKind.i64.wrap (id + 1) = id + 1 := by rw [IntKind.wrap_i64]; omega
          have HO3 : Hid (OkR R (k2 + 1)) := Lib.hid (fun j hj => by
            by_cases e : j = k2
            · subst e; rw [HSK.out]; simp only; omega
            · exact HO2.out j (by omega))
          have HTn : Hid (topR R S (k2 + 1) = max (t2 : Int) (id + 1)) := Lib.hid (by rw [topR_succ hkR, HT2.out, HSK.out])
          go_wp2_with (fail)
          go_roundw
          case rel => exact ⟨k2 + 1, (max (t2 : Int) (id + 1)).toNat, by omega, by go_num, by rw [Int.toNat_of_nonneg (by omega)], by omega, Lib.hid (by rw [HTn.out, Int.toNat_of_nonneg (by omega)]), HO3, HB2.out⟩
          case measure => simp [intOf]; omega
        · have HRA : Hid (OkR R R.length) := Lib.hid (by rw [hlenR.out, show rn = k2 by omega]; exact HO2.out)
          have HTB : Hid ((t2 : Int) = top R S) := Lib.hid (by rw [← topR_all, hlenR.out, show rn = k2 by omega]; exact HT2.out.symm)
          have HLT : Hid (∀ j, j < R.length → (rw' R j).rank < (t2 : Int)) := Lib.hid (fun j hj => by rw [HTB.out, ← topR_all]; exact topR_lt (Nat.le_refl _) hj)
          have mk9 := fun w' => run_makeN (P := Tryz.prog) 22 9 i9 _ Tryz.underlying22 hi9 hz9 hs9 t2 (by rw [hb9]; omega) (by omega) w'
          obtain ⟨wo2, rfl⟩ : ∃ wo2 : World, wo2 = wr := ⟨_, rfl⟩
          obtain ⟨wm, hwm⟩ : ∃ wm, wo2.alloc (.cells (madeCells #[Value.string ByteArray.empty] t2) 9) = wm := ⟨_, rfl⟩
          have hom : OwnT wm wo2.heap.size (.slice (some ⟨wo2.heap.size, 0, none⟩) t2 t2) (List.replicate t2 ByteArray.empty) := hwm ▸ ownT_made wo2 t2 (by unfold maxLen; omega)
          have HBM : Hid (Below w0.heap.size w0 wm) := Lib.hid (by rw [← hwm]; exact HB2.out.alloc HB2.out.size _)
          have HOM := Lib.hid (OwnT.mono hom HB2.out.size)
          have HWM := Lib.hid hwm
          obtain ⟨g1, hg1⟩ : ∃ g1, wo2.heap.size = g1 := ⟨_, rfl⟩
          rw [hg1] at HOM
          have HG1 := Lib.hid hg1
          clear hom hwm c0 c1 c2 f0 hg1
          go_wp2_with (fail)
          rw [HWM.out, HG1.out]
          go_loopw [78] (fun i wr => ∃ (k : Nat) (L : List ByteArray) (A : List Int), k ≤ rn ∧ i = .int .i64 k ∧ OwnT wr w0.heap.size (.slice (some ⟨g1, 0, none⟩) t2 t2) L ∧ Hid (LaidR R k t2 L A) ∧ Hid (ApR R k) ∧ Below w0.heap.size w0 wr) (fun i _ => rn - (intOf i).toNat)
          case atStart => exact ⟨0, _, _, Nat.zero_le _, rfl, HOM.out, Lib.hid (LaidR.zero R t2), Lib.hid (fun i j _ h => by omega), HBM.out⟩
          case round =>
            obtain ⟨k3, L, A, hk3, rfl, ho3, HL, HAP, hb3⟩ := hrel
            have HO3' := Lib.hid ho3
            have HB3 := Lib.hid hb3
            obtain ⟨c0, c1, c2⟩ := box3v ((hb3.block w.heap.size hs0).trans HX0.out)
            have f0 := boxf ((hb3.block w.heap.size hs0).trans HX0.out)
            clear ho3 hb3
            by_cases hlt3 : k3 < rn
            · have hkR : k3 < R.length := by have := hlenR.out; omega
              obtain ⟨b, of, rfl, hce⟩ := (HR.out.below HB3.out).elem Rw.enc_len (by omega) (rw_eq hkR)
              have hrk := HRA.out k3 hkR
              have hrt := HLT.out k3 hkR
              obtain ⟨⟨tn, id⟩, hseq⟩ : ∃ m, rw' R k3 = m := ⟨_, rfl⟩
              rw [hseq] at hce hrk hrt
              have d0 := hce 0 _ rfl
              have d1 := hce 1 _ rfl
              rw [Nat.add_zero] at d0
              simp only at d0 d1 hrk hrt
              obtain ⟨r, rfl⟩ := Int.eq_ofNat_of_zero_le hrk.1
              have hrn : r < t2 := by omega
              have HSK := Lib.hid hseq
              clear hce hseq hrk hrt
              obtain ⟨wi, rfl⟩ : ∃ wi : World, wi = wr := ⟨_, rfl⟩
              go_wp2_with (fail)
              go_loopw [11] (fun i wr => ∃ q nn : Nat, q ≤ k3 ∧ i = .int .i64 q ∧ Hid (∀ j, j < q → (rw' R j).rank ≠ (r : Int)) ∧ wr = wi.drewN nn) (fun i _ => k3 - (intOf i).toNat)
              case atStart => exact ⟨0, 0, Nat.zero_le _, rfl, Lib.hid (fun j h => by omega), rfl⟩
              case round =>
                obtain ⟨q, nn, hq, rfl, HNO, rfl⟩ := hrel
                by_cases hltq : q < k3
                · obtain ⟨b', of', hao, hce⟩ := (HR.out.below HB3.out).elem Rw.enc_len (by omega) (rw_eq (R := R) (i := q) (by omega))
                  simp only [Option.some.injEq, Addr.mk.injEq, and_true] at hao
                  obtain ⟨rfl, rfl⟩ := hao
                  obtain ⟨⟨tq, iq⟩, hseq⟩ : ∃ m, rw' R q = m := ⟨_, rfl⟩
                  rw [hseq] at hce
                  have p1 := hce 1 _ rfl
                  simp only at p1
                  have HSQ := Lib.hid hseq
                  have gq : (q : Int) < (rn : Int) := by omega
                  have gk : (k3 : Int) < (rn : Int) := by omega
                  clear hce hseq
                  by_cases he : iq = (r : Int)
                  · have hbe : (iq == (r : Int)) = true := by simpa using he
                    have HF := Lib.hid (notOk_a (S := S) hltq hkR (by rw [HSQ.out, HSK.out]; exact he))
                    clear he
                    go_wp2_with (fail)
                    go_quiet (fail)
                    go_wp2_with (fail)
                    refine bodyPost_ret (v := .tuple #[noVd.val, .bool false]) ?_ rfl ⟨.inr ⟨HF.out, rfl⟩, ?_⟩
                    · simp [results, Tryz.results83, go_sem, c0, c1, c2, noVd]
                    · exact (((HB0.out.trans ((below_drewN HB3.out _).mono HB0.out.size)).setCell (Nat.le_refl _) _).setCell (Nat.le_refl _) _).setCell (Nat.le_refl _) _
                  · have hbe : (iq == (r : Int)) = false := by simpa using he
                    have HNO2 : Hid (∀ j, j < q + 1 → (rw' R j).rank ≠ (r : Int)) := Lib.hid (fun j hj => by
                      by_cases e : j = q
                      · subst e; rw [HSQ.out]; exact he
                      · exact HNO.out j (by omega))
                    clear he
                    go_wp2_with (fail)
                    go_quiet (fail)
                    go_wp2_with (fail)
                    go_roundw
                    case rel => exact ⟨q + 1, _, by omega, by go_num, HNO2, rfl⟩
                    case measure => simp [intOf]; omega
                · obtain rfl : q = k3 := by omega
                  have HX := Lib.hid (HL.out.free hrn HNO.out)
                  have HLn := Lib.hid (HL.out.next hkR (r := r) (by rw [HSK.out]) hrn HX.out)
                  have HAn := Lib.hid (HL.out.apart (r := r) (by rw [HSK.out]) hrn HX.out HAP.out)
                  rw [HSK.out] at HLn
                  obtain ⟨q1, q2, q3, q4⟩ := HO3'.out.at_ HL.out.len hrn
                  have gk : (q : Int) < (rn : Int) := by omega
                  have gr : (r : Int) < (t2 : Int) := by omega
                  have HOD : Hid (OwnT (wi.drewN nn) w0.heap.size (.slice (some ⟨g1, 0, none⟩) t2 t2) L) := Lib.hid (OwnT.below HO3'.out (below_drewN (Below.refl _ _) nn))
                  obtain ⟨wd, hwd⟩ : ∃ wd, wi.drewN nn = wd := ⟨_, rfl⟩
                  have e0 : wd.cell? ⟨b, of + q * 2, none⟩ = some (.string tn) := by rw [← hwd]; exact d0
                  have e1 : wd.cell? ⟨b, of + q * 2 + 1, none⟩ = some (.int .i64 (r : Int)) := by rw [← hwd]; exact d1
                  have s1 : wd.cell? ⟨g1, r, none⟩ = some (.string (tk L r)) := by rw [← hwd]; exact q1
                  have s2 : wd.frozen? ⟨g1, r, none⟩ = false := by rw [← hwd]; exact q2
                  have HBD : Hid (Below w0.heap.size w0 wd) := Lib.hid (by rw [← hwd]; exact below_drewN HB3.out _)
                  rw [hwd] at HOD ⊢
                  clear hwd d0 d1 q1 q2 c0 c1 c2 f0
                  go_wp2_with (fail)
                  go_region
                  all_goals (go_wp2_with (fail)
                             go_roundw
                             case rel => exact ⟨q + 1, _, _, by omega, by go_num, OwnT.below (OwnT.set HOD.out HL.out.len r tn) (Below.refl _ _).drew, HLn, HAn, (HBD.out.setCell q3 _).drew⟩
                             case measure => simp [intOf]; omega)
            · have HFA := Lib.hid (HL.out.all hlenR.out hk3 hlt3 HTB.out)
              have HOKR : Hid (OkRows R S) := Lib.hid (OkRows.of HSA.out HRA.out (by rw [hlenR.out, show rn = k3 by omega]; exact HAP.out))
              rw [HFA.out] at HO3'
              clear c0 c1 c2 f0
              obtain ⟨wl, rfl⟩ : ∃ wl : World, wl = wr := ⟨_, rfl⟩
              have HOut : Hid (OwnF Sp.enc 2 82 (wl.alloc (.cells #[] 82)) w0.heap.size (.slice (some ⟨wl.heap.size, 0, none⟩) 0 0) []) := Lib.hid ((OwnF.made0 wl).mono HB3.out.size)
              go_wp2_with (fail)
              go_loopw [12, 114] (fun v i wr => ∃ (k : Nat) (S' : List Sp), k ≤ sn ∧ i = .int .i64 k ∧ OwnF Sp.enc 2 82 wr w0.heap.size v S' ∧ Hid (S'.Perm (S.take k)) ∧ Hid (SortedS S') ∧ Below wl.heap.size wl wr) (fun _ i _ => sn - (intOf i).toNat)
              case atStart => exact ⟨0, [], Nat.zero_le _, rfl, HOut.out, Lib.hid (by simp), Lib.hid List.Pairwise.nil, below_alloc _ _⟩
              case round =>
                obtain ⟨k5, S', hk5, rfl, ho5, HP, HSD, hb5⟩ := hrel
                have HB5 := Lib.hid hb5
                have HSL' : Hid (S'.length = k5) := Lib.hid (by rw [HP.out.length_eq, List.length_take, hlenS.out]; omega)
                obtain ⟨vo, vc, rfl, hvs⟩ := ho5.sl
                rw [HSL'.out] at hvs
                have HVS := Lib.hid hvs
                have HO5 := Lib.hid ho5
                rw [HSL'.out] at HO5 ⊢
                clear hb5 hvs ho5
                by_cases hlt5 : k5 < sn
                · have hkS : k5 < S.length := by have := hlenS.out; omega
                  obtain ⟨b, of, rfl, hce⟩ := ((HSS.out.below HB3.out).below HB5.out).elem Sp.enc_len (by omega) (sp_eq hkS)
                  obtain ⟨⟨nm, id⟩, hseq⟩ : ∃ m, sp S k5 = m := ⟨_, rfl⟩
                  rw [hseq] at hce
                  have d0 := hce 0 _ rfl
                  have d1 := hce 1 _ rfl
                  rw [Nat.add_zero] at d0
                  simp only at d0 d1
                  have HSK := Lib.hid hseq
                  have gk : (k5 : Int) < (sn : Int) := by omega
                  clear hce hseq
                  obtain ⟨wi, rfl⟩ : ∃ wi : World, wi = wr := ⟨_, rfl⟩
                  go_wp2_with (fail)
                  go_loopw [14] (fun i wr => ∃ q nn : Nat, q ≤ k5 ∧ i = .int .i64 q ∧ Hid (∀ j, j < q → sless nm (sp S' j).name = false) ∧ wr = wi.drewN nn) (fun i _ => k5 - (intOf i).toNat)
                  case atStart => exact ⟨0, 0, Nat.zero_le _, rfl, Lib.hid (fun j h => by omega), rfl⟩
                  case round =>
                    obtain ⟨q, nn, hq, rfl, HQ, rfl⟩ := hrel
                    by_cases hltq : q < k5
                    · obtain ⟨b', of', rfl, hce⟩ := HVS.out.elem Sp.enc_len (by omega) (sp_eq (S := S') (i := q) (by rw [HSL'.out]; exact hltq))
                      obtain ⟨⟨pn, pid⟩, hseq⟩ : ∃ m, sp S' q = m := ⟨_, rfl⟩
                      rw [hseq] at hce
                      have p0 := hce 0 _ rfl
                      rw [Nat.add_zero] at p0
                      simp only at p0
                      have HSQ := Lib.hid hseq
                      have gq : decide ((q : Int) < (k5 : Int)) = true := by simp; omega
                      have gq2 : decide (q < k5) = true := by simpa using hltq
                      clear hce hseq
                      cases hbl : Op.bytesLess pn.toList nm.toList with
                      | true =>
                        have HQ2 : Hid (∀ j, j < q + 1 → sless nm (sp S' j).name = false) := Lib.hid (fun j hj => by
                          by_cases e : j = q
                          · subst e; rw [HSQ.out]; exact sless_asym _ _ hbl
                          · exact HQ.out j (by omega))
                        go_wp2_with (fail)
                        go_quiet (fail)
                        go_wp2_with (fail)
                        go_roundw
                        case rel => exact ⟨q + 1, _, by omega, by go_num, HQ2, rfl⟩
                        case measure => simp [intOf]; omega
                      | false =>
                        by_cases heq : pn = nm
                        · have hb2 := beqS_yes heq
                          have HQ2 : Hid (∀ j, j < q + 1 → sless nm (sp S' j).name = false) := Lib.hid (fun j hj => by
                            by_cases e : j = q
                            · subst e; rw [HSQ.out]; simp only; rw [heq]; exact sless_irrefl _
                            · exact HQ.out j (by omega))
                          clear heq
                          go_wp2_with (fail)
                          go_quiet (fail)
                          go_wp2_with (fail)
                          go_roundw
                          case rel => exact ⟨q + 1, _, by omega, by go_num, HQ2, rfl⟩
                          case measure => simp [intOf]; omega
                        have hb2 := beqS_no heq
                        have HST : Hid (q = S'.length ∨ sless nm (sp S' q).name = true) := Lib.hid (.inr (by rw [HSQ.out]; exact sless_tri hbl heq))
                        clear heq
                        go_wp2_with (fail)
                        go_quiet (fail)
                        clear hbl gq gq2 p0 hb2
                        obtain ⟨wq, hwq⟩ : ∃ wq, (wi.drewN nn).drewN nq = wq := ⟨_, rfl⟩
                        have HSO := Lib.hid (insS_sorted (S := S') (s := ⟨nm, id⟩) (k := q) HQ.out (by have := HSL'.out; omega) HST.out HSD.out)
                        have HLTk : Hid ((S'.take q).length = q) := Lib.hid (by rw [List.length_take, HSL'.out]; omega)
                        have HBQ : Hid (Below wl.heap.size wl wq) := Lib.hid (by rw [← hwq]; exact below_drewN (below_drewN HB5.out _) _)
                        have hqi : Below wi.heap.size wi wq := by rw [← hwq]; exact below_drewN (below_drewN (Below.refl _ _) _) _
                        have HMa : Hid (SlF 2 (wq.alloc (.cells #[] 82)) (some ⟨b', of', none⟩) k5 vc (flat Sp.enc S')) := Lib.hid ((HVS.out.below hqi).alloc _)
                        have HMq : Hid (SlF 2 wq (some ⟨b', of', none⟩) k5 vc (flat Sp.enc S')) := Lib.hid (HVS.out.below hqi)
                        have HOa : Hid (OwnF Sp.enc 2 82 (wq.alloc (.cells #[] 82)) wq.heap.size (.slice (some ⟨wq.heap.size, 0, none⟩) 0 0) []) := Lib.hid (OwnF.made0 wq)
                        have e0 := cell_below hqi _ _ d0
                        have e1 := cell_below hqi _ _ d1
                        rw [hwq]
                        clear hwq hqi d0 d1
                        go_wp2_with (first
                          | (refine wpList_flat_high (enc := Sp.enc) rfl _ _ _ rfl i1 Tryz.underlying24 ki Sp.enc_len rfl HMa.out rfl (k := q) rfl (by omega) ?_; intro hs1)
                          | (at_builtin; go_loud (refine wpList_flat_app rfl _ _ 24 rfl i1 z1 24 Tryz.underlying24 ki kz0 kz1 kz2 kz3 Sp.enc_len (by omega) Sp.enc_one rfl HOa.out rfl hs1 (by unfold maxLen; simp only [List.length_nil]; omega) (by simp only [List.length_nil]; omega) (by simp) ?_)))
                        intro v1 wb ho1 hg1' hb1
                        have hb1' := (below_alloc wq (.cells #[] 82)).trans hb1
                        have HB1' := Lib.hid hb1'
                        have f0 := cell_below hb1' _ _ e0
                        have f1 := cell_below hb1' _ _ e1
                        have HOb : Hid (OwnF Sp.enc 2 82 (wb.alloc (.cells #[.string nm, .int .i64 id] 82)) wq.heap.size v1 (S'.take q)) := Lib.hid (ho1.alloc _)
                        have HSb : Hid (SlF 2 (wb.alloc (.cells #[.string nm, .int .i64 id] 82)) (some ⟨wb.heap.size, 0, none⟩) 1 1 (flat Sp.enc [⟨nm, id⟩])) := Lib.hid (SlF.one Sp.enc_len wb ⟨nm, id⟩ 82 (cs := #[.string nm, .int .i64 id]) rfl)
                        have HSZ' : Hid (wq.heap.size ≤ wb.heap.size) := Lib.hid hb1'.size
                        clear ho1 hg1' hb1 hb1' e0 e1
                        go_wp2_with (at_builtin; go_loud (refine wpList_flat_app rfl _ _ 24 rfl i1 z1 24 Tryz.underlying24 ki kz0 kz1 kz2 kz3 Sp.enc_len (by omega) Sp.enc_one rfl HOb.out rfl HSb.out (by have := HLTk.out; unfold maxLen; omega) (by have := HLTk.out; omega) (by have := HSZ'.out; simp; omega) ?_))
                        intro v2 wc ho2 hg2 hb2
                        have hb2' := (HB1'.out.alloc HB1'.out.size _).trans hb2
                        have HB2' := Lib.hid hb2'
                        have HMc : Hid (SlF 2 wc (some ⟨b', of', none⟩) k5 vc (flat Sp.enc S')) := Lib.hid (HMq.out.below hb2')
                        have HOc := Lib.hid ho2
                        have HSZ2 : Hid (wq.heap.size ≤ wc.heap.size) := Lib.hid hb2'.size
                        clear ho2 hg2 hb2 hb2' f0 f1
                        go_wp2_with (first
                          | (refine wpList_flat_low (enc := Sp.enc) rfl _ _ _ rfl i1 Tryz.underlying24 ki kz1 Sp.enc_len rfl HMc.out rfl (k := q) rfl (by omega) ?_; intro ao' hs3 hao3)
                          | (at_builtin; go_loud (refine wpList_flat_app rfl _ _ 24 rfl i1 z1 24 Tryz.underlying24 ki kz0 kz1 kz2 kz3 Sp.enc_len (by omega) Sp.enc_one rfl HOc.out rfl hs3 (by have := HLTk.out; unfold maxLen; rw [List.length_append]; simp only [List.length_singleton]; omega) (by have := HLTk.out; rw [List.length_append]; simp only [List.length_singleton]; omega) HSZ2.out ?_)))
                        intro v3 wd ho3 hg3 hb3
                        have HO9 := Lib.hid (ho3.mono (Nat.le_trans (Nat.le_trans HB3.out.size HBQ.out.size) (Nat.le_refl _)))
                        have HB9 := Lib.hid (HBQ.out.trans ((HB2'.out.trans hb3).mono HBQ.out.size))
                        have HP9 : Hid ((S'.take q ++ ⟨nm, id⟩ :: S'.drop q).Perm (S.take (k5 + 1))) := Lib.hid (by
                          rw [← take_sp hkS, HSK.out]
                          exact (ins_perm S' _ q).trans (HP.out.append_right _))
                        clear ho3 hg3 hb3
                        go_wp2_with (fail)
                        go_roundw
                        case rel => exact ⟨k5 + 1, _, by omega, by go_num, HO9.out, HP9, HSO, HB9.out⟩
                        case measure => simp [intOf]; omega
                    · obtain rfl : q = k5 := by omega
                      have HST : Hid (q = S'.length ∨ sless nm (sp S' q).name = true) := Lib.hid (.inl HSL'.out.symm)
                      have gq : decide ((q : Int) < (q : Int)) = false := by simp
                      have gq2 : decide (q < q) = false := by simp
                      go_wp2_with (fail)
                      go_quiet (fail)
                      clear gq gq2
                      obtain ⟨wq, hwq⟩ : ∃ wq, (wi.drewN nn).drewN nq = wq := ⟨_, rfl⟩
                      have HSO := Lib.hid (insS_sorted (S := S') (s := ⟨nm, id⟩) (k := q) HQ.out (by have := HSL'.out; omega) HST.out HSD.out)
                      have HLTk : Hid ((S'.take q).length = q) := Lib.hid (by rw [List.length_take, HSL'.out]; omega)
                      have HBQ : Hid (Below wl.heap.size wl wq) := Lib.hid (by rw [← hwq]; exact below_drewN (below_drewN HB5.out _) _)
                      have hqi : Below wi.heap.size wi wq := by rw [← hwq]; exact below_drewN (below_drewN (Below.refl _ _) _) _
                      have HMa : Hid (SlF 2 (wq.alloc (.cells #[] 82)) vo q vc (flat Sp.enc S')) := Lib.hid ((HVS.out.below hqi).alloc _)
                      have HMq : Hid (SlF 2 wq vo q vc (flat Sp.enc S')) := Lib.hid (HVS.out.below hqi)
                      have HOa : Hid (OwnF Sp.enc 2 82 (wq.alloc (.cells #[] 82)) wq.heap.size (.slice (some ⟨wq.heap.size, 0, none⟩) 0 0) []) := Lib.hid (OwnF.made0 wq)
                      have e0 := cell_below hqi _ _ d0
                      have e1 := cell_below hqi _ _ d1
                      rw [hwq]
                      clear hwq hqi d0 d1
                      go_wp2_with (first
                        | (refine wpList_flat_high (enc := Sp.enc) rfl _ _ _ rfl i1 Tryz.underlying24 ki Sp.enc_len rfl HMa.out rfl (k := q) rfl (by omega) ?_; intro hs1)
                        | (at_builtin; go_loud (refine wpList_flat_app rfl _ _ 24 rfl i1 z1 24 Tryz.underlying24 ki kz0 kz1 kz2 kz3 Sp.enc_len (by omega) Sp.enc_one rfl HOa.out rfl hs1 (by unfold maxLen; simp only [List.length_nil]; omega) (by simp only [List.length_nil]; omega) (by simp) ?_)))
                      intro v1 wb ho1 hg1' hb1
                      have hb1' := (below_alloc wq (.cells #[] 82)).trans hb1
                      have HB1' := Lib.hid hb1'
                      have f0 := cell_below hb1' _ _ e0
                      have f1 := cell_below hb1' _ _ e1
                      have HOb : Hid (OwnF Sp.enc 2 82 (wb.alloc (.cells #[.string nm, .int .i64 id] 82)) wq.heap.size v1 (S'.take q)) := Lib.hid (ho1.alloc _)
                      have HSb : Hid (SlF 2 (wb.alloc (.cells #[.string nm, .int .i64 id] 82)) (some ⟨wb.heap.size, 0, none⟩) 1 1 (flat Sp.enc [⟨nm, id⟩])) := Lib.hid (SlF.one Sp.enc_len wb ⟨nm, id⟩ 82 (cs := #[.string nm, .int .i64 id]) rfl)
                      have HSZ' : Hid (wq.heap.size ≤ wb.heap.size) := Lib.hid hb1'.size
                      clear ho1 hg1' hb1 hb1' e0 e1
                      go_wp2_with (at_builtin; go_loud (refine wpList_flat_app rfl _ _ 24 rfl i1 z1 24 Tryz.underlying24 ki kz0 kz1 kz2 kz3 Sp.enc_len (by omega) Sp.enc_one rfl HOb.out rfl HSb.out (by have := HLTk.out; unfold maxLen; omega) (by have := HLTk.out; omega) (by have := HSZ'.out; simp; omega) ?_))
                      intro v2 wc ho2 hg2 hb2
                      have hb2' := (HB1'.out.alloc HB1'.out.size _).trans hb2
                      have HB2' := Lib.hid hb2'
                      have HMc : Hid (SlF 2 wc vo q vc (flat Sp.enc S')) := Lib.hid (HMq.out.below hb2')
                      have HOc := Lib.hid ho2
                      have HSZ2 : Hid (wq.heap.size ≤ wc.heap.size) := Lib.hid hb2'.size
                      clear ho2 hg2 hb2 hb2' f0 f1
                      go_wp2_with (first
                        | (refine wpList_flat_low (enc := Sp.enc) rfl _ _ _ rfl i1 Tryz.underlying24 ki kz1 Sp.enc_len rfl HMc.out rfl (k := q) rfl (by omega) ?_; intro ao' hs3 hao3)
                        | (at_builtin; go_loud (refine wpList_flat_app rfl _ _ 24 rfl i1 z1 24 Tryz.underlying24 ki kz0 kz1 kz2 kz3 Sp.enc_len (by omega) Sp.enc_one rfl HOc.out rfl hs3 (by have := HLTk.out; unfold maxLen; rw [List.length_append]; simp only [List.length_singleton]; omega) (by have := HLTk.out; rw [List.length_append]; simp only [List.length_singleton]; omega) HSZ2.out ?_)))
                      intro v3 wd ho3 hg3 hb3
                      have HO9 := Lib.hid (ho3.mono (Nat.le_trans (Nat.le_trans HB3.out.size HBQ.out.size) (Nat.le_refl _)))
                      have HB9 := Lib.hid (HBQ.out.trans ((HB2'.out.trans hb3).mono HBQ.out.size))
                      have HP9 : Hid ((S'.take q ++ ⟨nm, id⟩ :: S'.drop q).Perm (S.take (q + 1))) := Lib.hid (by
                        rw [← take_sp hkS, HSK.out]
                        exact (ins_perm S' _ q).trans (HP.out.append_right _))
                      clear ho3 hg3 hb3
                      go_wp2_with (fail)
                      go_roundw
                      case rel => exact ⟨q + 1, _, by omega, by go_num, HO9.out, HP9, HSO, HB9.out⟩
                      case measure => simp [intOf]; omega
                · obtain rfl : k5 = sn := by omega
                  have HPS : Hid (S'.Perm S) := Lib.hid (by have h := HP.out; rw [List.take_of_length_le (by rw [hlenS.out]; exact Nat.le_refl _)] at h; exact h)
                  have HOT := Lib.hid (OwnT.below HO3'.out HB5.out)
                  obtain ⟨ao9, cap9, e9, hst⟩ := ownT_slc HOT.out
                  simp only [Value.slice.injEq] at e9
                  obtain ⟨rfl, htl, rfl⟩ := e9
                  rw [← htl] at hst
                  have hmt := rmayTokens_calls wr hst HSZ.out
                  have HBR := Lib.hid (HB3.out.trans (HB5.out.mono HB3.out.size))
                  clear hst htl
                  go_wp2_with (fail)
                  refine hmt.mono ?_
                  rintro e w9 ⟨⟨bt, rfl, hbt⟩, hb9⟩
                  have HB9 := Lib.hid (HBR.out.trans (hb9.mono HBR.out.size))
                  have HOT9 := Lib.hid (OwnT.below HOT.out hb9)
                  have HOS9 := Lib.hid (OwnF.below HO5.out hb9)
                  have HBT := Lib.hid hbt
                  have hx9 := (HB9.out.block w.heap.size hs0).trans HX0.out
                  obtain ⟨c0, c1, c2⟩ := box3v hx9
                  have f0 := boxf hx9
                  clear hmt hb9 hbt hx9
                  go_wp2_with (fail)
                  refine bodyPost_ret (v := .tuple #[.agg #[.slice (some ⟨g1, 0, none⟩) t2 t2, .slice none 0 0, .slice vo k5 vc], .bool bt]) ?_ rfl ⟨.inl ⟨HOKR.out, g1, t2, vo, k5, vc, S', bt, rfl, ?_, ?_, HPS.out, HSD.out, HBT.out⟩, ?_⟩
                  · simp [results, Tryz.results83, go_sem, c0, c1, c2]
                  · exact OwnT.mono (own_stay HOT9.out fun q h => heap_set3' _ _ _ _ _ (by have := (World.ownsRow.lt HOT9.out q h).1; omega)) HB0.out.size
                  · exact OwnF.mono (own_stay HOS9.out fun q h => heap_set3' _ _ _ _ _ (by have := (World.ownsRow.lt HOS9.out q h).1; omega)) HB0.out.size
                  · exact (((HB0.out.trans (HB9.out.mono HB0.out.size)).setCell (Nat.le_refl _) _).setCell (Nat.le_refl _) _).setCell (Nat.le_refl _) _

end Go.Proofs.YtnadelmbkaoeeaaGreatDoor

/- Walk: the document's FromRows. (Printed by gRFrom.py.) -/
namespace Go.Proofs.YtnadelmbkaoeeaaGreatDoor
open Go.RowKit
set_option linter.unusedVariables false

theorem rof_q {T : List ByteArray} {ao : Option Addr} {n c : Nat} (s : ByteArray) {w : World} (hT : SlS w ao n c T) (k : Nat) :
    Calls Tryz.prog 84 #[.slice ao n c, .string s] (w.drewN k) fun e w' => e = .returned (.int .i64 (ofT T s)) ∧ w' = w.drewN k :=
  (rof_calls s (w.drewN k) (hT.stay fun _ _ h => h)).mono fun e w' ⟨h1, h2⟩ => ⟨h1, h2.symm⟩

/-- All blocks of w but g stand in w'. -/
structure KeepG (g : Nat) (w w' : World) : Prop where
  size : w.heap.size ≤ w'.heap.size
  block : ∀ q, q < w.heap.size → q ≠ g → w'.heap[q]? = w.heap[q]?
theorem KeepG.refl (g : Nat) (w : World) : KeepG g w w := ⟨Nat.le_refl _, fun _ _ _ => rfl⟩
theorem KeepG.below {g : Nat} {w w' w'' : World} (h : KeepG g w w') (hb : Below w'.heap.size w' w'') : KeepG g w w'' :=
  ⟨Nat.le_trans h.size hb.size, fun q h1 h2 => (hb.block q (Nat.lt_of_lt_of_le h1 h.size)).trans (h.block q h1 h2)⟩
theorem KeepG.set {g : Nat} {w w' : World} (h : KeepG g w w') (i : Nat) (v : Value) : KeepG g w (w'.setCell ⟨g, i, none⟩ v) :=
  ⟨by simpa using h.size, fun q h1 h2 => (Below.heap_setCell _ _ _ _ h2).trans (h.block q h1 h2)⟩
theorem OwnT.keepG {g : Nat} {w w' : World} {base : Nat} {v : Value} {L : List ByteArray} (h : OwnT w base v L) (hk : KeepG g w w') (hg : ∀ q, v.ownBlock = some q → q ≠ g) : OwnT w' base v L :=
  own_stay h fun q hq => hk.block q (World.ownsRow.lt h q hq).2 (hg q hq)
theorem OwnF.keepG {α : Type} {enc : α → List Value} {s : Nat} {t : TypeId} {g : Nat} {w w' : World} {base : Nat} {v : Value} {L : List α} (h : OwnF enc s t w base v L) (hk : KeepG g w w') (hg : ∀ q, v.ownBlock = some q → q ≠ g) : OwnF enc s t w' base v L :=
  own_stay h fun q hq => hk.block q (World.ownsRow.lt h q hq).2 (hg q hq)
theorem set_cell1 {w : World} {g : Nat} {x y z v : Value} {t : TypeId} (h : w.heap[g]? = some (.cells #[x, y, z] t)) : (w.setCell ⟨g, 1, none⟩ v).heap[g]? = some (.cells #[x, v, z] t) := by
  simp [World.setCell, Array.getElem?_modify, h]

def RFromPost (R : List Rw) (S : List Sp) (w : World) (e : Ending) (w' : World) : Prop :=
  ((GoodVoc R S ∧ ∃ d : Vd, e = .returned (.tuple #[d.val, .bool true]) ∧ VocR w' d (vocOf R S)) ∨ (¬ GoodVoc R S ∧ e = .returned (.tuple #[noVd.val, .bool false]))) ∧ Below w.heap.size w w'

set_option maxHeartbeats 1500000 in
set_option maxRecDepth 100000 in
theorem rfromRows_calls {R : List Rw} {S : List Sp} {ro so : Option Addr} {rn rc sn sc : Nat} (w : World) (hR : SlF 2 w ro rn rc (flat Rw.enc R)) (hS : SlF 2 w so sn sc (flat Sp.enc S))
    (hrs : ∀ r ∈ R, r.token.size ≤ maxLen) (hss : Sized S) (hsn : sn ≤ 20) :
    Calls Tryz.prog 54 #[.slice ro rn rc, .slice so sn sc] w (RFromPost R S w) := by
  obtain ⟨w0, hw0⟩ : ∃ w0, w.alloc (.cells #[.slice none 0 0, .slice none 0 0, .slice none 0 0] 26) = w0 := ⟨_, rfl⟩
  have hb0 : Below w.heap.size w w0 := hw0 ▸ below_alloc w _
  have hx0 : w0.heap[w.heap.size]? = some (.cells #[.slice none 0 0, .slice none 0 0, .slice none 0 0] 26) := by rw [← hw0]; exact heap_alloc_new w _
  have hs0 : w.heap.size < w0.heap.size := by rw [← hw0]; simp
  have hbase := base_calls w0 (hR.below hb0) (hS.below hb0) hrs hss hsn
  have HX0 := Lib.hid hx0
  have HB0 := Lib.hid hb0
  have HW0 := Lib.hid hw0
  have HSZ : Hid (∀ s ∈ toksOf R S, s.size ≤ maxLen) := Lib.hid (toks_sized hrs)
  have HSS := Lib.hid hss
  have HSL : Hid (S.length ≤ 20) := Lib.hid (by rw [hS.count Sp.enc_len (by omega)]; exact hsn)
  obtain ⟨T, hT⟩ : ∃ T, toksOf R S = T := ⟨_, rfl⟩
  have HTE := Lib.hid hT
  rw [hT] at HSZ
  clear hb0 hx0 hw0 hrs hss hS hR hT
  go_enter Tryz.func54, Tryz.ntmps54
  go_wp2_with (fail)
  rw [HW0.out]
  refine hbase.mono ?_
  rintro e w1 ⟨⟨hok, gt, n, sa, sn', sc', S', bt, rfl, hot, hos, hps, hsd, hbt⟩ | ⟨hno, rfl⟩, hb1⟩
  · rw [HTE.out] at hot hbt
    have HPS := Lib.hid hps
    have HSD := Lib.hid hsd
    have HOKR := Lib.hid hok
    have HB1 := Lib.hid hb1
    cases bt with
    | false =>
      have HF : Hid (¬ GoodVoc R S) := Lib.hid (fun h => by
        have := hbt.2 (by rw [← HTE.out]; exact h.2.1)
        cases this)
      clear hbase hot hos hps hsd hbt hb1 hok
      obtain ⟨w2, hw2⟩ : ∃ w2, w1.alloc (.cells #[.slice (some ⟨gt, 0, none⟩) n n, .slice none 0 0, .slice sa sn' sc'] 26) = w2 := ⟨_, rfl⟩
      have HBF : Hid (Below w0.heap.size w0 w2) := Lib.hid (by rw [← hw2]; exact HB1.out.alloc HB1.out.size _)
      obtain ⟨c0, c1, c2⟩ := box3v ((HBF.out.block w.heap.size hs0).trans HX0.out)
      have f0 := boxf ((HBF.out.block w.heap.size hs0).trans HX0.out)
      rw [← hw2] at c0 c1 c2 f0 HBF
      clear hw2
      go_wp2_with (fail)
      refine bodyPost_ret (v := .tuple #[noVd.val, .bool false]) ?_ rfl ⟨.inr ⟨HF.out, rfl⟩, ?_⟩
      · simp [results, Tryz.results54, go_sem, c0, c1, c2, noVd]
      · exact (((HB0.out.trans (HBF.out.mono HB0.out.size)).setCell (Nat.le_refl _) _).setCell (Nat.le_refl _) _).setCell (Nat.le_refl _) _
    | true =>
      have HMT := Lib.hid (hbt.1 rfl)
      have H64 := Lib.hid HMT.out.2.1
      have hn : T.length = n := by
        obtain ⟨a', c', e', _⟩ := ownT_slice hot
        simp only [Value.slice.injEq] at e'
        omega
      have HN := Lib.hid hn
      have hn4 : n ≤ 4096 := by rw [← hn]; exact HMT.out.1
      obtain ⟨w2, hw2⟩ : ∃ w2, w1.alloc (.cells #[.slice (some ⟨gt, 0, none⟩) n n, .slice none 0 0, .slice sa sn' sc'] 26) = w2 := ⟨_, rfl⟩
      have hb2 : Below w1.heap.size w1 w2 := hw2 ▸ below_alloc w1 _
      have hx2 : w2.heap[w1.heap.size]? = some (.cells #[.slice (some ⟨gt, 0, none⟩) n n, .slice none 0 0, .slice sa sn' sc'] 26) := by rw [← hw2]; exact heap_alloc_new w1 _
      have hs2 : w1.heap.size < w2.heap.size := by rw [← hw2]; simp
      have HGT : Hid (∀ q, (Value.slice (some ⟨gt, 0, none⟩) n n).ownBlock = some q → q ≠ w1.heap.size) := Lib.hid (fun q hq => by have := (World.ownsRow.lt hot q hq).2; omega)
      have HGS : Hid (∀ q, (Value.slice sa sn' sc').ownBlock = some q → q ≠ w1.heap.size) := Lib.hid (fun q hq => by have := (World.ownsRow.lt hos q hq).2; omega)
      have HOT := Lib.hid (OwnT.below hot hb2)
      have HOS := Lib.hid (OwnF.below hos hb2)
      have HX2 := Lib.hid hx2
      have HG0 : Hid (w0.heap.size ≤ w1.heap.size) := Lib.hid HB1.out.size
      have HW2 := Lib.hid hw2
      have HB2 : Hid (Below w0.heap.size w0 w2) := Lib.hid (hb1.trans (hb2.mono hb1.size))
      clear hbase hot hos hps hsd hbt hb1 hok hw2 hb2 hx2 hn
      go_wp2_with (fail)
      rw [HW2.out]
      go_loopw [25] (fun i wr => ∃ (k : Nat) (mv : Value) (M' : List Mg), k ≤ n ∧ i = .int .i64 k ∧ Hid (M'.Perm (mergesTo T k)) ∧ Hid (SortedM M') ∧ OwnF Mg.enc 4 140 wr w2.heap.size mv M' ∧ wr.heap[w1.heap.size]? = some (.cells #[.slice (some ⟨gt, 0, none⟩) n n, mv, .slice sa sn' sc'] 26) ∧ KeepG w1.heap.size w2 wr ∧ Below w0.heap.size w0 wr) (fun i _ => n - (intOf i).toNat)
      case atStart => exact ⟨0, _, [], Nat.zero_le _, rfl, Lib.hid (by rw [mergesTo_zero]), Lib.hid List.Pairwise.nil, OwnF.nil _ _, HX2.out, KeepG.refl _ _, HB2.out⟩
      case round =>
        obtain ⟨k, mv, M', hk, rfl, HP, HSM, ho, hbx, hkp, hbb⟩ := hrel
        have HO := Lib.hid ho
        have HBX := Lib.hid hbx
        have HKP := Lib.hid hkp
        have HBB := Lib.hid hbb
        have HG6 : Hid (w1.heap.size < wr.heap.size) := Lib.hid (Nat.lt_of_lt_of_le hs2 hkp.size)
        obtain ⟨d0, d1, d2⟩ := box3v hbx
        have fv := boxf hbx
        clear ho hbx hkp hbb
        by_cases hlt : k < n
        · have hkT : k < T.length := by have := HN.out; omega
          obtain ⟨b, o, e9, hc⟩ := SlS.cell (T := T) (w := wr) (ao := some ⟨gt, 0, none⟩) (n := n) (c := n) (by
            have h := OwnT.keepG HOT.out HKP.out HGT.out
            obtain ⟨a', c', e', h'⟩ := ownT_slice h
            simp only [Value.slice.injEq] at e'
            obtain ⟨rfl, e2, rfl⟩ := e'
            rw [← e2] at h'
            exact h') (tk_eq hkT)
          simp only [Option.some.injEq, Addr.mk.injEq, and_true] at e9
          obtain ⟨rfl, rfl⟩ := e9
          have hks := H64.out _ (tk_mem hkT)
          obtain ⟨s, hs⟩ : ∃ s, tk T k = s := ⟨_, rfl⟩
          rw [hs] at hc hks
          rw [Nat.zero_add] at hc
          have HSE := Lib.hid hs
          clear hs
          obtain ⟨wo, rfl⟩ : ∃ wo : World, wo = wr := ⟨_, rfl⟩
          go_wp2_with (fail)
          go_loopw [10] (fun i wr => ∃ (j : Nat) (mv : Value) (M' : List Mg), 1 ≤ j ∧ (j ≤ s.size ∨ j = 1) ∧ i = .int .i64 j ∧ Hid (M'.Perm (mergesTo T k ++ cutsTo T k (j - 1))) ∧ Hid (SortedM M') ∧ OwnF Mg.enc 4 140 wr w2.heap.size mv M' ∧ wr.heap[w1.heap.size]? = some (.cells #[.slice (some ⟨gt, 0, none⟩) n n, mv, .slice sa sn' sc'] 26) ∧ KeepG w1.heap.size w2 wr ∧ Below w0.heap.size w0 wr) (fun i _ => s.size - (intOf i).toNat)
          case atStart => exact ⟨1, mv, M', Nat.le_refl _, .inr rfl, rfl, Lib.hid (by simpa [cutsTo_zero] using HP.out), HSM, HO.out, HBX.out, HKP.out, HBB.out⟩
          case round =>
            obtain ⟨j, mv, M', hj1, hj, rfl, HP, HSM, ho, hbx, hkp, hbb⟩ := hrel
            have HO := Lib.hid ho
            have HBX := Lib.hid hbx
            have HKP := Lib.hid hkp
            have HBB := Lib.hid hbb
            have HG6 : Hid (w1.heap.size < wr.heap.size) := Lib.hid (Nat.lt_of_lt_of_le hs2 hkp.size)
            obtain ⟨d0, d1, d2⟩ := box3v hbx
            have fv := boxf hbx
            clear ho hbx hkp hbb
            by_cases hlt2 : j < s.size
            · have hy1 : (s.extract 0 j).size ≤ maxLen := by rw [ByteArray.size_extract]; unfold maxLen; omega
              have hy2 : (s.extract j s.size).size ≤ maxLen := by rw [ByteArray.size_extract]; unfold maxLen; omega
              obtain ⟨a1, ha1⟩ : ∃ a1, ofT T (s.extract 0 j) = a1 := ⟨_, rfl⟩
              obtain ⟨a2, ha2⟩ : ∃ a2, ofT T (s.extract j s.size) = a2 := ⟨_, rfl⟩
              have HC : Hid (cutAt T k (j - 1) = if 0 ≤ a1 ∧ 0 ≤ a2 then some ⟨a1, a2, k, k⟩ else none) := Lib.hid (by
                unfold cutAt
                rw [HSE.out, show j - 1 + 1 = j by omega, ha1, ha2])
              have HJ : Hid (j - 1 + 1 = j + 1 - 1) := Lib.hid (by omega)
              have hcu : ∃ cc, cc = j - 1 := ⟨_, rfl⟩
              have HTW : Hid (SlS wr (some ⟨gt, 0, none⟩) n n T) := Lib.hid (by
                have h := OwnT.keepG HOT.out HKP.out HGT.out
                obtain ⟨a', c', e', h'⟩ := ownT_slice h
                simp only [Value.slice.injEq] at e'
                obtain ⟨rfl, e2, rfl⟩ := e'
                rw [← e2] at h'
                exact h')
              have q1 := fun m => rof_q (s.extract 0 j) HTW.out m
              rw [ha1] at q1
              clear ha1
              go_wp2_with (fail)
              go_quiet ((go_at_call 84; exact Calls.quiet_of_same (q1 _)))
              obtain ⟨wx, hwx⟩ : ∃ wx, wr.drewN nq = wx := ⟨_, rfl⟩
              have HTX : Hid (SlS wx (some ⟨gt, 0, none⟩) n n T) := Lib.hid (by rw [← hwx]; exact Sl.stay HTW.out fun _ _ h => h)
              have e0 : wx.cell? ⟨w1.heap.size, 0, none⟩ = some (.slice (some ⟨gt, 0, none⟩) n n) := by rw [← hwx]; exact d0
              have q2 := fun m => rof_q (s.extract j s.size) HTX.out m
              rw [ha2] at q2
              clear q1 ha2
              rw [hwx]
              go_wp2_with (fail)
              go_quiet ((go_at_call 84; exact Calls.quiet_of_same (q2 _)))
              obtain ⟨wy, hwy⟩ : ∃ wy, wx.drewN nq = wy := ⟨_, rfl⟩
              have hry : Below wr.heap.size wr wy := by rw [← hwy, ← hwx]; exact below_drewN (below_drewN (Below.refl _ _) _) _
              have HRY := Lib.hid hry
              have hxy := (hry.block w1.heap.size HG6.out).trans HBX.out
              have HXY := Lib.hid hxy
              obtain ⟨y0, y1, y2⟩ := box3v hxy
              rw [hwy]
              have HOY := Lib.hid (HO.out.below hry)
              clear q2 hwx hwy hry hxy d0 d1 d2 fv e0
              by_cases h0 : 0 ≤ a1 ∧ 0 ≤ a2
              · have HC2 := HC.out
                rw [if_pos h0] at HC2
                have HCC := Lib.hid (cutsTo_some HC2)
                rw [HJ.out] at HCC
                obtain ⟨h01, h02⟩ := h0
                have hd1 : decide (0 ≤ a1) = true := by simpa using h01
                have hd2 : decide (0 ≤ a2) = true := by simpa using h02
                have hML : M'.length ≤ 300000 := by
                  have q1 := mergesTo_len H64.out (k := k) (by omega)
                  have q2 := cutsTo_len T k (j - 1)
                  rw [HP.out.length_eq, List.length_append]
                  omega
                obtain ⟨mo, mc, rfl, hsl⟩ := HOY.out.sl
                obtain ⟨ln, hln⟩ : ∃ ln, M'.length = ln := ⟨_, rfl⟩
                rw [hln] at hsl hML y1 HXY
                have hput := rput_calls a1 a2 (k : Int) (k : Int) wy hsl hML
                have HSY : Hid (wr.heap.size ≤ wy.heap.size) := Lib.hid HRY.out.size
                clear HC2 hln hsl
                go_wp2_with (fail)
                refine hput.mono ?_
                rintro e wz ⟨⟨v', M'', rfl, ho', hp', hs'⟩, hbz⟩
                obtain ⟨xo, xc, rfl, _⟩ := ho'.sl
                obtain ⟨xn, hxn⟩ : ∃ xn, M''.length = xn := ⟨_, rfl⟩
                rw [hxn] at ho' ⊢
                clear hxn
                have HO' := Lib.hid ho'
                have HBZ := Lib.hid hbz
                have hxz := (hbz.block w1.heap.size (Nat.lt_of_lt_of_le HG6.out HSY.out)).trans HXY.out
                have HXZ := Lib.hid hxz
                obtain ⟨z0, z1, z2⟩ := box3v hxz
                have fz := boxf hxz
                have HP' : Hid (M''.Perm (mergesTo T k ++ cutsTo T k (j + 1 - 1))) := Lib.hid (by
                  rw [HCC.out, ← List.append_assoc]
                  exact hp'.trans (HP.out.append_right _))
                have HS' := Lib.hid (hs' HSM.out)
                clear ho' hbz hxz hp' hs' hput y0 y1 y2
                go_wp2_with (fail)
                go_roundw
                case rel => exact ⟨j + 1, _, M'', by omega, .inl (by omega), by go_num, HP', HS',
                  OwnF.mono (own_stay HO'.out fun q hq => Below.heap_setCell _ _ _ _ (by show q ≠ w1.heap.size; have := (World.ownsRow.lt HO'.out q hq).1; have := HSY.out; have := HG6.out; omega)) (Nat.le_trans HKP.out.size HSY.out),
                  set_cell1 HXZ.out, ((HKP.out.below HRY.out).below HBZ.out).set _ _, ((HBB.out.trans (HRY.out.mono HBB.out.size)).trans (HBZ.out.mono (Nat.le_trans HBB.out.size HSY.out))).setCell (by exact HG0.out) _⟩
                case measure => simp [intOf]; omega
              · have HC2 := HC.out
                rw [if_neg h0] at HC2
                have HCC := Lib.hid (cutsTo_none HC2)
                rw [HJ.out] at HCC
                clear HC2
                by_cases h0a : 0 ≤ a1
                · have hd1 : decide (0 ≤ a1) = true := by simpa using h0a
                  have h0b : ¬ 0 ≤ a2 := fun h => h0 ⟨h0a, h⟩
                  have hd2 : decide (0 ≤ a2) = false := by simpa using h0b
                  clear h0
                  go_wp2_with (fail)
                  go_roundw
                  case rel => exact ⟨j + 1, mv, M', by omega, .inl (by omega), by go_num, Lib.hid (by rw [HCC.out]; exact HP.out), HSM, HOY.out, HXY.out, HKP.out.below HRY.out, HBB.out.trans (HRY.out.mono HBB.out.size)⟩
                  case measure => simp [intOf]; omega
                · have hd1 : decide (0 ≤ a1) = false := by simpa using h0a
                  clear h0
                  go_wp2_with (fail)
                  go_roundw
                  case rel => exact ⟨j + 1, mv, M', by omega, .inl (by omega), by go_num, Lib.hid (by rw [HCC.out]; exact HP.out), HSM, HOY.out, HXY.out, HKP.out.below HRY.out, HBB.out.trans (HRY.out.mono HBB.out.size)⟩
                  case measure => simp [intOf]; omega
            · have HEQ : Hid (M'.Perm (mergesTo T (k + 1))) := Lib.hid (by
                rw [mergesTo_succ, cutsOf_eq, HSE.out, show s.size - 1 = j - 1 by omega]
                exact HP.out)
              go_wp2_with (fail)
              go_roundw
              case rel => exact ⟨k + 1, mv, M', by omega, by go_num, HEQ, HSM, HO.out, HBX.out, HKP.out, HBB.out⟩
              case measure => simp [intOf]; omega
        · obtain rfl : k = n := by omega
          have hMA : mergesTo T k = mergesOf T := by rw [← HN.out]; exact mergesTo_all T
          have HPM : Hid (M'.Perm (mergesOf T)) := Lib.hid (by rw [← hMA]; exact HP.out)
          obtain ⟨mo, mc, rfl, hsl⟩ := HO.out.sl
          obtain ⟨ln, hln⟩ : ∃ ln, M'.length = ln := ⟨_, rfl⟩
          have HO9 := Lib.hid HO.out
          rw [hln] at hsl d1 HBX HO9
          have hvr : VocR wr ⟨some ⟨gt, 0, none⟩, k, k, mo, ln, mc, sa, sn', sc'⟩ ⟨T, M', S'⟩ := by
            refine ⟨?_, hsl, ?_⟩
            · have h := OwnT.keepG HOT.out HKP.out HGT.out
              obtain ⟨a', c', e', h'⟩ := ownT_slice h
              simp only [Value.slice.injEq] at e'
              obtain ⟨rfl, e2, rfl⟩ := e'
              rw [← e2] at h'
              exact h'
            · exact ownF_slice (OwnF.keepG HOS.out HKP.out HGS.out)
          have hvok : VOk ⟨T, M', S'⟩ := ⟨HSZ.out, fun s hs => HSS.out s (HPS.out.mem_iff.1 hs), by
            have := HPS.out.length_eq
            have := HSL.out
            show S'.length ≤ _
            omega⟩
          have hmay := rmay_calls (V := ⟨T, M', S'⟩) (dd := ⟨some ⟨gt, 0, none⟩, k, k, mo, ln, mc, sa, sn', sc'⟩) wr hvr hvok
          clear hMA hsl hln hvr hvok
          go_wp2_with (fail)
          refine hmay.mono ?_
          rintro e w5 ⟨⟨b, rfl, hi⟩, hb5⟩
          have HI := Lib.hid hi
          have HB5 : Hid (Below w0.heap.size w0 w5) := Lib.hid (HBB.out.trans (hb5.mono HBB.out.size))
          have HKP5 := Lib.hid (HKP.out.below hb5)
          have HO5 := Lib.hid (HO9.out.below hb5)
          have hx6 := (hb5.block w1.heap.size HG6.out).trans HBX.out
          obtain ⟨y0, y1, y2⟩ := box3v hx6
          obtain ⟨c0, c1, c2⟩ := box3v ((HB5.out.block w.heap.size hs0).trans HX0.out)
          have f0 := boxf ((HB5.out.block w.heap.size hs0).trans HX0.out)
          have HVO : Hid (vocOf R S = ⟨T, sortMg (mergesOf T), sortSp S⟩) := Lib.hid (by unfold vocOf; rw [HTE.out])
          have HSO := Lib.hid (sorted_may (T := T) HPM.out HSM.out HPS.out HSD.out)
          clear hmay hi hb5 hx6 d0 d1 d2 fv
          cases b with
          | false =>
            have HF : Hid (¬ GoodVoc R S) := Lib.hid (fun h => by
              have h2 := h.2
              rw [HVO.out] at h2
              have := HI.out.2 (HSO.out.1.2 h2)
              cases this)
            go_wp2_with (fail)
            refine bodyPost_ret (v := .tuple #[noVd.val, .bool false]) ?_ rfl ⟨.inr ⟨HF.out, rfl⟩, ?_⟩
            · simp [results, Tryz.results54, go_sem, c0, c1, c2, noVd]
            · exact (((HB0.out.trans (HB5.out.mono HB0.out.size)).setCell (Nat.le_refl _) _).setCell (Nat.le_refl _) _).setCell (Nat.le_refl _) _
          | true =>
            have HG : Hid (GoodVoc R S ∧ M' = sortMg (mergesOf T) ∧ S' = sortSp S) := Lib.hid (by
              have h := HI.out.1 rfl
              exact ⟨⟨HOKR.out, by rw [HVO.out]; exact HSO.out.1.1 h⟩, HSO.out.2 h⟩)
            go_wp2_with (fail)
            refine bodyPost_ret (v := .tuple #[Vd.val ⟨some ⟨gt, 0, none⟩, k, k, mo, ln, mc, sa, sn', sc'⟩, .bool true]) ?_ rfl ⟨.inl ⟨HG.out.1, ⟨some ⟨gt, 0, none⟩, k, k, mo, ln, mc, sa, sn', sc'⟩, rfl, ?_⟩, ?_⟩
            · simp [results, Tryz.results54, go_sem, c0, c1, c2]
            · rw [HVO.out, ← HG.out.2.1, ← HG.out.2.2]
              refine ⟨?_, ownF_slice (own_stay HO5.out fun q h => heap_set3 _ _ _ _ _ ?_), ownF_slice (own_stay (OwnF.keepG HOS.out HKP5.out HGS.out) fun q h => heap_set3 _ _ _ _ _ ?_)⟩
              · have h := OwnT.keepG HOT.out HKP5.out HGT.out
                have h2 : OwnT _ w0.heap.size (.slice (some ⟨gt, 0, none⟩) k k) T := own_stay h fun q hq => heap_set3 w5 w.heap.size (.slice (some ⟨gt, 0, none⟩) k k) (.slice mo ln mc) (.slice sa sn' sc') (by have := (World.ownsRow.lt h q hq).1; omega)
                obtain ⟨a', c', e', h'⟩ := ownT_slice h2
                simp only [Value.slice.injEq] at e'
                obtain ⟨rfl, e2, rfl⟩ := e'
                rw [← e2] at h'
                exact h'
              · have := (World.ownsRow.lt HO5.out q h).1
                have := HB2.out.size
                omega
              · have := (World.ownsRow.lt (OwnF.keepG HOS.out HKP5.out HGS.out) q h).1
                omega
            · exact (((HB0.out.trans (HB5.out.mono HB0.out.size)).setCell (Nat.le_refl _) _).setCell (Nat.le_refl _) _).setCell (Nat.le_refl _) _
  · have HF : Hid (¬ GoodVoc R S) := Lib.hid (fun h => hno h.1)
    have HB1 := Lib.hid hb1
    clear hb1 hbase hno
    simp only [noVd]
    obtain ⟨w2, hw2⟩ : ∃ w2, w1.alloc (.cells #[.slice none 0 0, .slice none 0 0, .slice none 0 0] 26) = w2 := ⟨_, rfl⟩
    have HBF : Hid (Below w0.heap.size w0 w2) := Lib.hid (by rw [← hw2]; exact HB1.out.alloc HB1.out.size _)
    obtain ⟨c0, c1, c2⟩ := box3v ((HBF.out.block w.heap.size hs0).trans HX0.out)
    have f0 := boxf ((HBF.out.block w.heap.size hs0).trans HX0.out)
    rw [← hw2] at c0 c1 c2 f0 HBF
    clear hw2
    go_wp2_with (fail)
    refine bodyPost_ret (v := .tuple #[noVd.val, .bool false]) ?_ rfl ⟨.inr ⟨HF.out, rfl⟩, ?_⟩
    · simp [results, Tryz.results54, go_sem, c0, c1, c2, noVd]
    · exact (((HB0.out.trans (HBF.out.mono HB0.out.size)).setCell (Nat.le_refl _) _).setCell (Nat.le_refl _) _).setCell (Nat.le_refl _) _

open Classical in
noncomputable def fB (R : List Rw) (S : List Sp) : Bool := if GoodVoc R S then true else false
theorem fB_yes {R : List Rw} {S : List Sp} (h : GoodVoc R S) : fB R S = true := by unfold fB; rw [if_pos h]
theorem fB_no {R : List Rw} {S : List Sp} (h : ¬ GoodVoc R S) : fB R S = false := by unfold fB; rw [if_neg h]
def RFromVal (R : List Rw) (S : List Sp) (w : World) (e : Ending) (w' : World) : Prop :=
  (∃ d : Vd, e = .returned (.tuple #[d.val, .bool (fB R S)]) ∧ VocR w' d (fV R S)) ∧ Below w.heap.size w w'
theorem rfromRows_val {R : List Rw} {S : List Sp} {ro so : Option Addr} {rn rc sn sc : Nat} (w : World) (hR : SlF 2 w ro rn rc (flat Rw.enc R)) (hS : SlF 2 w so sn sc (flat Sp.enc S))
    (hrs : ∀ r ∈ R, r.token.size ≤ maxLen) (hss : Sized S) (hsn : sn ≤ 20) :
    Calls Tryz.prog 54 #[.slice ro rn rc, .slice so sn sc] w (RFromVal R S w) :=
  (rfromRows_calls w hR hS hrs hss hsn).mono fun e w' ⟨h, hb⟩ => ⟨by
    rcases h with ⟨hg, d, rfl, hv⟩ | ⟨hn, rfl⟩
    · exact ⟨d, by rw [fB_yes hg], by rw [fV_yes hg]; exact hv⟩
    · exact ⟨noVd, by rw [fB_no hn], by rw [fV_no hn]; exact noVoc w'⟩, hb⟩

end Go.Proofs.YtnadelmbkaoeeaaGreatDoor

/- Walk: pair.New: a vocabulary's table of pairs. -/
namespace Go.Proofs.YtnadelmbkaoeeaaGreatDoor
open Go.RowKit
set_option linter.unusedVariables false

abbrev MapP (w : World) (mb sz : Nat) (f : Int × Int → Option Int) : Prop := MapK twoViewP 3 w mb sz f
theorem KeepG.grownMap {g : Nat} {w w' w'' : World} (h : KeepG g w w') (hg : w'.drew.grownBy w'' (some g)) : KeepG g w w'' :=
  ⟨Nat.le_trans h.size hg.size, fun q h1 h2 => (hg.block q (Nat.lt_of_lt_of_le h1 h.size) (by simp; omega)).trans (h.block q h1 h2)⟩
/-- The table's box: the merges, a row of the call's own; the map of their places. -/
structure PTab (w : World) (base g : Nat) (M : List Mg) : Prop where
  lo : base ≤ g
  tab : ∃ mo mc mb sz f, w.heap[g]? = some (.cells #[.slice mo M.length mc, .map (some mb)] 151) ∧ OwnF Mg.enc 4 140 w base (.slice mo M.length mc) M ∧ MapP w mb sz f ∧ base ≤ mb ∧ mb < w.heap.size
def PairPost (V : Vc) (w : World) (e : Ending) (w' : World) : Prop :=
  ((¬ May V ∧ e = .returned (.tuple #[.pointer none, .int .i64 2])) ∨ (May V ∧ ∃ g, e = .returned (.tuple #[.pointer (some ⟨g, 0, none⟩), .int .i64 0]) ∧ PTab w' w.heap.size g V.merges)) ∧ Below w.heap.size w w'

set_option maxHeartbeats 2000000 in
set_option maxRecDepth 100000 in
theorem pairNew_calls {V : Vc} {dd : Vd} (w : World) (hV : VocR w dd V) (hok : VOk V) :
    Calls Tryz.prog 58 #[dd.val] w (PairPost V w) := by
  obtain ⟨ta, tn, tc, ma, mn, mc, sa, sn, sc⟩ := dd
  obtain ⟨w0, hw0⟩ : ∃ w0, w.alloc (.cells #[.slice ta tn tc, .slice ma mn mc, .slice sa sn sc] 26) = w0 := ⟨_, rfl⟩
  have hb0 : Below w.heap.size w w0 := hw0 ▸ below_alloc w _
  have hx0 : w0.heap[w.heap.size]? = some (.cells #[.slice ta tn tc, .slice ma mn mc, .slice sa sn sc] 26) := by rw [← hw0]; exact heap_alloc_new w _
  have hs0 : w.heap.size < w0.heap.size := by rw [← hw0]; simp
  obtain ⟨c0, c1, c2⟩ := box3v hx0
  have HV := Lib.hid (hV.below hb0)
  have HB0 := Lib.hid hb0
  have HX0 := Lib.hid hx0
  have HW0 := Lib.hid hw0
  have hm := Nat.le_trans hV.mrg.le hV.mrg.max
  simp only at hm
  unfold maxLen at hm
  have HLM := Lib.hid (hV.mrg.count Mg.enc_len (by omega))
  have hmay := may_calls (dd := ⟨ta, tn, tc, ma, mn, mc, sa, sn, sc⟩) w0 HV.out hok
  clear hV hb0 hx0 hw0
  go_enter Tryz.func58, Tryz.ntmps58
  go_wp2_with (fail)
  rw [HW0.out]
  refine hmay.mono ?_
  rintro e w1 ⟨⟨b, rfl, hi⟩, hb1⟩
  have HB1 := Lib.hid hb1
  have HI := Lib.hid hi
  clear c0 c1 c2
  obtain ⟨c0, c1, c2⟩ := box3v ((HB1.out.block w.heap.size hs0).trans HX0.out)
  clear hb1 hi hmay
  cases b with
  | false =>
    have HF := Lib.hid (no_of HI.out rfl)
    go_wp2_with (fail)
    refine bodyPost_ret (v := .tuple #[.pointer none, .int .i64 2]) ?_ rfl ⟨.inl ⟨HF.out, rfl⟩, HB0.out.trans (HB1.out.mono HB0.out.size)⟩
    simp [results, Tryz.results58, go_sem]
  | true =>
    have HM := Lib.hid (HI.out.1 rfl)
    have hmn : mn ≤ 16384 := by have h1 := HM.out.2.1.1; have := HLM.out; omega
    have hcl := cloneMg_calls w1 ((HV.out.below HB1.out).mrg) (by show mn ≤ 1048576; omega)
    go_wp2_with (fail)
    refine hcl.mono ?_
    rintro e w2 ⟨v2, rfl, ho2, hb2⟩
    obtain ⟨mo, mcc, rfl, _⟩ := ho2.sl
    have hml : V.merges.length = mn := HLM.out
    have HO2 := Lib.hid ho2
    rw [hml]
    have HML := Lib.hid hml
    have HB2 := Lib.hid (HB1.out.trans (hb2.mono HB1.out.size))
    clear c0 c1 c2
    obtain ⟨c0, c1, c2⟩ := box3v ((HB2.out.block w.heap.size hs0).trans HX0.out)
    obtain ⟨w3, hw3⟩ : ∃ w3, w2.alloc (.map #[] 0) = w3 := ⟨_, rfl⟩
    obtain ⟨w4, hw4⟩ : ∃ w4, w3.alloc (.cells #[.slice mo mn mcc, .map (some w2.heap.size)] 151) = w4 := ⟨_, rfl⟩
    have hb3 : Below w2.heap.size w2 w3 := hw3 ▸ below_alloc w2 _
    have hb4 : Below w3.heap.size w3 w4 := hw4 ▸ below_alloc w3 _
    have hs3 : w3.heap.size = w2.heap.size + 1 := by rw [← hw3]; simp
    have hx4 : w4.heap[w3.heap.size]? = some (.cells #[.slice mo mn mcc, .map (some w2.heap.size)] 151) := by rw [← hw4]; exact heap_alloc_new w3 _
    have hs4 : w3.heap.size < w4.heap.size := by rw [← hw4]; simp
    have HM0 : Hid (MapP w4 w2.heap.size 0 (fun _ => none)) := Lib.hid (MapK.below (by rw [← hw3]; exact MapK.new twoViewP 3 w2) hb4)
    have HB4 : Hid (Below w2.heap.size w2 w4) := Lib.hid (hb3.trans (hb4.mono (by omega)))
    have HX4 := Lib.hid hx4
    have HW3 := Lib.hid hw3
    have HW4 := Lib.hid hw4
    have HS3 := Lib.hid hs3
    have hmk := @run_makeMap Tryz.prog
    have hc1 := cell_below HB4.out _ _ c1
    rw [← hw4, ← hw3] at hc1
    have hgg : w2.heap.size + 1 = w3.heap.size := hs3.symm
    have HGG := Lib.hid hgg
    clear ho2 hml hb2 hb3 hb4 hx4 hw3 hw4 hcl hs3 hgg
    go_wp2_with (fail)
    rw [HW3.out, HW4.out, HGG.out]
    clear hc1 c0 c1 c2
    go_loopw [19] (fun i wr => ∃ (k sz : Nat) (f : Int × Int → Option Int), k ≤ mn ∧ i = .int .i64 k ∧ sz ≤ k ∧ MapP wr w2.heap.size sz f ∧ KeepG w2.heap.size w4 wr ∧ Below w2.heap.size w2 wr) (fun i _ => mn - (intOf i).toNat)
    case atStart => exact ⟨0, 0, _, Nat.zero_le _, rfl, Nat.le_refl _, HM0.out, KeepG.refl _ _, HB4.out⟩
    case round =>
      obtain ⟨k, sz, f, hk, rfl, hsz, hmp, hkp, hb⟩ := hrel
      have HMp := Lib.hid hmp
      have HKP := Lib.hid hkp
      have HB := Lib.hid hb
      have hxg := (hkp.block w3.heap.size hs4 (by have := HS3.out; omega)).trans HX4.out
      have hsg := Nat.lt_of_lt_of_le hs4 hkp.size
      have HXG := Lib.hid hxg
      clear hmp hkp hb
      by_cases hlt : k < mn
      · have hkM : k < V.merges.length := by have := HML.out; omega
        have HB02 : Hid (Below w0.heap.size w0 wr) := Lib.hid (HB2.out.trans (HB.out.mono HB2.out.size))
        obtain ⟨b, of, hao, hce⟩ := (HV.out.below HB02.out).mrg.elem Mg.enc_len (by omega) (mg_eq hkM)
        have hok1 := HM.out.2.1.2.1 _ (List.mem_of_getElem? (mg_eq hkM))
        obtain ⟨⟨l, r, o, d⟩, hseq⟩ : ∃ m, mg V.merges k = m := ⟨_, rfl⟩
        rw [hseq] at hce hok1
        obtain ⟨hl, hr, _⟩ := hok1
        have ⟨l0, l1, _⟩ := isTk_iff.1 hl
        have ⟨r0, r1, _⟩ := isTk_iff.1 hr
        have ht4 := HM.out.1.1
        simp only at hao l0 l1 r0 r1
        subst hao
        have hwl : (Lit.int .i64 l).wf = true := by rw [i64_wf]; omega
        have hwr : (Lit.int .i64 r).wf = true := by rw [i64_wf]; omega
        have hwk : (Lit.int .i64 (k : Int)).wf = true := by rw [i64_wf]; omega
        have d0 := hce 0 _ rfl
        have d1 := hce 1 _ rfl
        have d2 := hce 2 _ rfl
        have d3 := hce 3 _ rfl
        rw [Nat.add_zero] at d0
        simp only at d0 d1 d2 d3
        obtain ⟨wx, hwx⟩ : ∃ wx, wr.alloc (.cells #[.int .i64 l, .int .i64 r, .int .i64 o, .int .i64 d] 140) = wx := ⟨_, rfl⟩
        have hbx : Below wr.heap.size wr wx := hwx ▸ below_alloc wr _
        have hxx : wx.heap[wr.heap.size]? = some (.cells #[.int .i64 l, .int .i64 r, .int .i64 o, .int .i64 d] 140) := by rw [← hwx]; exact heap_alloc_new wr _
        obtain ⟨x0, x1, x2, x3⟩ := box4 hxx
        have hxg2 := (hbx.block w3.heap.size hsg).trans hxg
        obtain ⟨y0, y1⟩ : wx.cell? ⟨w3.heap.size, 0, none⟩ = some (.slice mo mn mcc) ∧ wx.cell? ⟨w3.heap.size, 1, none⟩ = some (.map (some w2.heap.size)) := by simp [World.cell?, hxg2]
        obtain ⟨w5, hup, hm5, hg5⟩ := MapK.update (V := twoViewP) (s := (l, r)) (c := (k : Int)) (P := Tryz.prog) (t := 149) (w := wx.drew) Tryz.underlying149 Tryz.underlying3 (MapK.below HMp.out (hbx.drew)) ⟨hwl, hwr⟩ hwk (by unfold maxLen; omega)
        have HWX := Lib.hid hwx
        have HBX : Hid (Below w2.heap.size w2 wx) := Lib.hid (HB.out.trans (hbx.mono HB.out.size))
        have HKX := Lib.hid (HKP.out.below hbx)
        clear hce hseq hwx hxx hxg hxg2 hbx hl hr l0 l1 r0 r1
        have hup2 : (Instr.mapUpdate 149 (.map (some w2.heap.size)) (.agg #[.int .i64 l, .int .i64 r]) (.int .i64 (k : Int))).run Tryz.prog wx.drew = .ok () w5 := hup
        have HM5 := Lib.hid hm5
        have HG5 := Lib.hid hg5
        clear hup hm5 hg5
        go_wp2_with (fail)
        rw [HWX.out]
        go_region
        all_goals (go_wp2_with (fail)
                   go_roundw
                   case rel => exact ⟨k + 1, _, _, by omega, by go_num, by split <;> omega, HM5.out, HKX.out.grownMap HG5.out, (HBX.out.drew).grown HG5.out HBX.out.size (fun q hq => by simp at hq; omega)⟩
                   case measure => simp [intOf]; omega)
      · go_wp2_with (fail)
        refine bodyPost_ret (v := .tuple #[.pointer (some ⟨w3.heap.size, 0, none⟩), .int .i64 0]) ?_ rfl ⟨.inr ⟨HM.out, w3.heap.size, rfl, ?_, ?_⟩, ?_⟩
        · simp [results, Tryz.results58, go_sem]
        · have := HB2.out.size; have := HB0.out.size; have := HS3.out; omega
        · refine ⟨mo, mcc, w2.heap.size, sz, f, by rw [HML.out]; exact hxg, OwnF.mono (OwnF.keepG (HO2.out.below HB4.out) HKP.out fun q hq => by have := (World.ownsRow.lt HO2.out q hq).2; omega) (by have := HB1.out.size; have := HB0.out.size; omega), HMp.out, by have := HB2.out.size; have := HB0.out.size; omega, by have := HB.out.size; have := HS3.out; omega⟩
        · exact HB0.out.trans ((HB2.out.trans (HB.out.mono HB2.out.size)).mono HB0.out.size)

end Go.Proofs.YtnadelmbkaoeeaaGreatDoor

/- Walk: encode.New: a vocabulary's coder. -/
namespace Go.Proofs.YtnadelmbkaoeeaaGreatDoor
open Go.RowKit
set_option linter.unusedVariables false

/-- The coder's cells, k bytes' tokens having been told. -/
def ECs (T : List ByteArray) (tv : Value) (pg k : Nat) (cs : Array Value) : Prop :=
  cs.size = 258 ∧ cs[0]? = some tv ∧ cs[1]? = some (.pointer (some ⟨pg, 0, none⟩)) ∧ ∀ i, i < k → cs[2 + i]? = some (.int .i64 (ofT T (one i)))
theorem ECs.next {T : List ByteArray} {tv : Value} {pg k : Nat} {cs : Array Value} (h : Hid (ECs T tv pg k cs)) (hk : k < 256) : Hid (ECs T tv pg (k + 1) (cs.setIfInBounds (2 + k) (.int .i64 (ofT T (one k))))) := by
  obtain ⟨h1, h2, h3, h4⟩ := h.out
  refine Lib.hid ⟨by simpa using h1, ?_, ?_, fun i hi => ?_⟩
  · rw [Array.getElem?_setIfInBounds_ne (by omega)]; exact h2
  · rw [Array.getElem?_setIfInBounds_ne (by omega)]; exact h3
  · by_cases e : i = k
    · subst e
      rw [Array.getElem?_setIfInBounds_self_of_lt (by omega)]
    · rw [Array.getElem?_setIfInBounds_ne (by omega)]; exact h4 i (by omega)
theorem set_cellN {w : World} {g i : Nat} {cs : Array Value} {v : Value} {t : TypeId} (h : w.heap[g]? = some (.cells cs t)) : (w.setCell ⟨g, i, none⟩ v).heap[g]? = some (.cells (cs.setIfInBounds i v) t) := by
  simp [World.setCell, Array.getElem?_modify, h]
theorem PTab.keep {w w' : World} {base g : Nat} {M : List Mg} (h : PTab w base g M) (hk : ∀ q, base ≤ q → q < w.heap.size → w'.heap[q]? = w.heap[q]?) (hs : w.heap.size ≤ w'.heap.size) : PTab w' base g M := by
  obtain ⟨lo, mo, mc, mb, sz, f, h1, h2, h3, h4, h5⟩ := h
  have hg : g < w.heap.size := (Array.getElem?_eq_some_iff.1 h1).1
  exact ⟨lo, mo, mc, mb, sz, f, (hk g lo hg).trans h1, own_stay h2 (fun q hq => hk q (World.ownsRow.lt h2 q hq).1 (World.ownsRow.lt h2 q hq).2), MapK.stay h3 (hk mb h4 h5), h4, by omega⟩
theorem PTab.mono {w : World} {base base' g : Nat} {M : List Mg} (h : PTab w base g M) (hb : base' ≤ base) : PTab w base' g M := by
  obtain ⟨lo, mo, mc, mb, sz, f, h1, h2, h3, h4, h5⟩ := h
  exact ⟨by omega, mo, mc, mb, sz, f, h1, OwnF.mono h2 hb, h3, by omega, h5⟩
/-- A vocabulary's coder lies at block g. -/
structure ECod (w : World) (base g : Nat) (V : Vc) : Prop where
  lo : base ≤ g
  tab : ∃ cs to_ tcc pg, w.heap[g]? = some (.cells cs 116) ∧ ECs V.tokens (.slice to_ V.tokens.length tcc) pg 256 cs ∧ OwnF encS 1 9 w base (.slice to_ V.tokens.length tcc) V.tokens ∧ PTab w base pg V.merges
def EncPost (V : Vc) (w : World) (e : Ending) (w' : World) : Prop :=
  ((¬ May V ∧ e = .returned (.tuple #[.pointer none, .int .i64 2])) ∨ (May V ∧ ∃ g, e = .returned (.tuple #[.pointer (some ⟨g, 0, none⟩), .int .i64 0]) ∧ ECod w' w.heap.size g V)) ∧ Below w.heap.size w w'

set_option maxHeartbeats 1000000 in
set_option maxRecDepth 100000 in
theorem encNew_calls {V : Vc} {dd : Vd} (w : World) (hV : VocR w dd V) (hok : VOk V) :
    Calls Tryz.prog 30 #[dd.val] w (EncPost V w) := by
  obtain ⟨ta, tn, tc, ma, mn, mc, sa, sn, sc⟩ := dd
  obtain ⟨w0, hw0⟩ : ∃ w0, w.alloc (.cells #[.slice ta tn tc, .slice ma mn mc, .slice sa sn sc] 26) = w0 := ⟨_, rfl⟩
  have hb0 : Below w.heap.size w w0 := hw0 ▸ below_alloc w _
  have hx0 : w0.heap[w.heap.size]? = some (.cells #[.slice ta tn tc, .slice ma mn mc, .slice sa sn sc] 26) := by rw [← hw0]; exact heap_alloc_new w _
  have hs0 : w.heap.size < w0.heap.size := by rw [← hw0]; simp
  obtain ⟨c0, c1, c2⟩ := box3v hx0
  have HV := Lib.hid (hV.below hb0)
  have HB0 := Lib.hid hb0
  have HX0 := Lib.hid hx0
  have HW0 := Lib.hid hw0
  have HLT := Lib.hid hV.tok.count
  have hpn := pairNew_calls (dd := ⟨ta, tn, tc, ma, mn, mc, sa, sn, sc⟩) w0 HV.out hok
  clear hV hb0 hx0 hw0
  go_enter Tryz.func30, Tryz.ntmps30
  go_wp2_with (fail)
  rw [HW0.out]
  refine hpn.mono ?_
  rintro e w1 ⟨⟨hno, rfl⟩ | ⟨hmay, pg, rfl, hpt⟩, hb1⟩
  · have HF := Lib.hid hno
    have HB1 := Lib.hid hb1
    clear hb1 hno hpn
    go_wp2_with (fail)
    refine bodyPost_ret (v := .tuple #[.pointer none, .int .i64 2]) ?_ rfl ⟨.inl ⟨HF.out, rfl⟩, HB0.out.trans (HB1.out.mono HB0.out.size)⟩
    simp [results, Tryz.results30, go_sem]
  · have HM := Lib.hid hmay
    have HB1 := Lib.hid hb1
    clear c0 c1 c2
    obtain ⟨c0, c1, c2⟩ := box3v ((HB1.out.block w.heap.size hs0).trans HX0.out)
    have htn : tn ≤ 4096 := by have h1 := HM.out.1.1; have := HLT.out; omega
    have hcl := cloneStr_calls w1 ((HV.out.below HB1.out).tok.flat) (by show tn ≤ 1048576; omega)
    clear hb1 hmay hpn
    go_wp2_with (fail)
    refine hcl.mono ?_
    rintro e w2 ⟨v2, rfl, ho2, hb2⟩
    obtain ⟨to_, tcc, rfl, _⟩ := ho2.sl
    have hml : V.tokens.length = tn := HLT.out
    rw [hml] at ho2
    have HO2 := Lib.hid ho2
    have HPT := Lib.hid hpt
    rw [hml]
    have HML := Lib.hid hml
    have HB2 := Lib.hid (HB1.out.trans (hb2.mono HB1.out.size))
    have HB12 := Lib.hid hb2
    obtain ⟨cs0, hcs0⟩ : ∃ cs0, (Tryz.zeroCells116.setIfInBounds 0 (Value.slice to_ tn tcc)).setIfInBounds 1 (Value.pointer (some ⟨pg, 0, none⟩)) = cs0 := ⟨_, rfl⟩
    have hz0 : Tryz.zeroCells116.size = 258 := by kernel_rfl
    have hz1 : cs0.size = 258 := by rw [← hcs0]; simp [hz0]
    have hz2 : cs0[0]? = some (Value.slice to_ tn tcc) := by rw [← hcs0]; simp [hz0]
    have hz3 : cs0[1]? = some (Value.pointer (some ⟨pg, 0, none⟩)) := by rw [← hcs0]; simp [hz0]
    obtain ⟨w3, hw3⟩ : ∃ w3, w2.alloc (.cells cs0 116) = w3 := ⟨_, rfl⟩
    have hb3 : Below w2.heap.size w2 w3 := hw3 ▸ below_alloc w2 _
    have hx3 : w3.heap[w2.heap.size]? = some (.cells cs0 116) := by rw [← hw3]; exact heap_alloc_new w2 _
    have hs3 : w2.heap.size < w3.heap.size := by rw [← hw3]; simp
    have HX3 := Lib.hid hx3
    have HB3 := Lib.hid hb3
    have HW3 := Lib.hid hw3
    have HCS := Lib.hid hcs0
    have HZ := Lib.hid (And.intro hz1 (And.intro hz2 hz3))
    clear hcl ho2 hpt hml hb2 hb3 hx3 hw3 hcs0 hz0 hz1 hz2 hz3
    go_wp2_with (fail)
    rw [HCS.out, HW3.out]
    clear c0 c1 c2
    go_loopw [22] (fun i wr => ∃ (k : Nat) (cs : Array Value), k ≤ 256 ∧ i = .int .i64 k ∧ wr.heap[w2.heap.size]? = some (.cells cs 116) ∧ Hid (ECs V.tokens (.slice to_ tn tcc) pg k cs) ∧ KeepG w2.heap.size w3 wr ∧ Below w2.heap.size w2 wr) (fun i _ => 256 - (intOf i).toNat)
    case atStart => exact ⟨0, cs0, by omega, rfl, HX3.out, Lib.hid ⟨HZ.out.1, HZ.out.2.1, HZ.out.2.2, fun i h => by omega⟩, KeepG.refl _ _, HB3.out⟩
    case round =>
      obtain ⟨k, cs, hk, rfl, hxg, HC, hkp, hb⟩ := hrel
      have HXG := Lib.hid hxg
      have HKP := Lib.hid hkp
      have HB := Lib.hid hb
      have hsg := Nat.lt_of_lt_of_le hs3 hkp.size
      have HBW : Hid (Below w0.heap.size w0 wr) := Lib.hid (HB2.out.trans (hb.mono HB2.out.size))
      obtain ⟨c0, c1, c2⟩ := box3v ((HBW.out.block w.heap.size hs0).trans HX0.out)
      clear hxg hkp hb
      by_cases hlt : k < 256
      · have hw8 : IntKind.u8.wrap (k : Int) = (k : Int) := by rw [IntKind.wrap_u8]; omega
        have hcv : (convert 102 9 (.slice (some ⟨wr.heap.size, 0, none⟩) 1 1)).run Tryz.prog (wr.alloc (.cells #[.int .u8 (k : Int)] 5)).drew = .ok (.string (one k)) (wr.alloc (.cells #[.int .u8 (k : Int)] 5)).drew := conv_one wr.drew k
        obtain ⟨old, hold⟩ : ∃ old, cs[2 + k]? = some old := ⟨_, Array.getElem?_eq_getElem (by have := HC.out.1; omega)⟩
        have hof : ∀ w', Below wr.heap.size wr w' → Calls Tryz.prog 59 #[.agg #[.slice ta tn tc, .slice ma mn mc, .slice sa sn sc], .string (one k)] w' fun e w9 => e = .returned (.int .i64 (ofT V.tokens (one k))) ∧ Below wr.heap.size wr w9 ∧ w9.cell? ⟨w2.heap.size, 2 + k, none⟩ = some old ∧ w9.frozen? ⟨w2.heap.size, 2 + k, none⟩ = false := fun w' hb' =>
          (of_calls (d := ⟨ta, tn, tc, ma, mn, mc, sa, sn, sc⟩) (one k) w' ((HV.out.below HBW.out).below hb')).mono fun e w9 ⟨h1, h2⟩ => by
            have h3 := hb'.trans (h2.mono hb'.size)
            have h4 := (h3.block w2.heap.size hsg).trans HXG.out
            exact ⟨h1, h3, by simp [World.cell?, h4, hold], by simp [World.frozen?, h4]⟩
        have hkb : (k : Int) < 256 := by omega
        have hwlt : w.heap.size < wr.heap.size := Nat.lt_of_lt_of_le hs0 HBW.out.size
        obtain ⟨e0, e1, e2⟩ : _ ∧ _ ∧ _ := ⟨cell_below (below_alloc wr (.cells #[.int .u8 (k : Int)] 5)) _ _ c0, cell_below (below_alloc wr (.cells #[.int .u8 (k : Int)] 5)) _ _ c1, cell_below (below_alloc wr (.cells #[.int .u8 (k : Int)] 5)) _ _ c2⟩
        have hkc : (2 : Nat) + k * 1 = 2 + k := by omega
        clear hold
        go_wp2_with (fail)
        go_region_with (first
          | (go_at_call 59; refine (hof _ (by exact ((Below.refl _ _).alloc (Nat.le_refl _) _).drew)).mono ?_; rintro e w9 ⟨rfl, hb9, hc9, hf9⟩))
        all_goals (have hst := set_cellN (i := 2 + k) (v := .int .i64 (ofT V.tokens (one k))) ((hb9.block w2.heap.size hsg).trans HXG.out)
                   have HST := Lib.hid hst
                   have HB9 := Lib.hid hb9
                   clear hst hb9
                   go_wp2_with (fail)
                   go_roundw
                   case rel => exact ⟨k + 1, _, by omega, by go_num, HST.out, ECs.next HC hlt, (HKP.out.below HB9.out).set _ _, (HB.out.trans (HB9.out.mono HB.out.size)).setCell (Nat.le_refl _) _⟩
                   case measure => simp [intOf]; omega)
      · obtain rfl : k = 256 := by omega
        go_wp2_with (fail)
        refine bodyPost_ret (v := .tuple #[.pointer (some ⟨w2.heap.size, 0, none⟩), .int .i64 0]) ?_ rfl ⟨.inr ⟨HM.out, w2.heap.size, rfl, ?_⟩, ?_⟩
        · simp [results, Tryz.results30, go_sem]
        · have g1 := HB1.out.size
          have g2 := HB0.out.size
          have g3 := HB2.out.size
          refine ⟨by omega, cs, to_, tcc, pg, HXG.out, by rw [HML.out]; exact HC.out, ?_, ?_⟩
          · rw [HML.out]
            exact OwnF.mono (base := w1.heap.size) (OwnF.keepG (HO2.out.below HB3.out) HKP.out fun q hq => by have := (World.ownsRow.lt HO2.out q hq).2; omega) (by omega)
          · have s1 := HB12.out.size
            have s2 := HB3.out.size
            have s3 := HKP.out.size
            exact PTab.mono (HPT.out.keep (fun q h1 h2 => (HKP.out.block q (by omega) (by omega)).trans ((HB3.out.block q (by omega)).trans (HB12.out.block q h2))) (by omega)) g2
        · exact HB0.out.trans ((HB2.out.trans (HB.out.mono HB2.out.size)).mono HB0.out.size)

end Go.Proofs.YtnadelmbkaoeeaaGreatDoor

/- Walks: vocab.Bytes, vocab.Name, vocab.ID. (Printed by gLook.py.) -/
namespace Go.Proofs.YtnadelmbkaoeeaaGreatDoor
open Go.RowKit
set_option linter.unusedVariables false

def ixOf : Option Nat → Int
  | some i => i
  | none => -1
theorem ix_hit {S : List Sp} {p : Sp → Bool} {k : Nat} (hk : k < S.length) (hp : p (sp S k) = true) (hno : ∀ j, j < k → p (sp S j) = false) : S.findIdx? p = some k := by
  rw [List.findIdx?_eq_some_iff_getElem]
  exact ⟨hk, by rw [sp_get hk]; exact hp, fun j hj => by rw [sp_get (by omega), hno j hj]; simp⟩
theorem ix_miss {S : List Sp} {p : Sp → Bool} (hno : ∀ j, j < S.length → p (sp S j) = false) : S.findIdx? p = none := by
  rw [List.findIdx?_eq_none_iff]
  intro x hx
  obtain ⟨j, hj, rfl⟩ := List.getElem_of_mem hx
  rw [sp_get hj]; exact hno j hj
theorem find_cases (S : List Sp) (p : Sp → Bool) : (S.findIdx? p = none ∧ S.find? p = none) ∨ ∃ i, i < S.length ∧ S.findIdx? p = some i ∧ S.find? p = some (sp S i) := by
  cases h : S.findIdx? p with
  | none =>
    left
    rw [List.findIdx?_eq_none_iff] at h
    exact ⟨rfl, by rw [List.find?_eq_none]; intro x hx; rw [h x hx]; simp⟩
  | some i =>
    right
    obtain ⟨h1, h2, h3⟩ := List.findIdx?_eq_some_iff_getElem.1 h
    refine ⟨i, h1, rfl, ?_⟩
    rw [List.find?_eq_some_iff_getElem]
    exact ⟨by rw [sp_get h1] at h2; exact h2, i, h1, sp_get h1, fun j hj => by simpa using h3 j hj⟩

set_option maxHeartbeats 400000 in
theorem nameF_calls (x : Sp) {g : Nat} {id : Int} (w : World) (hg : w.cell? ⟨g, 0, none⟩ = some (.int .i64 id)) :
    Calls Tryz.prog 70 #[.agg #[.string x.name, .int .i64 x.id], .pointer (some ⟨g, 0, none⟩)] w fun e w' => e = .returned (.bool (decide (x.id = id))) ∧ Below w.heap.size w w' := by
  have hc := cell_below (below_alloc w (.cells #[.string x.name, .int .i64 x.id] 82)) _ _ hg
  by_cases h : x.id = id
  · have HF : Hid (decide (x.id = id) = true) := Lib.hid (by simp [h])
    have he : (x.id == id) = true := by simpa using h
    clear h
    go_enter Tryz.func70, Tryz.ntmps70
    go_wp2
    go_ret
    exact ⟨by rw [HF.out]; rfl, below_alloc w _⟩
  · have HF : Hid (decide (x.id = id) = false) := Lib.hid (by simp [h])
    have he : (x.id == id) = false := by simpa using h
    clear h
    go_enter Tryz.func70, Tryz.ntmps70
    go_wp2
    go_ret
    exact ⟨by rw [HF.out]; rfl, below_alloc w _⟩

set_option maxHeartbeats 400000 in
theorem idF_calls (x : Sp) {g : Nat} {nm : ByteArray} (w : World) (hg : w.cell? ⟨g, 0, none⟩ = some (.string nm)) :
    Calls Tryz.prog 62 #[.agg #[.string x.name, .int .i64 x.id], .pointer (some ⟨g, 0, none⟩)] w fun e w' => e = .returned (.bool (decide (x.name = nm))) ∧ Below w.heap.size w w' := by
  have hc := cell_below (below_alloc w (.cells #[.string x.name, .int .i64 x.id] 82)) _ _ hg
  by_cases h : x.name = nm
  · have HF : Hid (decide (x.name = nm) = true) := Lib.hid (by simp [h])
    have he := beqS_yes h
    clear h
    go_enter Tryz.func62, Tryz.ntmps62
    go_wp2
    go_ret
    exact ⟨by rw [HF.out]; rfl, below_alloc w _⟩
  · have HF : Hid (decide (x.name = nm) = false) := Lib.hid (by simp [h])
    have he := beqS_no h
    clear h
    go_enter Tryz.func62, Tryz.ntmps62
    go_wp2
    go_ret
    exact ⟨by rw [HF.out]; rfl, below_alloc w _⟩

set_option maxHeartbeats 1000000 in
theorem nameI_calls {S : List Sp} {so : Option Addr} {sn sc g : Nat} {id : Int} (w : World) (hS : SlF 2 w so sn sc (flat Sp.enc S)) (hg : w.cell? ⟨g, 0, none⟩ = some (.int .i64 id)) :
    Calls Tryz.prog 61 #[.slice so sn sc, .func (.func 70) #[] #[.pointer (some ⟨g, 0, none⟩)]] w fun e w' => e = .returned (.int .i64 (ixOf (S.findIdx? (fun x => decide (x.id = id))))) ∧ Below w.heap.size w w' := by
  have hm := Nat.le_trans hS.le hS.max
  unfold maxLen at hm
  have HLS := Lib.hid (hS.count Sp.enc_len (by omega))
  have HS := Lib.hid hS
  have HG := Lib.hid hg
  clear hS hg
  go_enter Tryz.func61, Tryz.ntmps61
  go_wp2_with (fail)
  go_loopw [5, 8] (fun _ i wr => ∃ k : Nat, k ≤ sn ∧ i = .int .i64 k ∧ Hid (∀ j, j < k → (fun x : Sp => decide (x.id = id)) (sp S j) = false) ∧ Below w.heap.size w wr) (fun _ i _ => sn - (intOf i).toNat)
  case atStart => exact ⟨0, Nat.zero_le _, rfl, Lib.hid (fun j h => by omega), Below.refl _ _⟩
  case round =>
    obtain ⟨k, hk, rfl, HK, hb⟩ := hrel
    have HB := Lib.hid hb
    clear hb
    by_cases hlt : k < sn
    · have hkS : k < S.length := by have := HLS.out; omega
      obtain ⟨b, of, rfl, hce⟩ := (HS.out.below HB.out).elem Sp.enc_len (by omega) (sp_eq hkS)
      have d0 := hce 0 _ rfl
      have d1 := hce 1 _ rfl
      rw [Nat.add_zero] at d0
      clear hce
      have hcl := nameF_calls (sp S k) (id := id) wr (cell_below HB.out _ _ HG.out)
      obtain ⟨bv, hbv⟩ : ∃ bv, (fun x : Sp => decide (x.id = id)) (sp S k) = bv := ⟨_, rfl⟩
      have hbv' := hbv
      simp only at hbv'
      rw [hbv'] at hcl
      clear hbv'
      go_wp2_with (fail)
      refine hcl.mono ?_
      rintro e w2 ⟨rfl, hb2⟩
      have HB2 := Lib.hid (HB.out.trans (hb2.mono HB.out.size))
      cases bv with
      | true =>
        have HF := Lib.hid (ix_hit (p := fun x => decide (x.id = id)) hkS hbv HK.out)
        clear hbv
        go_wp2_with (fail)
        go_ret
        exact ⟨by rw [HF.out]; rfl, HB2.out⟩
      | false =>
        have HK2 : Hid (∀ j, j < k + 1 → (fun x : Sp => decide (x.id = id)) (sp S j) = false) := Lib.hid (fun j hj => by
          by_cases e : j = k
          · subst e; exact hbv
          · exact HK.out j (by omega))
        clear hbv
        go_wp2_with (fail)
        go_roundw
        case rel => exact ⟨k + 1, by omega, by go_num, HK2, HB2.out⟩
        case measure => simp [intOf]; omega
    · have HF := Lib.hid (ix_miss (p := fun x => decide (x.id = id)) (S := S) (fun j hj => HK.out j (by have := HLS.out; omega)))
      go_wp2_with (fail)
      go_ret
      exact ⟨by rw [HF.out]; rfl, HB.out⟩

set_option maxHeartbeats 1000000 in
theorem idI_calls {S : List Sp} {so : Option Addr} {sn sc g : Nat} {nm : ByteArray} (w : World) (hS : SlF 2 w so sn sc (flat Sp.enc S)) (hg : w.cell? ⟨g, 0, none⟩ = some (.string nm)) :
    Calls Tryz.prog 61 #[.slice so sn sc, .func (.func 62) #[] #[.pointer (some ⟨g, 0, none⟩)]] w fun e w' => e = .returned (.int .i64 (ixOf (S.findIdx? (fun x => decide (x.name = nm))))) ∧ Below w.heap.size w w' := by
  have hm := Nat.le_trans hS.le hS.max
  unfold maxLen at hm
  have HLS := Lib.hid (hS.count Sp.enc_len (by omega))
  have HS := Lib.hid hS
  have HG := Lib.hid hg
  clear hS hg
  go_enter Tryz.func61, Tryz.ntmps61
  go_wp2_with (fail)
  go_loopw [5, 8] (fun _ i wr => ∃ k : Nat, k ≤ sn ∧ i = .int .i64 k ∧ Hid (∀ j, j < k → (fun x : Sp => decide (x.name = nm)) (sp S j) = false) ∧ Below w.heap.size w wr) (fun _ i _ => sn - (intOf i).toNat)
  case atStart => exact ⟨0, Nat.zero_le _, rfl, Lib.hid (fun j h => by omega), Below.refl _ _⟩
  case round =>
    obtain ⟨k, hk, rfl, HK, hb⟩ := hrel
    have HB := Lib.hid hb
    clear hb
    by_cases hlt : k < sn
    · have hkS : k < S.length := by have := HLS.out; omega
      obtain ⟨b, of, rfl, hce⟩ := (HS.out.below HB.out).elem Sp.enc_len (by omega) (sp_eq hkS)
      have d0 := hce 0 _ rfl
      have d1 := hce 1 _ rfl
      rw [Nat.add_zero] at d0
      clear hce
      have hcl := idF_calls (sp S k) (nm := nm) wr (cell_below HB.out _ _ HG.out)
      obtain ⟨bv, hbv⟩ : ∃ bv, (fun x : Sp => decide (x.name = nm)) (sp S k) = bv := ⟨_, rfl⟩
      have hbv' := hbv
      simp only at hbv'
      rw [hbv'] at hcl
      clear hbv'
      go_wp2_with (fail)
      refine hcl.mono ?_
      rintro e w2 ⟨rfl, hb2⟩
      have HB2 := Lib.hid (HB.out.trans (hb2.mono HB.out.size))
      cases bv with
      | true =>
        have HF := Lib.hid (ix_hit (p := fun x => decide (x.name = nm)) hkS hbv HK.out)
        clear hbv
        go_wp2_with (fail)
        go_ret
        exact ⟨by rw [HF.out]; rfl, HB2.out⟩
      | false =>
        have HK2 : Hid (∀ j, j < k + 1 → (fun x : Sp => decide (x.name = nm)) (sp S j) = false) := Lib.hid (fun j hj => by
          by_cases e : j = k
          · subst e; exact hbv
          · exact HK.out j (by omega))
        clear hbv
        go_wp2_with (fail)
        go_roundw
        case rel => exact ⟨k + 1, by omega, by go_num, HK2, HB2.out⟩
        case measure => simp [intOf]; omega
    · have HF := Lib.hid (ix_miss (p := fun x => decide (x.name = nm)) (S := S) (fun j hj => HK.out j (by have := HLS.out; omega)))
      go_wp2_with (fail)
      go_ret
      exact ⟨by rw [HF.out]; rfl, HB.out⟩

set_option maxHeartbeats 1000000 in
theorem name_calls {V : Vc} {dd : Vd} (id : Int) (w : World) (hV : VocR w dd V) :
    Calls Tryz.prog 45 #[dd.val, .int .i64 id] w fun e w' => e = .returned (.tuple #[.string (nmOf (spBy V.specials id)), .bool (spBy V.specials id).isSome]) ∧ Below w.heap.size w w' := by
  obtain ⟨ta, tn, tc, ma, mn, mc, sa, sn, sc⟩ := dd
  obtain ⟨w0, hw0⟩ : ∃ w0, (w.alloc (.cells #[.slice ta tn tc, .slice ma mn mc, .slice sa sn sc] 26)).alloc (.cells #[.int .i64 id] 3) = w0 := ⟨_, rfl⟩
  have hb0 : Below w.heap.size w w0 := hw0 ▸ (below_alloc w _).alloc (by simp) _
  have hs0 : w0.heap.size = w.heap.size + 2 := by rw [← hw0]; simp
  have hx0 : w0.heap[w.heap.size]? = some (.cells #[.slice ta tn tc, .slice ma mn mc, .slice sa sn sc] 26) := by rw [← hw0, (below_alloc _ _).block _ (by simp)]; exact heap_alloc_new w _
  have hx1 : w0.heap[w.heap.size + 1]? = some (.cells #[.int .i64 id] 3) := by
    rw [← hw0]
    have := heap_alloc_new (w.alloc (.cells #[.slice ta tn tc, .slice ma mn mc, .slice sa sn sc] 26)) (.cells #[.int .i64 id] 3)
    simpa using this
  obtain ⟨c0, c1, c2⟩ := box3v hx0
  have HV := Lib.hid (hV.below hb0)
  have HB0 := Lib.hid hb0
  have HW0 := Lib.hid hw0
  have HX0 := Lib.hid hx0
  have hnl := hV.spc.count Sp.enc_len (by omega)
  simp only at hnl
  have HNL := Lib.hid hnl
  have hm := Nat.le_trans hV.spc.le hV.spc.max
  simp only at hm
  unfold maxLen at hm
  have hI := nameI_calls (id := id) (g := w.heap.size + 1) w0 HV.out.spc (by simp [World.cell?, hx1])
  clear hV hb0 hx0 hx1 hw0 hnl
  go_enter Tryz.func45, Tryz.ntmps45
  go_wp2_with (fail)
  rw [HW0.out]
  refine hI.mono ?_
  rintro e w1 ⟨rfl, hb1⟩
  have HB1 := Lib.hid (HB0.out.trans (hb1.mono HB0.out.size))
  have HV1 := Lib.hid (HV.out.below hb1)
  clear c0 c1 c2
  obtain ⟨c0, c1, c2⟩ := box3v ((hb1.block w.heap.size (by omega)).trans HX0.out)
  clear hb1 hI
  rcases find_cases V.specials (fun x => decide (x.id = id)) with ⟨e1, e2⟩ | ⟨i, hi, e1, e2⟩
  · rw [e1]
    simp only [ixOf]
    have HE : Hid (spBy V.specials id = none) := Lib.hid e2
    clear e1 e2
    go_wp2
    refine bodyPost_ret (v := .tuple #[.string ByteArray.empty, .bool false]) ?_ rfl ⟨by rw [HE.out]; rfl, HB1.out⟩
    simp [results, Tryz.results45, go_sem]; try rfl
  · rw [e1]
    simp only [ixOf]
    have HE : Hid (spBy V.specials id = some (sp V.specials i)) := Lib.hid e2
    have hin : i < sn := by have := HNL.out; omega
    obtain ⟨b, of, hao, hce⟩ := HV1.out.spc.elem Sp.enc_len (by omega) (sp_eq hi)
    simp only at hao
    subst hao
    have d0 := hce 0 _ rfl
    have d1 := hce 1 _ rfl
    rw [Nat.add_zero] at d0
    have hng : ¬ (i : Int) < 0 := by omega
    clear e1 e2 hce hi
    go_wp2
    refine bodyPost_ret (v := .tuple #[.string (sp V.specials i).name, .bool true]) ?_ rfl ⟨by rw [HE.out]; rfl, HB1.out⟩
    simp [results, Tryz.results45, go_sem]

set_option maxHeartbeats 1000000 in
theorem id_calls {V : Vc} {dd : Vd} (nm : ByteArray) (w : World) (hV : VocR w dd V) :
    Calls Tryz.prog 38 #[dd.val, .string nm] w fun e w' => e = .returned (.int .i64 (idOf (spNamed V.specials nm))) ∧ Below w.heap.size w w' := by
  obtain ⟨ta, tn, tc, ma, mn, mc, sa, sn, sc⟩ := dd
  obtain ⟨w0, hw0⟩ : ∃ w0, (w.alloc (.cells #[.slice ta tn tc, .slice ma mn mc, .slice sa sn sc] 26)).alloc (.cells #[.string nm] 9) = w0 := ⟨_, rfl⟩
  have hb0 : Below w.heap.size w w0 := hw0 ▸ (below_alloc w _).alloc (by simp) _
  have hs0 : w0.heap.size = w.heap.size + 2 := by rw [← hw0]; simp
  have hx0 : w0.heap[w.heap.size]? = some (.cells #[.slice ta tn tc, .slice ma mn mc, .slice sa sn sc] 26) := by rw [← hw0, (below_alloc _ _).block _ (by simp)]; exact heap_alloc_new w _
  have hx1 : w0.heap[w.heap.size + 1]? = some (.cells #[.string nm] 9) := by
    rw [← hw0]
    have := heap_alloc_new (w.alloc (.cells #[.slice ta tn tc, .slice ma mn mc, .slice sa sn sc] 26)) (.cells #[.string nm] 9)
    simpa using this
  obtain ⟨c0, c1, c2⟩ := box3v hx0
  have HV := Lib.hid (hV.below hb0)
  have HB0 := Lib.hid hb0
  have HW0 := Lib.hid hw0
  have HX0 := Lib.hid hx0
  have hnl := hV.spc.count Sp.enc_len (by omega)
  simp only at hnl
  have HNL := Lib.hid hnl
  have hm := Nat.le_trans hV.spc.le hV.spc.max
  simp only at hm
  unfold maxLen at hm
  have hI := idI_calls (nm := nm) (g := w.heap.size + 1) w0 HV.out.spc (by simp [World.cell?, hx1])
  clear hV hb0 hx0 hx1 hw0 hnl
  go_enter Tryz.func38, Tryz.ntmps38
  go_wp2_with (fail)
  rw [HW0.out]
  refine hI.mono ?_
  rintro e w1 ⟨rfl, hb1⟩
  have HB1 := Lib.hid (HB0.out.trans (hb1.mono HB0.out.size))
  have HV1 := Lib.hid (HV.out.below hb1)
  clear c0 c1 c2
  obtain ⟨c0, c1, c2⟩ := box3v ((hb1.block w.heap.size (by omega)).trans HX0.out)
  clear hb1 hI
  rcases find_cases V.specials (fun x => decide (x.name = nm)) with ⟨e1, e2⟩ | ⟨i, hi, e1, e2⟩
  · rw [e1]
    simp only [ixOf]
    have HE : Hid (spNamed V.specials nm = none) := Lib.hid e2
    clear e1 e2
    go_wp2
    (go_ret; exact ⟨by rw [HE.out]; rfl, HB1.out⟩)
  · rw [e1]
    simp only [ixOf]
    have HE : Hid (spNamed V.specials nm = some (sp V.specials i)) := Lib.hid e2
    have hin : i < sn := by have := HNL.out; omega
    obtain ⟨b, of, hao, hce⟩ := HV1.out.spc.elem Sp.enc_len (by omega) (sp_eq hi)
    simp only at hao
    subst hao
    have d0 := hce 0 _ rfl
    have d1 := hce 1 _ rfl
    rw [Nat.add_zero] at d0
    have hng : ¬ (i : Int) < 0 := by omega
    clear e1 e2 hce hi
    go_wp2
    (go_ret; exact ⟨by rw [HE.out]; rfl, HB1.out⟩)

/-- A token's bytes, as the program tells them. -/
def bytesOf (T : List ByteArray) (i : Int) : ByteArray := if isTk T i = true then tk T i.toNat else ByteArray.empty
set_option maxHeartbeats 1000000 in
theorem vbytes_calls {V : Vc} {dd : Vd} (id : Int) (w : World) (hV : VocR w dd V) :
    Calls Tryz.prog 44 #[dd.val, .int .i64 id] w fun e w' => e = .returned (.tuple #[.string (bytesOf V.tokens id), .bool (isTk V.tokens id)]) ∧ Below w.heap.size w w' := by
  obtain ⟨ta, tn, tc, ma, mn, mc, sa, sn, sc⟩ := dd
  obtain ⟨w0, hw0⟩ : ∃ w0, w.alloc (.cells #[.slice ta tn tc, .slice ma mn mc, .slice sa sn sc] 26) = w0 := ⟨_, rfl⟩
  have hb0 : Below w.heap.size w w0 := hw0 ▸ below_alloc w _
  have hx0 : w0.heap[w.heap.size]? = some (.cells #[.slice ta tn tc, .slice ma mn mc, .slice sa sn sc] 26) := by rw [← hw0]; exact heap_alloc_new w _
  obtain ⟨c0, c1, c2⟩ := box3v hx0
  have HV := Lib.hid (hV.below hb0)
  have HB0 := Lib.hid hb0
  have HW0 := Lib.hid hw0
  have HL := Lib.hid HV.out.tok.count
  clear hV hb0 hx0 hw0
  have hI := is_calls (T := V.tokens) id w0 HV.out.tok
  go_enter Tryz.func44, Tryz.ntmps44
  go_wp2_with (fail)
  rw [HW0.out]
  refine hI.mono ?_
  rintro e w1 ⟨rfl, rfl⟩
  cases hi : isTk V.tokens id with
  | false =>
    have HF : Hid (bytesOf V.tokens id = ByteArray.empty ∧ isTk V.tokens id = false) := Lib.hid ⟨by unfold bytesOf; rw [hi]; rfl, hi⟩
    clear hi hI
    go_wp2
    refine bodyPost_ret (v := .tuple #[.string ByteArray.empty, .bool false]) ?_ rfl ⟨by rw [HF.out.1, HF.out.2], HB0.out⟩
    simp [results, Tryz.results44, go_sem]; try rfl
  | true =>
    have HF : Hid (bytesOf V.tokens id = tk V.tokens id.toNat ∧ isTk V.tokens id = true) := Lib.hid ⟨by unfold bytesOf; rw [if_pos hi], hi⟩
    obtain ⟨h1, h2, _⟩ := isTk_iff.1 hi
    clear hi hI
    obtain ⟨k, rfl⟩ := Int.eq_ofNat_of_zero_le h1
    have hk : k < V.tokens.length := by omega
    have hkn : k < tn := by have := HL.out; omega
    obtain ⟨b, o, hao, hc⟩ := HV.out.tok.cell (tk_eq hk)
    simp only at hao
    subst hao
    clear h2 hk
    go_wp2
    refine bodyPost_ret (v := .tuple #[.string (tk V.tokens k), .bool true]) ?_ rfl ⟨by rw [HF.out.1, HF.out.2]; rfl, HB0.out⟩
    simp [results, Tryz.results44, go_sem]

end Go.Proofs.YtnadelmbkaoeeaaGreatDoor

/- The cache in memory: its seven fields, its nodes; what stores do to them. Plain lemmas. -/
namespace Go.Proofs.YtnadelmbkaoeeaaGreatDoor
open Go.RowKit
set_option linter.unusedVariables false
set_option linter.unusedSimpArgs false

/-- A node: a key, a row of numbers (where it lies), the places of the elder and the younger one. -/
structure Nd where
  key : ByteArray
  ro : Option Addr
  rn : Nat
  rc : Nat
  el : Int
  yo : Int

def ndCells (n : Nd) : List Value := [.string n.key, .slice n.ro n.rn n.rc, .int .i64 n.el, .int .i64 n.yo]

/-- m nodes at the head of block nb, with room for cap. -/
structure Nds (w : World) (nb m cap : Nat) (N : Nat → Nd) : Prop where
  le : m ≤ cap
  max : cap ≤ maxLen
  blk : ∃ cur : List Value, w.heap[nb]? = some (.cells cur.toArray 211 (0, 0)) ∧ cur.length = cap * 4 ∧ ∀ i, i < m → ∀ j, j < 4 → cur[i * 4 + j]? = (ndCells (N i))[j]?

theorem Nds.cell {w : World} {nb m cap : Nat} {N : Nat → Nd} (h : Nds w nb m cap N) {i : Nat} (hi : i < m) {j : Nat} (hj : j < 4) : w.cell? ⟨nb, i * 4 + j, none⟩ = (ndCells (N i))[j]? := by
  obtain ⟨cur, hb, hl, hc⟩ := h.blk
  simp only [World.cell?, hb]
  simpa using hc i hi j hj

theorem Nds.free {w : World} {nb m cap : Nat} {N : Nat → Nd} (h : Nds w nb m cap N) (o : Nat) : w.frozen? ⟨nb, o, none⟩ = false := by
  obtain ⟨cur, hb, _⟩ := h.blk
  simp only [World.frozen?, hb]
  simp

theorem Nds.lt {w : World} {nb m cap : Nat} {N : Nat → Nd} (h : Nds w nb m cap N) : nb < w.heap.size := by
  obtain ⟨cur, hb, _⟩ := h.blk
  rcases Nat.lt_or_ge nb w.heap.size with h' | h'
  · exact h'
  · rw [Array.getElem?_eq_none h'] at hb; cases hb

theorem Nds.stay {w w' : World} {nb m cap : Nat} {N : Nat → Nd} (h : Nds w nb m cap N) (hb : w'.heap[nb]? = w.heap[nb]?) : Nds w' nb m cap N := by
  obtain ⟨cur, h1, h2, h3⟩ := h.blk
  exact ⟨h.le, h.max, cur, hb.trans h1, h2, h3⟩

/-- Node i is another one now. -/
def upd {α : Type} (N : Nat → α) (i : Nat) (x : α) : Nat → α := fun k => if k = i then x else N k
theorem upd_same {α : Type} (N : Nat → α) (i : Nat) (x : α) : upd N i x i = x := by simp [upd]
theorem upd_other {α : Type} (N : Nat → α) (i k : Nat) (x : α) (h : k ≠ i) : upd N i x k = N k := by simp [upd, h]

/-- A store into cell j of node i. -/
theorem Nds.store {w : World} {nb m cap : Nat} {N : Nat → Nd} (h : Nds w nb m cap N) {i : Nat} (hi : i < m) {j : Nat} (hj : j < 4) (v : Value) (n' : Nd) (hn : ndCells n' = (ndCells (N i)).set j v) :
    Nds (w.setCell ⟨nb, i * 4 + j, none⟩ v) nb m cap (upd N i n') := by
  obtain ⟨cur, hb, hl, hc⟩ := h.blk
  refine ⟨h.le, h.max, cur.set (i * 4 + j) v, ?_, by simpa using hl, ?_⟩
  · rw [heap_setCell_same w nb _ cur.toArray _ v hb]
    simp
  · intro i' hi' j' hj'
    by_cases e : i' = i
    · subst e
      rw [upd_same, hn]
      by_cases ej : j' = j
      · subst ej
        have h4 : j' < (ndCells (N i')).length := by simp [ndCells]; omega
        have hl' := h.le
        have h5 : i' * 4 + j' < cur.length := by rw [hl]; omega
        simp [h4, h5]
      · rw [List.getElem?_set, List.getElem?_set, if_neg (by omega), if_neg (fun e => ej e.symm)]
        exact hc i' hi' j' hj'
    · rw [upd_other _ _ _ _ e, List.getElem?_set, if_neg (by omega)]
      exact hc i' hi' j' hj'

/-- The cache's own seven fields. -/
structure Flds (w : World) (cb : Nat) (nodes : Value) (mb : Nat) (e y room hits misses : Int) : Prop where
  f0 : w.cell? ⟨cb, 0, none⟩ = some nodes
  f1 : w.cell? ⟨cb, 1, none⟩ = some (.map (some mb))
  f2 : w.cell? ⟨cb, 2, none⟩ = some (.int .i64 e)
  f3 : w.cell? ⟨cb, 3, none⟩ = some (.int .i64 y)
  f4 : w.cell? ⟨cb, 4, none⟩ = some (.int .i64 room)
  f5 : w.cell? ⟨cb, 5, none⟩ = some (.int .i64 hits)
  f6 : w.cell? ⟨cb, 6, none⟩ = some (.int .i64 misses)
  ff : ∀ o, w.frozen? ⟨cb, o, none⟩ = false

theorem Flds.stay {w w' : World} {cb : Nat} {nodes : Value} {mb : Nat} {e y room hits misses : Int} (h : Flds w cb nodes mb e y room hits misses) (hb : w'.heap[cb]? = w.heap[cb]?) : Flds w' cb nodes mb e y room hits misses := by
  have hc : ∀ o, w'.cell? ⟨cb, o, none⟩ = w.cell? ⟨cb, o, none⟩ := fun o => World.cell?_of_block (w := w) hb
  have hf : ∀ o, w'.frozen? ⟨cb, o, none⟩ = w.frozen? ⟨cb, o, none⟩ := fun o => World.frozen?_of_block (w := w) hb
  exact ⟨(hc 0).trans h.f0, (hc 1).trans h.f1, (hc 2).trans h.f2, (hc 3).trans h.f3, (hc 4).trans h.f4, (hc 5).trans h.f5, (hc 6).trans h.f6, fun o => (hf o).trans (h.ff o)⟩

theorem cell_set_same {w : World} {b o : Nat} {u v : Value} (h : w.cell? ⟨b, o, none⟩ = some u) : (w.setCell ⟨b, o, none⟩ v).cell? ⟨b, o, none⟩ = some v := by
  simp [go_sem, h]
theorem cell_set_off {w : World} {b o o' : Nat} {v : Value} (h : o' ≠ o) : (w.setCell ⟨b, o, none⟩ v).cell? ⟨b, o', none⟩ = w.cell? ⟨b, o', none⟩ := by
  simp [go_sem, h]
theorem heap_set_other {w : World} {b o : Nat} {v : Value} {k : Nat} (h : k ≠ b) : (w.setCell ⟨b, o, none⟩ v).heap[k]? = w.heap[k]? := Below.heap_setCell _ _ _ _ h
theorem frozen_set {w : World} {a p : Addr} {v : Value} : (w.setCell a v).frozen? p = w.frozen? p := by simp

section
variable {w : World} {cb : Nat} {nodes : Value} {mb : Nat} {e y room hits misses : Int}
theorem Flds.set0 (h : Flds w cb nodes mb e y room hits misses) (v : Value) : Flds (w.setCell ⟨cb, 0, none⟩ v) cb v mb e y room hits misses :=
  ⟨cell_set_same h.f0, (cell_set_off (by omega)).trans h.f1, (cell_set_off (by omega)).trans h.f2, (cell_set_off (by omega)).trans h.f3, (cell_set_off (by omega)).trans h.f4, (cell_set_off (by omega)).trans h.f5, (cell_set_off (by omega)).trans h.f6, fun o => frozen_set.trans (h.ff o)⟩
theorem Flds.set2 (h : Flds w cb nodes mb e y room hits misses) (x : Int) : Flds (w.setCell ⟨cb, 2, none⟩ (.int .i64 x)) cb nodes mb x y room hits misses :=
  ⟨(cell_set_off (by omega)).trans h.f0, (cell_set_off (by omega)).trans h.f1, cell_set_same h.f2, (cell_set_off (by omega)).trans h.f3, (cell_set_off (by omega)).trans h.f4, (cell_set_off (by omega)).trans h.f5, (cell_set_off (by omega)).trans h.f6, fun o => frozen_set.trans (h.ff o)⟩
theorem Flds.set3 (h : Flds w cb nodes mb e y room hits misses) (x : Int) : Flds (w.setCell ⟨cb, 3, none⟩ (.int .i64 x)) cb nodes mb e x room hits misses :=
  ⟨(cell_set_off (by omega)).trans h.f0, (cell_set_off (by omega)).trans h.f1, (cell_set_off (by omega)).trans h.f2, cell_set_same h.f3, (cell_set_off (by omega)).trans h.f4, (cell_set_off (by omega)).trans h.f5, (cell_set_off (by omega)).trans h.f6, fun o => frozen_set.trans (h.ff o)⟩
theorem Flds.set5 (h : Flds w cb nodes mb e y room hits misses) (x : Int) : Flds (w.setCell ⟨cb, 5, none⟩ (.int .i64 x)) cb nodes mb e y room x misses :=
  ⟨(cell_set_off (by omega)).trans h.f0, (cell_set_off (by omega)).trans h.f1, (cell_set_off (by omega)).trans h.f2, (cell_set_off (by omega)).trans h.f3, (cell_set_off (by omega)).trans h.f4, cell_set_same h.f5, (cell_set_off (by omega)).trans h.f6, fun o => frozen_set.trans (h.ff o)⟩
theorem Flds.set6 (h : Flds w cb nodes mb e y room hits misses) (x : Int) : Flds (w.setCell ⟨cb, 6, none⟩ (.int .i64 x)) cb nodes mb e y room hits x :=
  ⟨(cell_set_off (by omega)).trans h.f0, (cell_set_off (by omega)).trans h.f1, (cell_set_off (by omega)).trans h.f2, (cell_set_off (by omega)).trans h.f3, (cell_set_off (by omega)).trans h.f4, (cell_set_off (by omega)).trans h.f5, cell_set_same h.f6, fun o => frozen_set.trans (h.ff o)⟩
end

/-- Of what was there, only blocks of S have been written. -/
structure Keeps (S : Nat → Prop) (w w' : World) : Prop where
  os : w'.os = w.os
  tape : w'.tape = w.tape
  output : w'.output = w.output
  size : w.heap.size ≤ w'.heap.size
  block : ∀ k, k < w.heap.size → ¬ S k → w'.heap[k]? = w.heap[k]?

theorem Keeps.refl (S : Nat → Prop) (w : World) : Keeps S w w := ⟨rfl, rfl, rfl, Nat.le_refl _, fun _ _ _ => rfl⟩
theorem Keeps.trans {S : Nat → Prop} {a b c : World} (h : Keeps S a b) (k : Keeps S b c) : Keeps S a c :=
  ⟨k.os.trans h.os, k.tape.trans h.tape, k.output.trans h.output, Nat.le_trans h.size k.size, fun i hi hs => (k.block i (Nat.lt_of_lt_of_le hi h.size) hs).trans (h.block i hi hs)⟩
theorem Keeps.mono {S T : Nat → Prop} {a b : World} (h : Keeps S a b) (hst : ∀ k, k < a.heap.size → S k → T k) : Keeps T a b := ⟨h.os, h.tape, h.output, h.size, fun i hi hs => h.block i hi fun hi' => hs (hst i hi hi')⟩
theorem Keeps.set {S : Nat → Prop} {a w : World} (h : Keeps S a w) {p : Addr} (hp : S p.block) (v : Value) : Keeps S a (w.setCell p v) :=
  h.trans ⟨rfl, rfl, rfl, by simp [World.setCell], fun k hk hs => Below.heap_setCell _ _ _ _ (fun e => hs (e ▸ hp))⟩
theorem Keeps.alloc {S : Nat → Prop} {a w : World} (h : Keeps S a w) (o : Obj) : Keeps S a (w.alloc o) :=
  h.trans ⟨rfl, rfl, rfl, by simp, fun k hk hs => Below.heap_alloc _ _ _ hk⟩
theorem Keeps.drewN {S : Nat → Prop} {a w : World} (h : Keeps S a w) (n : Nat) : Keeps S a (w.drewN n) := ⟨h.os, h.tape, h.output, h.size, h.block⟩
theorem Keeps.drew {S : Nat → Prop} {a w : World} (h : Keeps S a w) : Keeps S a w.drew := ⟨h.os, h.tape, h.output, h.size, h.block⟩
theorem Keeps.of_below {S : Nat → Prop} {w w' : World} (h : Below w.heap.size w w') : Keeps S w w' := ⟨h.os, h.tape, h.output, h.size, fun k hk _ => h.block k hk⟩
theorem Keeps.below {S : Nat → Prop} {w w' : World} {B : Nat} (h : Keeps S w w') (hB : B ≤ w.heap.size) (hs : ∀ k, S k → B ≤ k) : Below B w w' :=
  ⟨h.os, h.tape, h.output, h.size, fun k hk => h.block k (by omega) fun hk' => by have := hs k hk'; omega⟩

end Go.Proofs.YtnadelmbkaoeeaaGreatDoor
