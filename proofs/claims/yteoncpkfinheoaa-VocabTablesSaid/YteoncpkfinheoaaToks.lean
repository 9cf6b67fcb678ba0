/- Walk: the tokens of rows and specials, by the program. -/
import Derived.Test.YteoncpkfinheoaaToksP
import Derived.RegionTactic
import Derived.Deep.DeepCutAuto
namespace Go.Proofs.Yteoncpkfinheoaa
open Go.RowKit
set_option linter.unusedVariables false

theorem infoStr9 : (Try.prog.info? 9).map (fun i => (i.zero, i.size, i.bytes)) = some (some (.string ByteArray.empty), 1, 16) := by kernel_rfl
theorem infoInt3 : (Try.prog.info? 3).map (fun i => (i.zero, i.size, i.bytes)) = some (some (.int .i64 0), 1, 8) := by kernel_rfl

/-- A row of strings that the call made. -/
abbrev OwnT (w : World) (base : Nat) (v : Value) (T : List ByteArray) : Prop := w.ownsRow base 9 1 v T.length (T.map .string)

theorem run_makeN {P : Program} (t e : TypeId) (i : TypeInfo) (z : Value) (ht : P.underlying t = some (.slice e)) (hi : P.info? e = some i) (hz : i.zero = some z) (hs : i.size = 1)
    (n : Nat) (hbytes : i.bytes * n ≤ 281474976710656) (h63 : n ≤ 9223372036854775807) (w : World) :
    (Instr.makeSlice t (.int .i64 (n : Int)) (.int .i64 (n : Int))).run P w = .ok (.slice (some ⟨w.heap.size, 0, none⟩) n n) (w.alloc (.cells (madeCells z.cells n) e)) := by
  have hb : (i.bytes : Int) * (n : Int) ≤ 281474976710656 := by
    have h : ((i.bytes * n : Nat) : Int) ≤ 281474976710656 := by omega
    rwa [Int.natCast_mul] at h
  have hr := run_make (P := P) w t e i z ht hi hz .i64 .i64 n n (by omega) (by omega) hb (by omega)
  simp only [Int.toNat_natCast, hs, Nat.mul_one] at hr
  exact hr
theorem ownT_made (w : World) (n : Nat) (hm : n ≤ maxLen) : OwnT (w.alloc (.cells (madeCells (Value.string ByteArray.empty).cells n) 9)) w.heap.size (.slice (some ⟨w.heap.size, 0, none⟩) n n) (List.replicate n ByteArray.empty) := by
  have e : (madeCells (Value.string ByteArray.empty).cells n) = (List.replicate n (Value.string ByteArray.empty)).toArray := by
    apply Array.ext'
    exact toList_madeCells_one _ n
  rw [e]
  refine ⟨by simp, .inr ⟨w.heap.size, n, _, by simp, Nat.le_refl _, heap_alloc_new w _, by simp, hm, by simp, ?_⟩⟩
  simp
theorem ownI_made (w : World) (n : Nat) (hm : n ≤ maxLen) : Own (w.alloc (.cells (madeCells (Value.int .i64 0).cells n) 3)) w.heap.size (.slice (some ⟨w.heap.size, 0, none⟩) n n) (List.replicate n 0) := by
  have e : (madeCells (Value.int .i64 0).cells n) = (List.replicate n (Value.int .i64 0)).toArray := by
    apply Array.ext'
    exact toList_madeCells_one _ n
  rw [e]
  refine ⟨by simp, .inr ⟨w.heap.size, n, _, by simp, Nat.le_refl _, heap_alloc_new w _, by simp, hm, by simp, ?_⟩⟩
  simp

/-- Two rows, apart, that the call made. -/
structure TwoRows (base : Nat) (w : World) (n : Nat) (v1 v2 : Value) (L : List ByteArray) (A : List Int) (g1 g2 : Nat) : Prop where
  e1 : v1 = .slice (some ⟨g1, 0, none⟩) n n
  e2 : v2 = .slice (some ⟨g2, 0, none⟩) n n
  o1 : OwnT w base v1 L
  o2 : Own w base v2 A
  l1 : L.length = n
  l2 : A.length = n
  ne : g1 ≠ g2

theorem OwnT.mono {w : World} {base base' : Nat} {v : Value} {L : List ByteArray} (h : OwnT w base v L) (hb : base' ≤ base) : OwnT w base' v L := by
  obtain ⟨h1, h2⟩ := h
  refine ⟨h1, ?_⟩
  rcases h2 with h2 | ⟨g, cap, cur, hv, hg, r⟩
  · exact .inl h2
  · exact .inr ⟨g, cap, cur, hv, by omega, r⟩
theorem OwnT.below {w w' : World} {base : Nat} {v : Value} {L : List ByteArray} (h : OwnT w base v L) (hb : Below w.heap.size w w') : OwnT w' base v L :=
  own_stay h fun g hg => hb.block g (World.ownsRow.lt h g hg).2

theorem TwoRows.below {base : Nat} {w w' : World} {n : Nat} {v1 v2 : Value} {L : List ByteArray} {A : List Int} {g1 g2 : Nat} (h : TwoRows base w n v1 v2 L A g1 g2) (hb : Below w.heap.size w w') : TwoRows base w' n v1 v2 L A g1 g2 :=
  ⟨h.e1, h.e2, OwnT.below h.o1 hb, Own.below h.o2 hb, h.l1, h.l2, h.ne⟩

theorem TwoRows.cells {base : Nat} {w : World} {n : Nat} {v1 v2 : Value} {L : List ByteArray} {A : List Int} {g1 g2 : Nat} (h : TwoRows base w n v1 v2 L A g1 g2) {i : Nat} (hi : i < n) :
    w.cell? ⟨g1, i, none⟩ = some (.string (tk L i)) ∧ w.frozen? ⟨g1, i, none⟩ = false ∧ w.cell? ⟨g2, i, none⟩ = some (.int .i64 (ix A i)) ∧ w.frozen? ⟨g2, i, none⟩ = false ∧ base ≤ g1 ∧ base ≤ g2 ∧ g1 < w.heap.size ∧ g2 < w.heap.size := by
  obtain ⟨e1, e2, o1, o2, l1, l2, hne⟩ := h
  subst e1 e2
  have a1 := World.ownsRow.lt o1 g1 rfl
  have a2 := World.ownsRow.lt o2 g2 rfl
  have c1 : w.ownsRow base 9 1 (.slice (some ⟨g1, 0, none⟩) n n) L.length (L.map .string) := o1
  have c2 := o2
  rw [l1] at c1
  unfold Own at c2
  rw [l2] at c2
  refine ⟨?_, World.ownsRow.frozenAt c1 i, ?_, World.ownsRow.frozenAt c2 i, a1.1, a2.1, a1.2, a2.2⟩
  · rw [World.ownsRow.cellAt c1 i (by omega), List.getElem?_map, tk_eq (by omega)]; rfl
  · rw [World.ownsRow.cellAt c2 i (by omega), List.getElem?_map, ix_eq (by omega)]; rfl

theorem TwoRows.set2 {base : Nat} {w : World} {n : Nat} {v1 v2 : Value} {L : List ByteArray} {A : List Int} {g1 g2 : Nat} (h : TwoRows base w n v1 v2 L A g1 g2) (i : Nat) (c : Int) : TwoRows base (w.setCell ⟨g2, i, none⟩ (.int .i64 c)) n v1 v2 L (A.set i c) g1 g2 := by
  obtain ⟨e1, e2, o1, o2, l1, l2, hne⟩ := h
  subst e1 e2
  refine ⟨rfl, rfl, own_stay o1 fun g hg => ?_, ?_, l1, by rw [List.length_set]; exact l2, hne⟩
  · simp [Value.ownBlock] at hg
    subst hg
    exact Below.heap_setCell _ _ _ _ hne
  · have c2 := o2
    unfold Own at c2 ⊢
    rw [l2] at c2
    rw [List.length_set, l2, List.map_set]
    exact (World.ownsRow.stored c2 i (.int .i64 c)).1
theorem TwoRows.set1 {base : Nat} {w : World} {n : Nat} {v1 v2 : Value} {L : List ByteArray} {A : List Int} {g1 g2 : Nat} (h : TwoRows base w n v1 v2 L A g1 g2) (i : Nat) (s : ByteArray) : TwoRows base (w.setCell ⟨g1, i, none⟩ (.string s)) n v1 v2 (L.set i s) A g1 g2 := by
  obtain ⟨e1, e2, o1, o2, l1, l2, hne⟩ := h
  subst e1 e2
  refine ⟨rfl, rfl, ?_, own_stay o2 fun g hg => ?_, by rw [List.length_set]; exact l1, l2, hne⟩
  · have c1 : w.ownsRow base 9 1 (.slice (some ⟨g1, 0, none⟩) n n) L.length (L.map .string) := o1
    rw [l1] at c1
    show World.ownsRow _ base 9 1 _ (L.set i s).length ((L.set i s).map .string)
    rw [List.length_set, l1, List.map_set]
    exact (World.ownsRow.stored c1 i (.string s)).1
  · simp [Value.ownBlock] at hg
    subst hg
    exact Below.heap_setCell _ _ _ _ (Ne.symm hne)

theorem two_a {base : Nat} (wo : World) (hb : base ≤ wo.heap.size) (n : Nat) (hm : n ≤ maxLen) :
    TwoRows base ((wo.alloc (.cells (madeCells #[Value.string ByteArray.empty] n) 9)).alloc (.cells (madeCells #[Value.int .i64 0] n) 3)).drew n (.slice (some ⟨wo.heap.size, 0, none⟩) n n) (.slice (some ⟨wo.heap.size + 1, 0, none⟩) n n) (List.replicate n ByteArray.empty) (List.replicate n 0) wo.heap.size (wo.heap.size + 1) := by
  refine ⟨rfl, rfl, ?_, ?_, by simp, by simp, by omega⟩
  · exact OwnT.below (OwnT.mono (ownT_made wo n hm) hb) ((below_alloc _ _).drew)
  · have h1 := ownI_made (wo.alloc (.cells (madeCells #[Value.string ByteArray.empty] n) 9)) n hm
    have h2 := Own.mono (base' := base) h1 (by simp; omega)
    have h3 := h2.below ((Below.refl _ _).drew)
    rw [show (wo.alloc (.cells (madeCells #[Value.string ByteArray.empty] n) 9)).heap.size = wo.heap.size + 1 from by simp] at h3
    exact h3
theorem two_b {base : Nat} (wo : World) (hb : base ≤ wo.heap.size) (n : Nat) (hm : n ≤ maxLen) :
    TwoRows base ((wo.alloc (.cells (madeCells #[Value.int .i64 0] n) 3)).alloc (.cells (madeCells #[Value.string ByteArray.empty] n) 9)).drew n (.slice (some ⟨wo.heap.size + 1, 0, none⟩) n n) (.slice (some ⟨wo.heap.size, 0, none⟩) n n) (List.replicate n ByteArray.empty) (List.replicate n 0) (wo.heap.size + 1) wo.heap.size := by
  refine ⟨rfl, rfl, ?_, ?_, by simp, by simp, by omega⟩
  · have h1 := ownT_made (wo.alloc (.cells (madeCells #[Value.int .i64 0] n) 3)) n hm
    have h2 := OwnT.mono (base' := base) h1 (by simp; omega)
    have h3 := OwnT.below h2 ((Below.refl _ _).drew)
    rw [show (wo.alloc (.cells (madeCells #[Value.int .i64 0] n) 3)).heap.size = wo.heap.size + 1 from by simp] at h3
    exact h3
  · exact Own.below (Own.mono (ownI_made wo n hm) hb) ((below_alloc _ _).drew)

def ToksPost (R : List Rw) (S : List Sp) (w : World) (e : Ending) (w' : World) : Prop :=
  ((OkRows R S ∧ ∃ v, e = .returned (.tuple #[v, .bool true]) ∧ OwnT w' w.heap.size v (toksOf R S)) ∨ (¬ OkRows R S ∧ e = .returned (.tuple #[.slice none 0 0, .bool false]))) ∧ Below w.heap.size w w'

set_option maxHeartbeats 4000000 in
set_option maxRecDepth 100000 in
theorem tokens_calls {R : List Rw} {S : List Sp} {ro so : Option Addr} {rn rc sn sc : Nat} (w : World) (hR : SlF 2 w ro rn rc (flat Rw.enc R)) (hS : SlF 2 w so sn sc (flat Sp.enc S)) :
    Calls Try.prog 14 #[.slice ro rn rc, .slice so sn sc] w (ToksPost R S w) := by
  have hm := Nat.le_trans hR.le hR.max
  have hmm := Nat.le_trans hS.le hS.max
  unfold maxLen at hm hmm
  have hlenR := Lib.hid (hR.count Rw.enc_len (by omega))
  have hlenS := Lib.hid (hS.count Sp.enc_len (by omega))
  obtain ⟨i9, hi9, hz9, hs9, hb9⟩ := info_parts infoStr9
  obtain ⟨i3, hi3, hz3, hs3, hb3⟩ := info_parts infoInt3
  have HR := Lib.hid hR
  have HSS := Lib.hid hS
  clear hR hS
  go_enter Try.func14, Try.ntmps14
  go_wp2_with (fail)
  go_loopw [6, 8, 17] (fun m _ i wr => ∃ (k t : Nat), k ≤ sn ∧ i = .int .i64 k ∧ m = .int .i64 t ∧ t ≤ 4096 ∧ Hid (topS S k = (t : Int)) ∧ Hid (OkS S k) ∧ Below w.heap.size w wr) (fun _ _ i _ => sn - (intOf i).toNat)
  case atStart => exact ⟨0, 0, Nat.zero_le _, rfl, rfl, by omega, Lib.hid rfl, Lib.hid (fun j hj => by omega), Below.refl _ _⟩
  case round =>
    obtain ⟨k, t, hk, rfl, rfl, ht, HT, HO, hb⟩ := hrel
    have HB := Lib.hid hb
    clear hb
    by_cases hlt : k < sn
    · have hkS : k < S.length := by have := hlenS.out; omega
      obtain ⟨b, of, rfl, hce⟩ := (HSS.out.below HB.out).elem Sp.enc_len (by omega) (sp_eq hkS)
      obtain ⟨⟨nm, id⟩, hseq⟩ : ∃ m, sp S k = m := ⟨_, rfl⟩
      rw [hseq] at hce
      have d0 := hce 0 _ rfl
      have d1 := hce 1 _ rfl
      rw [Nat.add_zero] at d0
      simp only at d0 d1
      have HSK := Lib.hid hseq
      have HB1 := Lib.hid (HB.out.alloc HB.out.size (.cells #[.string nm, .int .i64 id] 48))
      clear hce hseq
      by_cases h0 : id < 0
      · have hg : decide (id < 0) = true := by simpa using h0
        have HF := Lib.hid (notOk_s (R := R) hkS (by rw [HSK.out]; simp only; omega))
        go_wp2_with (fail)
        go_ret2
        exact ⟨.inr ⟨HF.out, rfl⟩, HB1.out⟩
      have hg0 : decide (id < 0) = false := by simpa using h0
      by_cases h1 : 4096 ≤ id
      · have hg : decide (4096 ≤ id) = true := by simpa using h1
        have HF := Lib.hid (notOk_s (R := R) hkS (by rw [HSK.out]; simp only; omega))
        go_wp2_with (fail)
        go_ret2
        exact ⟨.inr ⟨HF.out, rfl⟩, HB1.out⟩
      have hg1 : decide (4096 ≤ id) = false := by simpa using h1
      have hw1 : IntKind.i64.wrap (id + 1) = id + 1 := by rw [IntKind.wrap_i64]; omega
      have HO2 : Hid (OkS S (k + 1)) := Lib.hid (fun j hj => by
        by_cases e : j = k
        · subst e; rw [HSK.out]; simp only; omega
        · exact HO.out j (by omega))
      have HTn : Hid (topS S (k + 1) = max (t : Int) (id + 1)) := Lib.hid (by rw [topS_succ hkS, HT.out, HSK.out])
      go_wp2_with (fail)
      go_roundw
      case rel => exact ⟨k + 1, (max (t : Int) (id + 1)).toNat, by omega, by go_num, by rw [Int.toNat_of_nonneg (by omega)], by omega, Lib.hid (by rw [HTn.out, Int.toNat_of_nonneg (by omega)]), HO2, HB1.out⟩
      case measure => simp [intOf]; omega
    · have HSA : Hid (OkS S S.length) := Lib.hid (by rw [hlenS.out, show sn = k by omega]; exact HO.out)
      have HTA : Hid (topR R S 0 = (t : Int)) := Lib.hid (by rw [topR_zero, hlenS.out, show sn = k by omega]; exact HT.out)
      obtain ⟨wo, rfl⟩ : ∃ wo : World, wo = wr := ⟨_, rfl⟩
      go_wp2_with (fail)
      go_loopw [6, 10, 37] (fun m _ i wr => ∃ (k t : Nat), k ≤ rn ∧ i = .int .i64 k ∧ m = .int .i64 t ∧ t ≤ 4096 ∧ Hid (topR R S k = (t : Int)) ∧ Hid (OkR R k) ∧ Below w.heap.size w wr) (fun _ _ i _ => rn - (intOf i).toNat)
      case atStart => exact ⟨0, t, Nat.zero_le _, rfl, rfl, ht, HTA, Lib.hid (fun j hj => by omega), HB.out⟩
      case round =>
        obtain ⟨k2, t2, hk2, rfl, rfl, ht2, HT2, HO2, hb2⟩ := hrel
        have HB2 := Lib.hid hb2
        clear hb2
        by_cases hlt2 : k2 < rn
        · have hkR : k2 < R.length := by have := hlenR.out; omega
          obtain ⟨b, of, rfl, hce⟩ := (HR.out.below HB2.out).elem Rw.enc_len (by omega) (rw_eq hkR)
          obtain ⟨⟨tn, id⟩, hseq⟩ : ∃ m, rw' R k2 = m := ⟨_, rfl⟩
          rw [hseq] at hce
          have d0 := hce 0 _ rfl
          have d1 := hce 1 _ rfl
          rw [Nat.add_zero] at d0
          simp only at d0 d1
          have HSK := Lib.hid hseq
          have HB1 := Lib.hid (HB2.out.alloc HB2.out.size (.cells #[.string tn, .int .i64 id] 27))
          clear hce hseq
          by_cases h0 : id < 0
          · have hg : decide (id < 0) = true := by simpa using h0
            have HF := Lib.hid (notOk_r (S := S) hkR (by rw [HSK.out]; simp only; omega))
            go_wp2_with (fail)
            go_ret2
            exact ⟨.inr ⟨HF.out, rfl⟩, HB1.out⟩
          have hg0 : decide (id < 0) = false := by simpa using h0
          by_cases h1 : 4096 ≤ id
          · have hg : decide (4096 ≤ id) = true := by simpa using h1
            have HF := Lib.hid (notOk_r (S := S) hkR (by rw [HSK.out]; simp only; omega))
            go_wp2_with (fail)
            go_ret2
            exact ⟨.inr ⟨HF.out, rfl⟩, HB1.out⟩
          have hg1 : decide (4096 ≤ id) = false := by simpa using h1
          have hw1 : IntKind.i64.wrap (id + 1) = id + 1 := by rw [IntKind.wrap_i64]; omega
          have HO3 : Hid (OkR R (k2 + 1)) := Lib.hid (fun j hj => by
            by_cases e : j = k2
            · subst e; rw [HSK.out]; simp only; omega
            · exact HO2.out j (by omega))
          have HTn : Hid (topR R S (k2 + 1) = max (t2 : Int) (id + 1)) := Lib.hid (by rw [topR_succ hkR, HT2.out, HSK.out])
          go_wp2_with (fail)
          go_roundw
          case rel => exact ⟨k2 + 1, (max (t2 : Int) (id + 1)).toNat, by omega, by go_num, by rw [Int.toNat_of_nonneg (by omega)], by omega, Lib.hid (by rw [HTn.out, Int.toNat_of_nonneg (by omega)]), HO3, HB1.out⟩
          case measure => simp [intOf]; omega
        · have HRA : Hid (OkR R R.length) := Lib.hid (by rw [hlenR.out, show rn = k2 by omega]; exact HO2.out)
          have HTB : Hid ((t2 : Int) = top R S) := Lib.hid (by rw [← topR_all, hlenR.out, show rn = k2 by omega]; exact HT2.out.symm)
          have HLT : Hid (∀ j, j < R.length → (rw' R j).rank < (t2 : Int)) := Lib.hid (fun j hj => by rw [HTB.out, ← topR_all]; exact topR_lt (Nat.le_refl _) hj)
          have mk9 := fun w' => run_makeN (P := Try.prog) 28 9 i9 _ Try.underlying28 hi9 hz9 hs9 t2 (by rw [hb9]; omega) (by omega) w'
          have mk3 := fun w' => run_makeN (P := Try.prog) 65 3 i3 _ Try.underlying65 hi3 hz3 hs3 t2 (by rw [hb3]; omega) (by omega) w'
          obtain ⟨wo2, rfl⟩ : ∃ wo2 : World, wo2 = wr := ⟨_, rfl⟩
          go_wp2_with (fail)
          go_cut [11, 12] (fun s11 s12 wx => ∃ g1 g2, TwoRows w.heap.size wx t2 s11 s12 (List.replicate t2 ByteArray.empty) (List.replicate t2 0) g1 g2 ∧ Below w.heap.size w wx)
          case first =>
            have hbo := HB2.out.size
            go_region
            · go_wp2_with (fail)
              go_meet
              exact ⟨_, _, two_a wo2 hbo t2 (by unfold maxLen; omega), ((HB2.out.alloc hbo _).alloc (by simp; omega) _).drew⟩
            · go_wp2_with (fail)
              go_meet
              exact ⟨_, _, two_b wo2 hbo t2 (by unfold maxLen; omega), ((HB2.out.alloc hbo _).alloc (by simp; omega) _).drew⟩
          case rest =>
            obtain ⟨g1, g2, htw, hbc⟩ := hcut
            have h1 := htw.e1
            have h2 := htw.e2
            subst h1 h2
            have HTW := Lib.hid htw
            have HBC := Lib.hid hbc
            clear htw hbc mk9 mk3
            go_wp2_with (fail)
            go_loopw [14, 61] (fun _ i wr => ∃ (k : Nat) (L : List ByteArray) (A : List Int), k ≤ rn ∧ i = .int .i64 k ∧ TwoRows w.heap.size wr t2 (.slice (some ⟨g1, 0, none⟩) t2 t2) (.slice (some ⟨g2, 0, none⟩) t2 t2) L A g1 g2 ∧ Hid (LaidR R k t2 L A) ∧ Hid (ApR R k) ∧ Below w.heap.size w wr) (fun _ i _ => rn - (intOf i).toNat)
            case atStart => exact ⟨0, _, _, Nat.zero_le _, rfl, HTW.out, Lib.hid (LaidR.zero R t2), Lib.hid (fun i j _ h => by omega), HBC.out⟩
            case round =>
              obtain ⟨k3, L, A, hk3, rfl, htw, HL, HAP, hb3⟩ := hrel
              have HTW3 := Lib.hid htw
              have HB3 := Lib.hid hb3
              clear htw hb3
              by_cases hlt3 : k3 < rn
              · have hkR : k3 < R.length := by have := hlenR.out; omega
                obtain ⟨b, of, rfl, hce⟩ := (HR.out.below HB3.out).elem Rw.enc_len (by omega) (rw_eq hkR)
                have hrk := HRA.out k3 hkR
                have hrt := HLT.out k3 hkR
                obtain ⟨⟨tn, id⟩, hseq⟩ : ∃ m, rw' R k3 = m := ⟨_, rfl⟩
                rw [hseq] at hce hrk hrt
                have d0 := hce 0 _ rfl
                have d1 := hce 1 _ rfl
                rw [Nat.add_zero] at d0
                simp only at d0 d1 hrk hrt
                obtain ⟨r, rfl⟩ := Int.eq_ofNat_of_zero_le hrk.1
                have hrn : r < t2 := by omega
                have HSK := Lib.hid hseq
                obtain ⟨q1, q2, q3, q4, q5, q6, q7, q8⟩ := HTW3.out.cells hrn
                have hsz3 := HB3.out.size
                have HB4 := Lib.hid (HB3.out.alloc HB3.out.size (.cells #[.string tn, .int .i64 (r : Int)] 27))
                have HTW4 := Lib.hid (HTW3.out.below (below_alloc wr (.cells #[.string tn, .int .i64 (r : Int)] 27)))
                have hne := HTW3.out.ne
                clear hce hseq hrk hrt
                rcases HL.out.hit r hrn with ⟨hx, hno⟩ | ⟨hx, j, hj, hje⟩
                · rw [hx] at q3
                  have HX := Lib.hid hx
                  have HLn := Lib.hid (HL.out.next hkR (r := r) (by rw [HSK.out]) hrn hx)
                  have HAn := Lib.hid (HL.out.apart (r := r) (by rw [HSK.out]) hrn hx HAP.out)
                  rw [HSK.out] at HLn
                  clear hx hno
                  go_wp2_with (fail)
                  go_roundw
                  case rel => exact ⟨k3 + 1, _, _, by omega, by go_num, ((HTW3.out.set2 r 1).set1 r tn).below (below_alloc _ _), HLn, HAn, ((HB3.out.setCell q6 _).setCell q5 _).alloc (by simp; exact hsz3) _⟩
                  case measure => simp [intOf]; omega
                · rw [hx] at q3
                  have HF := Lib.hid (notOk_a (S := S) hj hkR (by rw [hje, HSK.out]))
                  clear hx hje
                  go_wp2_with (fail)
                  go_ret2
                  exact ⟨.inr ⟨HF.out, rfl⟩, HB4.out⟩
              · have HFA := Lib.hid (HL.out.all hlenR.out hk3 hlt3 HTB.out)
                have HOKR : Hid (OkRows R S) := Lib.hid (OkRows.of HSA.out HRA.out (by rw [hlenR.out, show rn = k3 by omega]; exact HAP.out))
                go_wp2_with (fail)
                go_ret2
                exact ⟨.inl ⟨HOKR.out, _, rfl, by rw [← HFA.out]; exact HTW3.out.o1⟩, HB3.out⟩

end Go.Proofs.Yteoncpkfinheoaa
