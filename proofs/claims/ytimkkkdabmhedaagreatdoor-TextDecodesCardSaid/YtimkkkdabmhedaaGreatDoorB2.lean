/- Walk: may tokens be, by the document? -/
import Derived.Test.YtimkkkdabmhedaaGreatDoorB1
import Derived.Deep.RegionHeld3
import Derived.Shelf.SlSortCmp.QuietGrown
import Derived.Shelf.SlicesQ.Load
import Derived.DeepKeys4
import Derived.Maps.Own
namespace Go.Proofs.YtimkkkdabmhedaaGreatDoor
open Go.RowKit
set_option linter.unusedVariables false

def GoodTo (T : List ByteArray) (k : Nat) : Prop := ∀ j, j < k → (tk T j).size ≤ 64 ∧ ((tk T j).size ≠ 0 → ofT T (tk T j) = j)
theorem GoodTo.uniq {T : List ByteArray} (h : GoodTo T T.length) : Uniq T := fun i j h1 h2 e => by
  by_cases hz : (tk T i).size = 0
  · exact hz
  · have a := (h i (by omega)).2 hz
    have b := (h j h2).2 (by rw [← e]; exact hz)
    rw [← e, a] at b
    omega
theorem GoodTo.next {T : List ByteArray} {k : Nat} (h : GoodTo T k) (h1 : (tk T k).size ≤ 64) (h2 : (tk T k).size ≠ 0 → ofT T (tk T k) = k) : GoodTo T (k + 1) := fun j hj => by
  by_cases e : j = k
  · subst e; exact ⟨h1, h2⟩
  · exact h j (by omega)
theorem not_uniq {T : List ByteArray} {k : Nat} (hk : k < T.length) (hz : (tk T k).size ≠ 0) (h : ofT T (tk T k) ≠ k) : ¬ Uniq T := fun hu => h (hu.of hk hz)
theorem ofT_one {T : List ByteArray} {b : Nat} : ofT T (one b) < 0 ↔ one b ∉ T := by
  rcases ofT_cases T (one b) with ⟨h0, _⟩ | ⟨_, ⟨i, hi, h1, _, e⟩⟩ | ⟨_, h1, e⟩
  · rw [one_size] at h0; omega
  · rw [e]
    constructor
    · intro h; omega
    · intro h; exact absurd (h1 ▸ tk_mem hi) h
  · rw [e]
    constructor
    · intro _ h
      obtain ⟨j, hj, e2⟩ := mem_tk h
      exact h1 j hj e2
    · intro _; omega

set_option maxHeartbeats 1000000 in
set_option maxRecDepth 100000 in
theorem rmayTokens_calls {T : List ByteArray} {ao : Option Addr} {n c : Nat} (w : World) (hT : SlS w ao n c T) (hsz : ∀ s ∈ T, s.size ≤ maxLen) :
    Calls Tryz.prog 82 #[.slice ao n c] w (MayTokPost T w) := by
  have hm := Nat.le_trans (Sl.le hT) (Sl.max hT)
  unfold maxLen at hm
  have hlen := Lib.hid hT.count
  have HT := Lib.hid hT
  have HS := Lib.hid hsz
  clear hT hsz
  by_cases hl : (4096 : Int) < n
  · have HF := Lib.hid (notMayTok_long (T := T) (by have := hlen.out; omega))
    go_enter Tryz.func82, Tryz.ntmps82
    go_wp2_with (fail)
    go_ret
    exact ⟨⟨_, rfl, HF.out⟩, Below.refl _ _⟩
  · go_enter Tryz.func82, Tryz.ntmps82
    go_wp2_with (fail)
    go_loop [3, 10] (fun _ i => ∃ k : Nat, k ≤ n ∧ i = .int .i64 k ∧ Hid (GoodTo T k)) (fun _ i => n - (intOf i).toNat)
    case atStart => exact ⟨0, Nat.zero_le _, rfl, Lib.hid (fun j h => by omega)⟩
    case round =>
      obtain ⟨k, hk, rfl, hg⟩ := hrel
      by_cases hlt : k < n
      · have hkT : k < T.length := by have := hlen.out; omega
        obtain ⟨b, o, rfl, hc⟩ := SlS.cell HT.out (tk_eq (T := T) (i := k) hkT)
        have hks := HS.out _ (tk_mem hkT)
        unfold maxLen at hks
        by_cases h64 : (64 : Int) < (tk T k).size
        · have HF := Lib.hid (notMayTok_tok ⟨_, tk_mem hkT, by omega⟩)
          go_wp2_with (fail)
          go_ret
          exact ⟨⟨_, rfl, HF.out⟩, Below.refl _ _⟩
        · have h64' : (tk T k).size ≤ 64 := by omega
          by_cases hz : (tk T k).size = 0
          · obtain ⟨e1, e2, e3⟩ := strE_yes hz
            have hg2 := Lib.hid (hg.out.next h64' (fun h => absurd hz h))
            clear hz
            go_wp2_with (fail)
            go_round
            case rel => exact ⟨k + 1, by omega, by go_num, hg2⟩
            case measure => simp [intOf]; omega
          · obtain ⟨e1, e2, e3⟩ := strE_no hz
            have HZ := Lib.hid hz
            clear hz
            go_wp2_with (fail)
            refine (rof_calls (tk T k) w HT.out).mono ?_
            rintro e w' ⟨rfl, rfl⟩
            by_cases he : ofT T (tk T k) = k
            · have hg2 := Lib.hid (hg.out.next h64' (fun _ => he))
              rw [he]
              have hne : ((k : Int) != (k : Int)) = false := by simp
              clear he
              go_wp2_with (fail)
              go_round
              case rel => exact ⟨k + 1, by omega, by go_num, hg2⟩
              case measure => simp [intOf]; omega
            · have HF := Lib.hid (notMayTok_uniq (not_uniq hkT HZ.out he))
              have hne : (ofT T (tk T k) != (k : Int)) = true := by simpa using he
              clear he
              go_wp2_with (fail)
              go_ret
              exact ⟨⟨_, rfl, HF.out⟩, Below.refl _ _⟩
      · have HG : Hid (GoodTo T T.length) := Lib.hid (by rw [hlen.out]; have : n = k := (by omega); rw [this]; exact hg.out)
        go_wp2_with (fail)
        go_loopw [4] (fun i wr => ∃ k : Nat, k ≤ 256 ∧ i = .int .i64 k ∧ Below w.heap.size w wr ∧ Hid (∀ b, b < k → one b ∈ T)) (fun i _ => 256 - (intOf i).toNat)
        case atStart => exact ⟨0, by omega, rfl, Below.refl _ _, Lib.hid (fun b hb => by omega)⟩
        case round =>
          obtain ⟨q, hq, rfl, hb, hall⟩ := hrel
          have HB := Lib.hid hb
          clear hb
          by_cases hlt : q < 256
          · have hw8 : IntKind.u8.wrap (q : Int) = (q : Int) := by rw [IntKind.wrap_u8]; omega
            have hcv := conv_one wr q
            have HB3 := Lib.hid (HB.out.alloc HB.out.size (.cells #[.int .u8 (q : Int)] 5))
            go_wp2_with (fail)
            refine (rof_calls (one q) _ (Sl.below HT.out HB3.out)).mono ?_
            rintro e w' ⟨rfl, rfl⟩
            by_cases hneg : ofT T (one q) < 0
            · have HF := Lib.hid (notMayTok_byte hlt (ofT_one.1 hneg))
              go_wp2_with (fail)
              go_ret
              exact ⟨⟨_, rfl, HF.out⟩, HB3.out⟩
            · have hin : Hid (∀ b, b < q + 1 → one b ∈ T) := Lib.hid (fun b hb => by
                by_cases e : b = q
                · subst e
                  exact Classical.byContradiction fun h => hneg (ofT_one.2 h)
                · exact hall.out b (by omega))
              go_wp2_with (fail)
              go_roundw
              case rel => exact ⟨q + 1, by omega, by go_num, HB3.out, hin⟩
              case measure => simp [intOf]; omega
          · have HF := Lib.hid (mayTok_yes (T := T) (by have := hlen.out; omega) (fun s hs => by obtain ⟨j, hj, rfl⟩ := mem_tk hs; exact (HG.out j hj).1) HG.out.uniq (fun b hb => hall.out b (by omega)))
            go_wp2_with (fail)
            go_ret
            exact ⟨⟨_, rfl, (fun _ => HF.out), (fun _ => rfl)⟩, HB.out⟩

end Go.Proofs.YtimkkkdabmhedaaGreatDoor

/- Walks: cmp.Compare of ints, cmp.Or of three ints. -/
namespace Go.Proofs.YtimkkkdabmhedaaGreatDoor
open Go.RowKit
set_option linter.unusedVariables false

def cmpI (a b : Int) : Int := if a < b then -1 else if b < a then 1 else 0
theorem cmpI_lt {a b : Int} (h : a < b) : cmpI a b = -1 := by unfold cmpI; rw [if_pos h]
theorem cmpI_gt {a b : Int} (h : b < a) : cmpI a b = 1 := by unfold cmpI; rw [if_neg (by omega), if_pos h]
theorem cmpI_eq (a : Int) : cmpI a a = 0 := by unfold cmpI; rw [if_neg (by omega), if_neg (by omega)]
def orI (a b c : Int) : Int := if a ≠ 0 then a else if b ≠ 0 then b else c

set_option maxHeartbeats 400000 in
theorem compareI_calls (a b : Int) (w : World) : Calls Tryz.prog 182 #[.int .i64 a, .int .i64 b] w fun e w' => e = .returned (.int .i64 (cmpI a b)) ∧ w = w' := by
  have ha : (a != a) = false := by simp
  have hb : (b != b) = false := by simp
  rcases Int.lt_trichotomy a b with h | h | h
  · have HF := Lib.hid (cmpI_lt h)
    go_enter Tryz.func182, Tryz.ntmps182
    go_wp2
    go_ret
    exact ⟨ret_i64 HF.out.symm, rfl⟩
  · subst h
    have HF := Lib.hid (cmpI_eq a)
    go_enter Tryz.func182, Tryz.ntmps182
    go_wp2
    go_ret
    exact ⟨ret_i64 HF.out.symm, rfl⟩
  · have HF := Lib.hid (cmpI_gt h)
    have h2 : ¬ a < b := by omega
    go_enter Tryz.func182, Tryz.ntmps182
    go_wp2
    go_ret
    exact ⟨ret_i64 HF.out.symm, rfl⟩

theorem orI_first {a b c : Int} (h : a ≠ 0) : orI a b c = a := by unfold orI; rw [if_pos h]
theorem orI_second {a b c : Int} (h : a = 0) (h2 : b ≠ 0) : orI a b c = b := by unfold orI; rw [if_neg (by omega), if_pos h2]
theorem orI_third {a b c : Int} (h : a = 0) (h2 : b = 0) : orI a b c = c := by unfold orI; rw [if_neg (by omega), if_neg (by omega)]

def nz (A : List Int) : Int := (A.find? (fun x => decide (x ≠ 0))).getD 0
theorem nz_at {A : List Int} {k : Nat} (hk : k < A.length) (h : ∀ j, j < k → ix A j = 0) (h2 : ix A k ≠ 0) : nz A = ix A k := by
  unfold nz
  have : A.find? (fun x => decide (x ≠ 0)) = some (ix A k) := by
    rw [List.find?_eq_some_iff_getElem]
    refine ⟨by simpa using h2, k, hk, ?_, fun j hj => ?_⟩
    · have := ix_eq hk; rw [List.getElem?_eq_getElem hk] at this; exact Option.some.inj this
    · have e : A[j]'(by omega) = ix A j := by have := ix_eq (A := A) (i := j) (by omega); rw [List.getElem?_eq_getElem (by omega)] at this; exact Option.some.inj this
      rw [e, h j hj]; simp
  rw [this]; rfl
theorem nz_none {A : List Int} (h : ∀ j, j < A.length → ix A j = 0) : nz A = 0 := by
  unfold nz
  have : A.find? (fun x => decide (x ≠ 0)) = none := by
    rw [List.find?_eq_none]
    intro x hx
    obtain ⟨j, hj, rfl⟩ := List.getElem_of_mem hx
    have e : A[j] = ix A j := by have := ix_eq hj; rw [List.getElem?_eq_getElem hj] at this; exact Option.some.inj this
    rw [e, h j hj]; simp
  rw [this]; rfl
theorem nz_three (a b c : Int) : nz [a, b, c] = orI a b c := by
  unfold nz orI
  by_cases h1 : a = 0 <;> by_cases h2 : b = 0 <;> by_cases h3 : c = 0 <;> simp [List.find?, h1, h2, h3]

set_option maxHeartbeats 400000 in
theorem or_calls {A : List Int} {ao : Option Addr} {n c : Nat} (w : World) (hA : SlI w ao n c A) : Calls Tryz.prog 181 #[.slice ao n c] w fun e w' => e = .returned (.int .i64 (nz A)) ∧ w = w' := by
  have hm := Nat.le_trans (Sl.le hA) (Sl.max hA)
  unfold maxLen at hm
  have hlen := Lib.hid hA.len
  go_enter Tryz.func181, Tryz.ntmps181
  go_wp2
  go_loop [5, 8] (fun _ i => ∃ k : Nat, k ≤ n ∧ i = .int .i64 k ∧ Hid (∀ j, j < k → ix A j = 0)) (fun _ i => n - (intOf i).toNat)
  case atStart => exact ⟨0, Nat.zero_le _, rfl, Lib.hid (fun j h => by omega)⟩
  case round =>
    obtain ⟨k, hk, rfl, hno⟩ := hrel
    by_cases hlt : k < n
    · obtain ⟨b1, o1, rfl, c1⟩ := hA.at_ hlt
      by_cases hz : ix A k = 0
      · have hb : (ix A k != 0) = false := by simpa using hz
        have hno2 : Hid (∀ j, j < k + 1 → ix A j = 0) := Lib.hid (fun j hj => by
          by_cases e : j = k
          · subst e; exact hz
          · exact hno.out j (by omega))
        clear hz
        go_wp2
        go_round
        case rel => exact ⟨k + 1, by omega, by go_num, hno2⟩
        case measure => simp [intOf]; omega
      · have hb : (ix A k != 0) = true := by simpa using hz
        have HF := Lib.hid (nz_at (by rw [hlen.out]; exact hlt) hno.out hz)
        clear hz
        go_wp2
        go_ret
        exact ⟨ret_i64 HF.out.symm, rfl⟩
    · have HF := Lib.hid (nz_none (A := A) (fun j hj => hno.out j (by rw [hlen.out] at hj; omega)))
      go_wp2
      go_ret
      exact ⟨ret_i64 HF.out.symm, rfl⟩

end Go.Proofs.YtimkkkdabmhedaaGreatDoor

/- Walks: which of two merges stands ahead, by the program and by the document. -/
namespace Go.Proofs.YtimkkkdabmhedaaGreatDoor
open Go.RowKit Go.Sort
set_option linter.unusedVariables false

/-- Two merges, held against each other. -/
def cmpM (a b : Mg) : Int := orI (cmpI a.order b.order) (cmpI a.left b.left) (cmpI a.right b.right)
theorem cmpM_lt {a b : Mg} : cmpM a b < 0 ↔ ahead a b = true := by
  rw [ahead_iff]
  unfold cmpM
  rcases Int.lt_trichotomy a.order b.order with h | h | h
  · rw [cmpI_lt h, orI_first (by omega)]; omega
  · rw [h, cmpI_eq]
    rcases Int.lt_trichotomy a.left b.left with h2 | h2 | h2
    · rw [cmpI_lt h2, orI_second rfl (by omega)]; omega
    · rw [h2, cmpI_eq, orI_third rfl rfl]
      rcases Int.lt_trichotomy a.right b.right with h3 | h3 | h3
      · rw [cmpI_lt h3]; omega
      · rw [h3, cmpI_eq]; omega
      · rw [cmpI_gt h3]; omega
    · rw [cmpI_gt h2, orI_second rfl (by omega)]; omega
  · rw [cmpI_gt h, orI_first (by omega)]; omega

theorem ld4 {P : Program} {w : World} {b o : Nat} {x y z u : Value} (h0 : w.cell? ⟨b, o, none⟩ = some x) (h1 : w.cell? ⟨b, o + 1, none⟩ = some y) (h2 : w.cell? ⟨b, o + 2, none⟩ = some z) (h3 : w.cell? ⟨b, o + 3, none⟩ = some u) :
    Sem.run P (loadCellsFrom ⟨b, o, none⟩ 0 4 #[]) w = .ok #[x, y, z, u] w :=
  run_loadCellsFrom_list P w ⟨b, o, none⟩ [x, y, z, u] 4 rfl (fun j v hj => by
    rw [Addr.add_lit]
    match j, hj with
    | 0, hj => simp at hj; subst hj; exact h0
    | 1, hj => simp at hj; subst hj; exact h1
    | 2, hj => simp at hj; subst hj; exact h2
    | 3, hj => simp at hj; subst hj; exact h3
    | j + 4, hj => simp at hj)

theorem mixedOrders : Tryz.prog.follows .mixedOrders = true := by kernel_rfl

theorem box4 {w : World} {g : Nat} {x y z u : Value} {t : TypeId} (h : w.heap[g]? = some (.cells #[x, y, z, u] t)) : w.cell? ⟨g, 0, none⟩ = some x ∧ w.cell? ⟨g, 1, none⟩ = some y ∧ w.cell? ⟨g, 2, none⟩ = some z ∧ w.cell? ⟨g, 3, none⟩ = some u := by
  simp [World.cell?, h]

theorem keep6 {w0 w w' : World} {p1 p2 p3 p4 p5 p6 : Addr} {v1 v2 v3 v4 v5 v6 : Value} (h : w.cell? p1 = some v1 ∧ w.cell? p2 = some v2 ∧ w.cell? p3 = some v3 ∧ w.cell? p4 = some v4 ∧ w.cell? p5 = some v5 ∧ w.cell? p6 = some v6 ∧ Below w0.heap.size w0 w) (hb : Below w.heap.size w w') :
    w'.cell? p1 = some v1 ∧ w'.cell? p2 = some v2 ∧ w'.cell? p3 = some v3 ∧ w'.cell? p4 = some v4 ∧ w'.cell? p5 = some v5 ∧ w'.cell? p6 = some v6 ∧ Below w0.heap.size w0 w' :=
  ⟨cell_below hb _ _ h.1, cell_below hb _ _ h.2.1, cell_below hb _ _ h.2.2.1, cell_below hb _ _ h.2.2.2.1, cell_below hb _ _ h.2.2.2.2.1, cell_below hb _ _ h.2.2.2.2.2.1, h.2.2.2.2.2.2.trans (hb.mono h.2.2.2.2.2.2.size)⟩
theorem SlI.three (w : World) (x y z : Int) (t : TypeId) : SlI (w.alloc (.cells #[.int .i64 x, .int .i64 y, .int .i64 z] t)) (some ⟨w.heap.size, 0, .none⟩) 3 3 [x, y, z] := by
  refine ⟨rfl, Nat.le_refl _, by unfold maxLen; omega, by simp, fun i u hu => ?_⟩
  match i, hu with
  | 0, hu => simp at hu; subst hu; exact ⟨_, _, rfl, by simp⟩
  | 1, hu => simp at hu; subst hu; exact ⟨_, _, rfl, by simp⟩
  | 2, hu => simp at hu; subst hu; exact ⟨_, _, rfl, by simp⟩
  | i + 3, hu => simp at hu

set_option maxHeartbeats 1000000 in
theorem order_g (a b : Mg) (w : World) :
    Calls Tryz.prog 169 #[.agg #[.int .i64 a.left, .int .i64 a.right, .int .i64 a.out, .int .i64 a.order], .agg #[.int .i64 b.left, .int .i64 b.right, .int .i64 b.out, .int .i64 b.order]] w
      fun e w' => e = .returned (.int .i64 (cmpM a b)) ∧ ∃ q os, w' = grow (w.drewN q) os := by
  obtain ⟨w1, hw1⟩ : ∃ w1, w.alloc (.cells #[.int .i64 a.left, .int .i64 a.right, .int .i64 a.out, .int .i64 a.order] 165) = w1 := ⟨_, rfl⟩
  obtain ⟨w2, hw2⟩ : ∃ w2, w1.alloc (.cells #[.int .i64 b.left, .int .i64 b.right, .int .i64 b.out, .int .i64 b.order] 165) = w2 := ⟨_, rfl⟩
  have hb1 : Below w.heap.size w w1 := hw1 ▸ below_alloc w _
  have hb2 : Below w1.heap.size w1 w2 := hw2 ▸ below_alloc w1 _
  have hs1 : w1.heap.size = w.heap.size + 1 := by rw [← hw1]; simp
  have ha1 : w1.heap[w.heap.size]? = some (.cells #[.int .i64 a.left, .int .i64 a.right, .int .i64 a.out, .int .i64 a.order] 165) := by rw [← hw1]; exact heap_alloc_new w _
  have ha2 := (hb2.block w.heap.size (by omega)).trans ha1
  have hbb : w2.heap[w1.heap.size]? = some (.cells #[.int .i64 b.left, .int .i64 b.right, .int .i64 b.out, .int .i64 b.order] 165) := by rw [← hw2]; exact heap_alloc_new w1 _
  obtain ⟨a0, a1, _, a3⟩ := box4 ha2
  obtain ⟨b0, b1, _, b3⟩ := box4 hbb
  have HW := Lib.hid (hb1.trans (hb2.mono hb1.size))
  have H1 := Lib.hid hw1
  have H2 := Lib.hid hw2
  have HS1 := Lib.hid hs1
  rw [hs1] at b0 b1 b3
  clear hb1 hb2 hs1 ha1 ha2 hbb hw1 hw2
  go_enter Tryz.func169, Tryz.ntmps169
  go_wp2_with (fail)
  rw [H1.out, H2.out]
  go_region_held3 (fun w' => w'.cell? ⟨w.heap.size, 3, none⟩ = some (.int .i64 a.order) ∧ w'.cell? ⟨w.heap.size + 1, 3, none⟩ = some (.int .i64 b.order) ∧ w'.cell? ⟨w.heap.size, 0, none⟩ = some (.int .i64 a.left) ∧ w'.cell? ⟨w.heap.size + 1, 0, none⟩ = some (.int .i64 b.left) ∧ w'.cell? ⟨w.heap.size, 1, none⟩ = some (.int .i64 a.right) ∧ w'.cell? ⟨w.heap.size + 1, 1, none⟩ = some (.int .i64 b.right) ∧ Below w2.heap.size w2 w')
    (first | assumption | exact ⟨a3, b3, a0, b0, a1, b1, (Below.refl _ _).drew⟩ | exact keep6 (by assumption) (below_alloc _ _))
    (first
      | (go_at_call_of 182 (Value.int .i64 a.order); refine (compareI_calls a.order b.order _).mono ?_; rintro e w' ⟨rfl, rfl⟩)
      | (go_at_call_of 182 (Value.int .i64 a.left); refine (compareI_calls a.left b.left _).mono ?_; rintro e w' ⟨rfl, rfl⟩)
      | (go_at_call_of 182 (Value.int .i64 a.right); refine (compareI_calls a.right b.right _).mono ?_; rintro e w' ⟨rfl, rfl⟩)
      | (go_at_call 181; refine (or_calls _ (SlI.drew (SlI.three w2 _ _ _ _))).mono ?_; rintro e w' ⟨rfl, rfl⟩))
  all_goals (go_wp2_with (fail); go_ret; refine ⟨ret_i64 (nz_three _ _ _), 1, #[.cells #[.int .i64 a.left, .int .i64 a.right, .int .i64 a.out, .int .i64 a.order] 165, .cells #[.int .i64 b.left, .int .i64 b.right, .int .i64 b.out, .int .i64 b.order] 165, .cells #[.int .i64 (cmpI a.order b.order), .int .i64 (cmpI a.left b.left), .int .i64 (cmpI a.right b.right)] 3], ?_⟩)
  rw [← H2.out, ← H1.out, alloc_eq_grow, alloc_eq_grow, alloc_eq_grow, grow_grow, grow_grow]
  rfl

theorem below_grow (w : World) (n : Nat) (os : Array Obj) : Below w.heap.size w (grow (w.drewN n) os) := by
  refine ⟨rfl, rfl, rfl, by show w.heap.size ≤ (w.heap ++ os).size; simp, fun k hk => ?_⟩
  show (w.heap ++ os)[k]? = w.heap[k]?
  exact Array.getElem?_append_left hk

set_option maxHeartbeats 1000000 in
theorem ahead_calls (a b : Mg) (w : World) :
    Calls Tryz.prog 115 #[.agg #[.int .i64 a.left, .int .i64 a.right, .int .i64 a.out, .int .i64 a.order], .agg #[.int .i64 b.left, .int .i64 b.right, .int .i64 b.out, .int .i64 b.order]] w
      fun e w' => e = .returned (.bool (ahead a b)) ∧ Below w.heap.size w w' := by
  obtain ⟨w1, hw1⟩ : ∃ w1, w.alloc (.cells #[.int .i64 a.left, .int .i64 a.right, .int .i64 a.out, .int .i64 a.order] 165) = w1 := ⟨_, rfl⟩
  obtain ⟨w2, hw2⟩ : ∃ w2, w1.alloc (.cells #[.int .i64 b.left, .int .i64 b.right, .int .i64 b.out, .int .i64 b.order] 165) = w2 := ⟨_, rfl⟩
  have hb1 : Below w.heap.size w w1 := hw1 ▸ below_alloc w _
  have hb2 : Below w1.heap.size w1 w2 := hw2 ▸ below_alloc w1 _
  have hs1 : w1.heap.size = w.heap.size + 1 := by rw [← hw1]; simp
  have ha1 : w1.heap[w.heap.size]? = some (.cells #[.int .i64 a.left, .int .i64 a.right, .int .i64 a.out, .int .i64 a.order] 165) := by rw [← hw1]; exact heap_alloc_new w _
  have ha2 := (hb2.block w.heap.size (by omega)).trans ha1
  have hbb : w2.heap[w1.heap.size]? = some (.cells #[.int .i64 b.left, .int .i64 b.right, .int .i64 b.out, .int .i64 b.order] 165) := by rw [← hw2]; exact heap_alloc_new w1 _
  obtain ⟨a0, a1, _, a3⟩ := box4 ha2
  obtain ⟨b0, b1, _, b3⟩ := box4 hbb
  have HW := Lib.hid (hb1.trans (hb2.mono hb1.size))
  have H1 := Lib.hid hw1
  have H2 := Lib.hid hw2
  have hq : ahead a b = decide (a.order < b.order ∨ (a.order = b.order ∧ (a.left < b.left ∨ (a.left = b.left ∧ a.right < b.right)))) := rfl
  have HQ := Lib.hid hq
  rw [hs1] at b0 b1 b3
  clear hb1 hb2 hs1 ha1 ha2 hbb hw1 hw2 hq
  by_cases ho : a.order = b.order
  · have n1 : (a.order != b.order) = false := by simpa using ho
    by_cases hl : a.left = b.left
    · have n2 : (a.left != b.left) = false := by simpa using hl
      have HF : Hid (ahead a b = decide (a.right < b.right)) := Lib.hid (by rw [HQ.out]; simp [ho, hl])
      clear ho hl
      go_enter Tryz.func115, Tryz.ntmps115
      go_wp2_with (fail)
      rw [H1.out, H2.out]
      go_ret
      exact ⟨ret_bool HF.out.symm, HW.out⟩
    · have n2 : (a.left != b.left) = true := by simpa using hl
      have HF : Hid (ahead a b = decide (a.left < b.left)) := Lib.hid (by rw [HQ.out]; simp [ho, hl])
      clear ho hl
      go_enter Tryz.func115, Tryz.ntmps115
      go_wp2_with (fail)
      rw [H1.out, H2.out]
      go_ret
      exact ⟨ret_bool HF.out.symm, HW.out⟩
  · have n1 : (a.order != b.order) = true := by simpa using ho
    have HF : Hid (ahead a b = decide (a.order < b.order)) := Lib.hid (by rw [HQ.out]; simp [ho])
    clear ho
    go_enter Tryz.func115, Tryz.ntmps115
    go_wp2_with (fail)
    rw [H1.out, H2.out]
    go_ret
    exact ⟨ret_bool HF.out.symm, HW.out⟩

end Go.Proofs.YtimkkkdabmhedaaGreatDoor

/- Pairs of numbers as a map's keys; 'm[k]++' where the translation makes an entry first. -/
namespace Go.Proofs.YtimkkkdabmhedaaGreatDoor
open Go.RowKit Go.Maps Go.ChangeMaps Go.WideMaps Go.WideElems
set_option linter.unusedVariables false

theorem laidAll : laidOutB Tryz.prog = true := by kernel_rfl
theorem rowTwo : (231 : TypeId) < Tryz.prog.types.size := of_decide_eq_true (by kernel_rfl)
theorem wideTwo : (match Tryz.prog.underlying 231 with | some (.array _ _) | some (.struct _) => true | _ => false) = true := by kernel_rfl
set_option maxRecDepth 100000 in
theorem keyedTwo : Keyed Tryz.prog 231 := Keyed.of_law (deep_law_laid laidAll (m := 2) (by omega) rowTwo (by kernel_rfl) wideTwo)
theorem keyTypeTwo : Tryz.prog.keyType 231 = true := by kernel_rfl
theorem cellsTwo : Tryz.prog.cellsOf 231 = 2 := by kernel_rfl

theorem keyOf_two {a b : Int} (ha : (Lit.int .i64 a).wf = true) (hb : (Lit.int .i64 b).wf = true) : (keyOf Tryz.prog 231 (.agg #[.int .i64 a, .int .i64 b])).isSome = true := by
  have hf : (Value.agg #[.int .i64 a, .int .i64 b]).formed Tryz.prog 231 = true := by
    simp [Value.formed, Tryz.underlying231, cellsTwo]
  have hk : ∀ n, (Tryz.prog.keyLits (n + 2) 231 [.int .i64 a, .int .i64 b]).isSome = true := by
    intro n
    have h3 : Tryz.prog.cellsOf 3 = 1 := by kernel_rfl
    unfold Program.keyLits
    simp [Tryz.underlying231, cellsTwo, h3, Program.keyLits, Tryz.underlying3, ha, hb]
  unfold keyOf
  rw [Tryz.underlying231]
  simp only [keyTypeTwo, hf, Bool.and_self, if_true]
  obtain ⟨n, hn⟩ : ∃ n, Tryz.prog.types.size + 1 = n + 2 := ⟨Tryz.prog.types.size - 1, by
    have h : (0 : Nat) < Tryz.prog.types.size := Nat.lt_of_le_of_lt (Nat.zero_le _) rowTwo
    omega⟩
  have h2 := hk n
  rw [← hn] at h2
  show (Option.map _ (Tryz.prog.keyLits (Tryz.prog.types.size + 1) _ [.int .i64 a, .int .i64 b])).isSome = true
  rw [Option.isSome_map]
  exact h2

noncomputable def twoView : KeyView Tryz.prog 231 (Int × Int) :=
  KeyView.of (fun p => .agg #[.int .i64 p.1, .int .i64 p.2]) (fun p => (Lit.int .i64 p.1).wf = true ∧ (Lit.int .i64 p.2).wf = true) (fun p h => keyOf_two h.1 h.2)
    (fun x y h => by simp at h; exact Prod.ext h.1 h.2) keyedTwo

end Go.Proofs.YtimkkkdabmhedaaGreatDoor
