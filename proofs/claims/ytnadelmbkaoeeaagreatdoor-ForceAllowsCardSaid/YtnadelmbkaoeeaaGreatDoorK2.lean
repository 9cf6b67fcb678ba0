/- Walks: may tokens be? The whole of it, by the program and by the document. -/
import Derived.Test.YtnadelmbkaoeeaaGreatDoorK1
import Derived.Deep.RegionHeld3
import Derived.Shelf.SlSortCmp.QuietGrown
import Derived.Shelf.SlicesQ.Load
import Derived.DeepKeys4
import Derived.Maps.Own
import Derived.Deep.DeepCutAuto
namespace Go.Proofs.YtnadelmbkaoeeaaGreatDoor
open Go.RowKit Go.Maps Go.ChangeMaps Go.WideMaps
set_option linter.unusedVariables false

set_option maxHeartbeats 400000 in
/-- Is a token longer than 64 bytes? -/
theorem long_calls (s : ByteArray) (hs : s.size ≤ maxLen) (w : World) :
    Calls Tryz.prog 157 #[.string s] w fun e w' => e = .returned (.bool (decide (64 < s.size))) ∧ w = w' := by
  unfold maxLen at hs
  by_cases h : (64 : Int) < s.size
  · have h2 : 64 < s.size := by omega
    go_enter Tryz.func157, Tryz.ntmps157
    go_wp2
    go_ret
    exact ⟨ret_bool (by simp; omega), rfl⟩
  · have h2 : ¬ 64 < s.size := by omega
    go_enter Tryz.func157, Tryz.ntmps157
    go_wp2
    go_ret
    exact ⟨ret_bool (by simp), rfl⟩

/-- The first one that is longer; -1. -/
def LongPost (T : List ByteArray) (w : World) (e : Ending) (w' : World) : Prop := (∃ i : Int, e = .returned (.int .i64 i) ∧ (0 ≤ i ↔ ∃ s ∈ T, 64 < s.size)) ∧ w = w'

set_option maxHeartbeats 400000 in
theorem indexLong_calls {T : List ByteArray} {ao : Option Addr} {n c : Nat} (w : World) (hT : SlS w ao n c T) (hsz : ∀ s ∈ T, s.size ≤ maxLen) :
    Calls Tryz.prog 179 #[.slice ao n c, .func (.func 157) #[] #[]] w (LongPost T w) := by
  have hm := Nat.le_trans (Sl.le hT) (Sl.max hT)
  unfold maxLen at hm
  have hlen := Lib.hid hT.count
  have HS := Lib.hid hsz
  clear hsz
  go_enter Tryz.func179, Tryz.ntmps179
  go_wp2
  go_loop [5, 8] (fun _ i => ∃ k : Nat, k ≤ n ∧ i = .int .i64 k ∧ Hid (∀ j, j < k → ¬ 64 < (tk T j).size)) (fun _ i => n - (intOf i).toNat)
  case atStart => exact ⟨0, Nat.zero_le _, rfl, Lib.hid (fun j h => by omega)⟩
  case round =>
    obtain ⟨k, hk, rfl, hno⟩ := hrel
    by_cases hlt : k < n
    · have hkT : k < T.length := by have := hlen.out; omega
      obtain ⟨b, o, rfl, hc⟩ := hT.cell (tk_eq (T := T) (i := k) hkT)
      have hks := Lib.hid (HS.out _ (tk_mem hkT))
      go_wp2_with (fail)
      refine (long_calls (tk T k) hks.out w).mono ?_
      rintro e w' ⟨rfl, rfl⟩
      by_cases hl : 64 < (tk T k).size
      · have hfin : Hid ((0 : Int) ≤ (k : Int) ↔ ∃ s ∈ T, 64 < s.size) := Lib.hid ⟨fun _ => ⟨_, tk_mem hkT, hl⟩, fun _ => by omega⟩
        go_wp2
        go_ret
        exact ⟨⟨_, rfl, hfin.out⟩, rfl⟩
      · have hno2 : Hid (∀ j, j < k + 1 → ¬ 64 < (tk T j).size) := Lib.hid (fun j hj => by
          by_cases ej : j = k
          · subst ej; exact hl
          · exact hno.out j (by omega))
        go_wp2
        go_round
        case rel => exact ⟨k + 1, by omega, by go_num, hno2⟩
        case measure => simp [intOf]; omega
    · have hfin : Hid ((0 : Int) ≤ -1 ↔ ∃ s ∈ T, 64 < s.size) := Lib.hid ⟨fun h => by omega, fun ⟨s, hs, h⟩ => by
        obtain ⟨j, hj, rfl⟩ := mem_tk hs
        exact absurd h (hno.out j (by have := hlen.out; omega))⟩
      go_wp2
      go_ret
      exact ⟨⟨_, rfl, hfin.out⟩, rfl⟩

set_option maxHeartbeats 400000 in
theorem containsLong_calls {T : List ByteArray} {ao : Option Addr} {n c : Nat} (w : World) (hT : SlS w ao n c T) (hsz : ∀ s ∈ T, s.size ≤ maxLen) :
    Calls Tryz.prog 156 #[.slice ao n c, .func (.func 157) #[] #[]] w fun e w' => (∃ b, e = .returned (.bool b) ∧ (b = true ↔ ∃ s ∈ T, 64 < s.size)) ∧ w = w' := by
  go_enter Tryz.func156, Tryz.ntmps156
  go_wp2_with (fail)
  refine (indexLong_calls w hT hsz).mono ?_
  rintro e w' ⟨⟨i, rfl, hi⟩, rfl⟩
  have HI := Lib.hid hi
  clear hi
  go_wp2
  go_ret
  exact ⟨⟨_, rfl, by simp [HI.out]⟩, rfl⟩

/-- What is answered to 'may tokens be?'. -/
def MayTokPost (T : List ByteArray) (w : World) (e : Ending) (w' : World) : Prop := (∃ b, e = .returned (.bool b) ∧ (b = true ↔ MayTok T)) ∧ Below w.heap.size w w'

theorem notMayTok_long {T : List ByteArray} (h : 4096 < T.length) : (false = true ↔ MayTok T) := ⟨(fun h => by cases h), fun h2 => by have := h2.1; omega⟩
theorem notMayTok_tok {T : List ByteArray} (h : ∃ s ∈ T, 64 < s.size) : (false = true ↔ MayTok T) := ⟨(fun h => by cases h), fun h2 => by obtain ⟨s, hs, h⟩ := h; have := h2.2.1 s hs; omega⟩
theorem notMayTok_uniq {T : List ByteArray} (h : ¬ Uniq T) : (false = true ↔ MayTok T) := ⟨(fun h => by cases h), fun h2 => absurd h2.2.2.1 h⟩
theorem notMayTok_byte {T : List ByteArray} {b : Nat} (hb : b < 256) (h : one b ∉ T) : (false = true ↔ MayTok T) := ⟨(fun h => by cases h), fun h2 => absurd (h2.2.2.2 b hb) h⟩
theorem mayTok_yes {T : List ByteArray} (h1 : T.length ≤ 4096) (h2 : ∀ s ∈ T, s.size ≤ 64) (h3 : Uniq T) (h4 : ∀ b, b < 256 → one b ∈ T) : MayTok T := ⟨h1, h2, h3, h4⟩

theorem one_size (b : Nat) : (one b).size = 1 := rfl
theorem one_maxLen (b : Nat) : (one b).size ≤ maxLen := by rw [one_size]; unfold maxLen; omega
theorem PlaceR.one_in {T : List ByteArray} {f : ByteArray → Option Int} (h : PlaceR T T.length f) (b : Nat) : (f (one b)).isSome = true ↔ one b ∈ T := by
  constructor
  · intro h1
    obtain ⟨i, hi⟩ := Option.isSome_iff_exists.1 h1
    obtain ⟨_, j, h2, _, h4⟩ := (h _ _).1 hi
    rw [← h4]; exact tk_mem h2
  · intro h1
    obtain ⟨j, hj, e⟩ := mem_tk h1
    have : f (one b) = some (j : Int) := (h _ _).2 ⟨by rw [one_size]; omega, j, hj, rfl, e⟩
    rw [this]; rfl

theorem lawStr : Go.Maps.Keyed Tryz.prog 9 := Go.Maps.string_keyed Tryz.underlying9

theorem conv_one (w : World) (k : Nat) : (convert 102 9 (.slice (some ⟨w.heap.size, 0, none⟩) 1 1)).run Tryz.prog (w.alloc (.cells #[.int .u8 (k : Int)] 5)) = .ok (.string (one k)) (w.alloc (.cells #[.int .u8 (k : Int)] 5)) := by
  rw [run_convert_bytes_string (P := Tryz.prog) _ 102 9 5 _ _ _ Tryz.underlying102 Tryz.underlying5 Tryz.underlying9]
  rw [run_bytesToString _ _ _ _ [(k : Int)] (by
    exact run_loadCells_list (w := w.alloc (.cells #[.int .u8 (k : Int)] 5)) (P := Tryz.prog) ⟨w.heap.size, 0, none⟩ [.int .u8 (k : Int)] (fun j v hj => by
      match j, hj with
      | 0, hj => simp at hj; subst hj; rw [Addr.add_lit]; simp
      | j + 1, hj => simp at hj))]
  rfl

set_option maxHeartbeats 1000000 in
set_option maxRecDepth 100000 in
theorem mayTokens_calls {T : List ByteArray} {ao : Option Addr} {n c : Nat} (w : World) (hT : SlS w ao n c T) (hsz : ∀ s ∈ T, s.size ≤ maxLen) :
    Calls Tryz.prog 130 #[.slice ao n c] w (MayTokPost T w) := by
  have hm := Nat.le_trans (Sl.le hT) (Sl.max hT)
  unfold maxLen at hm
  have hlen := Lib.hid hT.count
  have HT := Lib.hid hT
  have HS := Lib.hid hsz
  clear hT hsz
  by_cases hl : (4096 : Int) < n
  · have HF := Lib.hid (notMayTok_long (T := T) (by have := hlen.out; omega))
    go_enter Tryz.func130, Tryz.ntmps130
    go_wp2_with (fail)
    go_ret
    exact ⟨⟨_, rfl, HF.out⟩, Below.refl _ _⟩
  · go_enter Tryz.func130, Tryz.ntmps130
    go_wp2_with (fail)
    refine (containsLong_calls w HT.out HS.out).mono ?_
    rintro e w' ⟨⟨b, rfl, hb⟩, rfl⟩
    cases b with
    | true =>
      have HF := Lib.hid (notMayTok_tok (hb.1 rfl))
      clear hb
      go_wp2
      go_ret
      exact ⟨⟨_, rfl, HF.out⟩, Below.refl _ _⟩
    | false =>
      have H64 : Hid (∀ s ∈ T, s.size ≤ 64) := Lib.hid (fun s hs => by
        rcases Nat.lt_or_ge 64 s.size with h | h
        · have := hb.2 ⟨s, hs, h⟩; cases this
        · exact h)
      clear hb
      go_wp2_with (fail)
      refine (places_calls _ HT.out HS.out (by omega)).mono ?_
      rintro e w1 ⟨⟨hu, mb, sz, f, rfl, hmb, hmap, hpl⟩ | ⟨hnu, rfl⟩, hb1⟩
      · have HU := Lib.hid hu
        have HM := Lib.hid hmap
        have HP := Lib.hid hpl
        have HB1 := Lib.hid hb1
        clear hu hmap hpl hb1
        go_wp2
        go_loopw [5, 6, 7, 20] (fun _ _ _ i wr => ∃ k : Nat, k ≤ 256 ∧ i = .int .i64 k ∧ Below w.heap.size w wr ∧ MapS wr mb sz f ∧ Hid (∀ b, b < k → one b ∈ T)) (fun _ _ _ i _ => 256 - (intOf i).toNat)
        case atStart => exact ⟨0, by omega, rfl, HB1.out, HM.out, Lib.hid (fun b hb => by omega)⟩
        case round =>
          obtain ⟨k, hk, rfl, hb, hmap, hall⟩ := hrel
          have HB := Lib.hid hb
          have HM2 := Lib.hid hmap
          clear hb hmap
          by_cases hlt : k < 256
          · have hw8 : IntKind.u8.wrap (k : Int) = (k : Int) := by rw [IntKind.wrap_u8]; omega
            have hcv := conv_one wr k
            have HB3 := Lib.hid (HB.out.alloc HB.out.size (.cells #[.int .u8 (k : Int)] 5))
            have HM3 := Lib.hid (HM2.out.alloc (.cells #[.int .u8 (k : Int)] 5))
            cases hf : (f (one k)).isSome with
            | true =>
              have hin : Hid (∀ b, b < k + 1 → one b ∈ T) := Lib.hid (fun b hb => by
                by_cases e : b = k
                · subst e; exact (HP.out.one_in b).1 hf
                · exact hall.out b (by omega))
              go_wp2_with (with_reducible show wpList _ _ _ (⟨_, .lookup _ _ _ _, _, _, _, _⟩ :: _) _ _; refine wpList_ms_ok rfl _ _ rfl rfl HM3.out rfl (one_maxLen k) ?_; rw [hf])
              go_roundw
              case rel => exact ⟨k + 1, by omega, by go_num, HB3.out, HM3.out, hin⟩
              case measure => simp [intOf]; omega
            | false =>
              have HF := Lib.hid (notMayTok_byte hlt (fun h => by rw [(HP.out.one_in k).2 h] at hf; cases hf))
              go_wp2_with (with_reducible show wpList _ _ _ (⟨_, .lookup _ _ _ _, _, _, _, _⟩ :: _) _ _; refine wpList_ms_ok rfl _ _ rfl rfl HM3.out rfl (one_maxLen k) ?_; rw [hf])
              go_ret
              exact ⟨⟨_, rfl, HF.out⟩, HB3.out⟩
          · have HF := Lib.hid (mayTok_yes (by have := hlen.out; omega) H64.out HU.out (fun b hb => hall.out b (by omega)))
            go_wp2
            go_ret
            exact ⟨⟨_, rfl, (fun _ => HF.out), (fun _ => rfl)⟩, HB.out⟩
      · have HF := Lib.hid (notMayTok_uniq hnu)
        have HB1 := Lib.hid hb1
        have hcv := conv_one w1 0
        rw [show ((0 : Nat) : Int) = 0 from rfl] at hcv
        have HB3 := Lib.hid (HB1.out.alloc HB1.out.size (.cells #[.int .u8 ((0 : Nat) : Int)] 5))
        have hlk := fun w : World => Go.Maps.look_nil (P := Tryz.prog) (w := w) true lawStr Tryz.underlying117 (zeroInt w) (key := .string (one 0)) (keyOf_string_mk Tryz.underlying9 (one_maxLen 0))
        clear hnu hb1
        go_wp2
        go_loopw [5, 6, 7, 20] (fun _ _ _ i wr => i = .int .i64 0 ∧ wr = w1) (fun _ _ _ i _ => 0)
        case atStart => exact ⟨rfl, rfl⟩
        case round =>
          obtain ⟨rfl, rfl⟩ := hrel
          go_wp2
          go_ret
          exact ⟨⟨_, rfl, HF.out⟩, HB3.out⟩

end Go.Proofs.YtnadelmbkaoeeaaGreatDoor

/- Walk: may tokens be, by the document? -/
namespace Go.Proofs.YtnadelmbkaoeeaaGreatDoor
open Go.RowKit
set_option linter.unusedVariables false

def GoodTo (T : List ByteArray) (k : Nat) : Prop := ∀ j, j < k → (tk T j).size ≤ 64 ∧ ((tk T j).size ≠ 0 → ofT T (tk T j) = j)
theorem GoodTo.uniq {T : List ByteArray} (h : GoodTo T T.length) : Uniq T := fun i j h1 h2 e => by
  by_cases hz : (tk T i).size = 0
  · exact hz
  · have a := (h i (by omega)).2 hz
    have b := (h j h2).2 (by rw [← e]; exact hz)
    rw [← e, a] at b
    omega
theorem GoodTo.next {T : List ByteArray} {k : Nat} (h : GoodTo T k) (h1 : (tk T k).size ≤ 64) (h2 : (tk T k).size ≠ 0 → ofT T (tk T k) = k) : GoodTo T (k + 1) := fun j hj => by
  by_cases e : j = k
  · subst e; exact ⟨h1, h2⟩
  · exact h j (by omega)
theorem not_uniq {T : List ByteArray} {k : Nat} (hk : k < T.length) (hz : (tk T k).size ≠ 0) (h : ofT T (tk T k) ≠ k) : ¬ Uniq T := fun hu => h (hu.of hk hz)
theorem ofT_one {T : List ByteArray} {b : Nat} : ofT T (one b) < 0 ↔ one b ∉ T := by
  rcases ofT_cases T (one b) with ⟨h0, _⟩ | ⟨_, ⟨i, hi, h1, _, e⟩⟩ | ⟨_, h1, e⟩
  · rw [one_size] at h0; omega
  · rw [e]
    constructor
    · intro h; omega
    · intro h; exact absurd (h1 ▸ tk_mem hi) h
  · rw [e]
    constructor
    · intro _ h
      obtain ⟨j, hj, e2⟩ := mem_tk h
      exact h1 j hj e2
    · intro _; omega

set_option maxHeartbeats 1000000 in
set_option maxRecDepth 100000 in
theorem rmayTokens_calls {T : List ByteArray} {ao : Option Addr} {n c : Nat} (w : World) (hT : SlS w ao n c T) (hsz : ∀ s ∈ T, s.size ≤ maxLen) :
    Calls Tryz.prog 63 #[.slice ao n c] w (MayTokPost T w) := by
  have hm := Nat.le_trans (Sl.le hT) (Sl.max hT)
  unfold maxLen at hm
  have hlen := Lib.hid hT.count
  have HT := Lib.hid hT
  have HS := Lib.hid hsz
  clear hT hsz
  by_cases hl : (4096 : Int) < n
  · have HF := Lib.hid (notMayTok_long (T := T) (by have := hlen.out; omega))
    go_enter Tryz.func63, Tryz.ntmps63
    go_wp2_with (fail)
    go_ret
    exact ⟨⟨_, rfl, HF.out⟩, Below.refl _ _⟩
  · go_enter Tryz.func63, Tryz.ntmps63
    go_wp2_with (fail)
    go_loop [3, 10] (fun _ i => ∃ k : Nat, k ≤ n ∧ i = .int .i64 k ∧ Hid (GoodTo T k)) (fun _ i => n - (intOf i).toNat)
    case atStart => exact ⟨0, Nat.zero_le _, rfl, Lib.hid (fun j h => by omega)⟩
    case round =>
      obtain ⟨k, hk, rfl, hg⟩ := hrel
      by_cases hlt : k < n
      · have hkT : k < T.length := by have := hlen.out; omega
        obtain ⟨b, o, rfl, hc⟩ := SlS.cell HT.out (tk_eq (T := T) (i := k) hkT)
        have hks := HS.out _ (tk_mem hkT)
        unfold maxLen at hks
        by_cases h64 : (64 : Int) < (tk T k).size
        · have HF := Lib.hid (notMayTok_tok ⟨_, tk_mem hkT, by omega⟩)
          go_wp2_with (fail)
          go_ret
          exact ⟨⟨_, rfl, HF.out⟩, Below.refl _ _⟩
        · have h64' : (tk T k).size ≤ 64 := by omega
          by_cases hz : (tk T k).size = 0
          · obtain ⟨e1, e2, e3⟩ := strE_yes hz
            have hg2 := Lib.hid (hg.out.next h64' (fun h => absurd hz h))
            clear hz
            go_wp2_with (fail)
            go_round
            case rel => exact ⟨k + 1, by omega, by go_num, hg2⟩
            case measure => simp [intOf]; omega
          · obtain ⟨e1, e2, e3⟩ := strE_no hz
            have HZ := Lib.hid hz
            clear hz
            go_wp2_with (fail)
            refine (rof_calls (tk T k) w HT.out).mono ?_
            rintro e w' ⟨rfl, rfl⟩
            by_cases he : ofT T (tk T k) = k
            · have hg2 := Lib.hid (hg.out.next h64' (fun _ => he))
              rw [he]
              have hne : ((k : Int) != (k : Int)) = false := by simp
              clear he
              go_wp2_with (fail)
              go_round
              case rel => exact ⟨k + 1, by omega, by go_num, hg2⟩
              case measure => simp [intOf]; omega
            · have HF := Lib.hid (notMayTok_uniq (not_uniq hkT HZ.out he))
              have hne : (ofT T (tk T k) != (k : Int)) = true := by simpa using he
              clear he
              go_wp2_with (fail)
              go_ret
              exact ⟨⟨_, rfl, HF.out⟩, Below.refl _ _⟩
      · have HG : Hid (GoodTo T T.length) := Lib.hid (by rw [hlen.out]; have : n = k := (by omega); rw [this]; exact hg.out)
        go_wp2_with (fail)
        go_loopw [4] (fun i wr => ∃ k : Nat, k ≤ 256 ∧ i = .int .i64 k ∧ Below w.heap.size w wr ∧ Hid (∀ b, b < k → one b ∈ T)) (fun i _ => 256 - (intOf i).toNat)
        case atStart => exact ⟨0, by omega, rfl, Below.refl _ _, Lib.hid (fun b hb => by omega)⟩
        case round =>
          obtain ⟨q, hq, rfl, hb, hall⟩ := hrel
          have HB := Lib.hid hb
          clear hb
          by_cases hlt : q < 256
          · have hw8 : IntKind.u8.wrap (q : Int) = (q : Int) := by rw [IntKind.wrap_u8]; omega
            have hcv := conv_one wr q
            have HB3 := Lib.hid (HB.out.alloc HB.out.size (.cells #[.int .u8 (q : Int)] 5))
            go_wp2_with (fail)
            refine (rof_calls (one q) _ (Sl.below HT.out HB3.out)).mono ?_
            rintro e w' ⟨rfl, rfl⟩
            by_cases hneg : ofT T (one q) < 0
            · have HF := Lib.hid (notMayTok_byte hlt (ofT_one.1 hneg))
              go_wp2_with (fail)
              go_ret
              exact ⟨⟨_, rfl, HF.out⟩, HB3.out⟩
            · have hin : Hid (∀ b, b < q + 1 → one b ∈ T) := Lib.hid (fun b hb => by
                by_cases e : b = q
                · subst e
                  exact Classical.byContradiction fun h => hneg (ofT_one.2 h)
                · exact hall.out b (by omega))
              go_wp2_with (fail)
              go_roundw
              case rel => exact ⟨q + 1, by omega, by go_num, HB3.out, hin⟩
              case measure => simp [intOf]; omega
          · have HF := Lib.hid (mayTok_yes (T := T) (by have := hlen.out; omega) (fun s hs => by obtain ⟨j, hj, rfl⟩ := mem_tk hs; exact (HG.out j hj).1) HG.out.uniq (fun b hb => hall.out b (by omega)))
            go_wp2_with (fail)
            go_ret
            exact ⟨⟨_, rfl, (fun _ => HF.out), (fun _ => rfl)⟩, HB.out⟩

end Go.Proofs.YtnadelmbkaoeeaaGreatDoor

/- Walks: cmp.Compare of ints, cmp.Or of three ints. -/
namespace Go.Proofs.YtnadelmbkaoeeaaGreatDoor
open Go.RowKit
set_option linter.unusedVariables false

def cmpI (a b : Int) : Int := if a < b then -1 else if b < a then 1 else 0
theorem cmpI_lt {a b : Int} (h : a < b) : cmpI a b = -1 := by unfold cmpI; rw [if_pos h]
theorem cmpI_gt {a b : Int} (h : b < a) : cmpI a b = 1 := by unfold cmpI; rw [if_neg (by omega), if_pos h]
theorem cmpI_eq (a : Int) : cmpI a a = 0 := by unfold cmpI; rw [if_neg (by omega), if_neg (by omega)]
def orI (a b c : Int) : Int := if a ≠ 0 then a else if b ≠ 0 then b else c

set_option maxHeartbeats 400000 in
theorem compareI_calls (a b : Int) (w : World) : Calls Tryz.prog 75 #[.int .i64 a, .int .i64 b] w fun e w' => e = .returned (.int .i64 (cmpI a b)) ∧ w = w' := by
  have ha : (a != a) = false := by simp
  have hb : (b != b) = false := by simp
  rcases Int.lt_trichotomy a b with h | h | h
  · have HF := Lib.hid (cmpI_lt h)
    go_enter Tryz.func75, Tryz.ntmps75
    go_wp2
    go_ret
    exact ⟨ret_i64 HF.out.symm, rfl⟩
  · subst h
    have HF := Lib.hid (cmpI_eq a)
    go_enter Tryz.func75, Tryz.ntmps75
    go_wp2
    go_ret
    exact ⟨ret_i64 HF.out.symm, rfl⟩
  · have HF := Lib.hid (cmpI_gt h)
    have h2 : ¬ a < b := by omega
    go_enter Tryz.func75, Tryz.ntmps75
    go_wp2
    go_ret
    exact ⟨ret_i64 HF.out.symm, rfl⟩

theorem orI_first {a b c : Int} (h : a ≠ 0) : orI a b c = a := by unfold orI; rw [if_pos h]
theorem orI_second {a b c : Int} (h : a = 0) (h2 : b ≠ 0) : orI a b c = b := by unfold orI; rw [if_neg (by omega), if_pos h2]
theorem orI_third {a b c : Int} (h : a = 0) (h2 : b = 0) : orI a b c = c := by unfold orI; rw [if_neg (by omega), if_neg (by omega)]

def nz (A : List Int) : Int := (A.find? (fun x => decide (x ≠ 0))).getD 0
theorem nz_at {A : List Int} {k : Nat} (hk : k < A.length) (h : ∀ j, j < k → ix A j = 0) (h2 : ix A k ≠ 0) : nz A = ix A k := by
  unfold nz
  have : A.find? (fun x => decide (x ≠ 0)) = some (ix A k) := by
    rw [List.find?_eq_some_iff_getElem]
    refine ⟨by simpa using h2, k, hk, ?_, fun j hj => ?_⟩
    · have := ix_eq hk; rw [List.getElem?_eq_getElem hk] at this; exact Option.some.inj this
    · have e : A[j]'(by omega) = ix A j := by have := ix_eq (A := A) (i := j) (by omega); rw [List.getElem?_eq_getElem (by omega)] at this; exact Option.some.inj this
      rw [e, h j hj]; simp
  rw [this]; rfl
theorem nz_none {A : List Int} (h : ∀ j, j < A.length → ix A j = 0) : nz A = 0 := by
  unfold nz
  have : A.find? (fun x => decide (x ≠ 0)) = none := by
    rw [List.find?_eq_none]
    intro x hx
    obtain ⟨j, hj, rfl⟩ := List.getElem_of_mem hx
    have e : A[j] = ix A j := by have := ix_eq hj; rw [List.getElem?_eq_getElem hj] at this; exact Option.some.inj this
    rw [e, h j hj]; simp
  rw [this]; rfl
theorem nz_three (a b c : Int) : nz [a, b, c] = orI a b c := by
  unfold nz orI
  by_cases h1 : a = 0 <;> by_cases h2 : b = 0 <;> by_cases h3 : c = 0 <;> simp [List.find?, h1, h2, h3]

set_option maxHeartbeats 400000 in
theorem or_calls {A : List Int} {ao : Option Addr} {n c : Nat} (w : World) (hA : SlI w ao n c A) : Calls Tryz.prog 180 #[.slice ao n c] w fun e w' => e = .returned (.int .i64 (nz A)) ∧ w = w' := by
  have hm := Nat.le_trans (Sl.le hA) (Sl.max hA)
  unfold maxLen at hm
  have hlen := Lib.hid hA.len
  go_enter Tryz.func180, Tryz.ntmps180
  go_wp2
  go_loop [5, 8] (fun _ i => ∃ k : Nat, k ≤ n ∧ i = .int .i64 k ∧ Hid (∀ j, j < k → ix A j = 0)) (fun _ i => n - (intOf i).toNat)
  case atStart => exact ⟨0, Nat.zero_le _, rfl, Lib.hid (fun j h => by omega)⟩
  case round =>
    obtain ⟨k, hk, rfl, hno⟩ := hrel
    by_cases hlt : k < n
    · obtain ⟨b1, o1, rfl, c1⟩ := hA.at_ hlt
      by_cases hz : ix A k = 0
      · have hb : (ix A k != 0) = false := by simpa using hz
        have hno2 : Hid (∀ j, j < k + 1 → ix A j = 0) := Lib.hid (fun j hj => by
          by_cases e : j = k
          · subst e; exact hz
          · exact hno.out j (by omega))
        clear hz
        go_wp2
        go_round
        case rel => exact ⟨k + 1, by omega, by go_num, hno2⟩
        case measure => simp [intOf]; omega
      · have hb : (ix A k != 0) = true := by simpa using hz
        have HF := Lib.hid (nz_at (by rw [hlen.out]; exact hlt) hno.out hz)
        clear hz
        go_wp2
        go_ret
        exact ⟨ret_i64 HF.out.symm, rfl⟩
    · have HF := Lib.hid (nz_none (A := A) (fun j hj => hno.out j (by rw [hlen.out] at hj; omega)))
      go_wp2
      go_ret
      exact ⟨ret_i64 HF.out.symm, rfl⟩

end Go.Proofs.YtnadelmbkaoeeaaGreatDoor

/- Walks: which of two merges stands ahead, by the program and by the document. -/
namespace Go.Proofs.YtnadelmbkaoeeaaGreatDoor
open Go.RowKit Go.Sort
set_option linter.unusedVariables false

/-- Two merges, held against each other. -/
def cmpM (a b : Mg) : Int := orI (cmpI a.order b.order) (cmpI a.left b.left) (cmpI a.right b.right)
theorem cmpM_lt {a b : Mg} : cmpM a b < 0 ↔ ahead a b = true := by
  rw [ahead_iff]
  unfold cmpM
  rcases Int.lt_trichotomy a.order b.order with h | h | h
  · rw [cmpI_lt h, orI_first (by omega)]; omega
  · rw [h, cmpI_eq]
    rcases Int.lt_trichotomy a.left b.left with h2 | h2 | h2
    · rw [cmpI_lt h2, orI_second rfl (by omega)]; omega
    · rw [h2, cmpI_eq, orI_third rfl rfl]
      rcases Int.lt_trichotomy a.right b.right with h3 | h3 | h3
      · rw [cmpI_lt h3]; omega
      · rw [h3, cmpI_eq]; omega
      · rw [cmpI_gt h3]; omega
    · rw [cmpI_gt h2, orI_second rfl (by omega)]; omega
  · rw [cmpI_gt h, orI_first (by omega)]; omega

theorem ld4 {P : Program} {w : World} {b o : Nat} {x y z u : Value} (h0 : w.cell? ⟨b, o, none⟩ = some x) (h1 : w.cell? ⟨b, o + 1, none⟩ = some y) (h2 : w.cell? ⟨b, o + 2, none⟩ = some z) (h3 : w.cell? ⟨b, o + 3, none⟩ = some u) :
    Sem.run P (loadCellsFrom ⟨b, o, none⟩ 0 4 #[]) w = .ok #[x, y, z, u] w :=
  run_loadCellsFrom_list P w ⟨b, o, none⟩ [x, y, z, u] 4 rfl (fun j v hj => by
    rw [Addr.add_lit]
    match j, hj with
    | 0, hj => simp at hj; subst hj; exact h0
    | 1, hj => simp at hj; subst hj; exact h1
    | 2, hj => simp at hj; subst hj; exact h2
    | 3, hj => simp at hj; subst hj; exact h3
    | j + 4, hj => simp at hj)

theorem mixedOrders : Tryz.prog.follows .mixedOrders = true := by kernel_rfl

theorem box4 {w : World} {g : Nat} {x y z u : Value} {t : TypeId} (h : w.heap[g]? = some (.cells #[x, y, z, u] t)) : w.cell? ⟨g, 0, none⟩ = some x ∧ w.cell? ⟨g, 1, none⟩ = some y ∧ w.cell? ⟨g, 2, none⟩ = some z ∧ w.cell? ⟨g, 3, none⟩ = some u := by
  simp [World.cell?, h]

theorem keep6 {w0 w w' : World} {p1 p2 p3 p4 p5 p6 : Addr} {v1 v2 v3 v4 v5 v6 : Value} (h : w.cell? p1 = some v1 ∧ w.cell? p2 = some v2 ∧ w.cell? p3 = some v3 ∧ w.cell? p4 = some v4 ∧ w.cell? p5 = some v5 ∧ w.cell? p6 = some v6 ∧ Below w0.heap.size w0 w) (hb : Below w.heap.size w w') :
    w'.cell? p1 = some v1 ∧ w'.cell? p2 = some v2 ∧ w'.cell? p3 = some v3 ∧ w'.cell? p4 = some v4 ∧ w'.cell? p5 = some v5 ∧ w'.cell? p6 = some v6 ∧ Below w0.heap.size w0 w' :=
  ⟨cell_below hb _ _ h.1, cell_below hb _ _ h.2.1, cell_below hb _ _ h.2.2.1, cell_below hb _ _ h.2.2.2.1, cell_below hb _ _ h.2.2.2.2.1, cell_below hb _ _ h.2.2.2.2.2.1, h.2.2.2.2.2.2.trans (hb.mono h.2.2.2.2.2.2.size)⟩
theorem SlI.three (w : World) (x y z : Int) (t : TypeId) : SlI (w.alloc (.cells #[.int .i64 x, .int .i64 y, .int .i64 z] t)) (some ⟨w.heap.size, 0, .none⟩) 3 3 [x, y, z] := by
  refine ⟨rfl, Nat.le_refl _, by unfold maxLen; omega, by simp, fun i u hu => ?_⟩
  match i, hu with
  | 0, hu => simp at hu; subst hu; exact ⟨_, _, rfl, by simp⟩
  | 1, hu => simp at hu; subst hu; exact ⟨_, _, rfl, by simp⟩
  | 2, hu => simp at hu; subst hu; exact ⟨_, _, rfl, by simp⟩
  | i + 3, hu => simp at hu

set_option maxHeartbeats 1000000 in
theorem order_g (a b : Mg) (w : World) :
    Calls Tryz.prog 159 #[.agg #[.int .i64 a.left, .int .i64 a.right, .int .i64 a.out, .int .i64 a.order], .agg #[.int .i64 b.left, .int .i64 b.right, .int .i64 b.out, .int .i64 b.order]] w
      fun e w' => e = .returned (.int .i64 (cmpM a b)) ∧ ∃ q os, w' = grow (w.drewN q) os := by
  obtain ⟨w1, hw1⟩ : ∃ w1, w.alloc (.cells #[.int .i64 a.left, .int .i64 a.right, .int .i64 a.out, .int .i64 a.order] 140) = w1 := ⟨_, rfl⟩
  obtain ⟨w2, hw2⟩ : ∃ w2, w1.alloc (.cells #[.int .i64 b.left, .int .i64 b.right, .int .i64 b.out, .int .i64 b.order] 140) = w2 := ⟨_, rfl⟩
  have hb1 : Below w.heap.size w w1 := hw1 ▸ below_alloc w _
  have hb2 : Below w1.heap.size w1 w2 := hw2 ▸ below_alloc w1 _
  have hs1 : w1.heap.size = w.heap.size + 1 := by rw [← hw1]; simp
  have ha1 : w1.heap[w.heap.size]? = some (.cells #[.int .i64 a.left, .int .i64 a.right, .int .i64 a.out, .int .i64 a.order] 140) := by rw [← hw1]; exact heap_alloc_new w _
  have ha2 := (hb2.block w.heap.size (by omega)).trans ha1
  have hbb : w2.heap[w1.heap.size]? = some (.cells #[.int .i64 b.left, .int .i64 b.right, .int .i64 b.out, .int .i64 b.order] 140) := by rw [← hw2]; exact heap_alloc_new w1 _
  obtain ⟨a0, a1, _, a3⟩ := box4 ha2
  obtain ⟨b0, b1, _, b3⟩ := box4 hbb
  have HW := Lib.hid (hb1.trans (hb2.mono hb1.size))
  have H1 := Lib.hid hw1
  have H2 := Lib.hid hw2
  have HS1 := Lib.hid hs1
  rw [hs1] at b0 b1 b3
  clear hb1 hb2 hs1 ha1 ha2 hbb hw1 hw2
  go_enter Tryz.func159, Tryz.ntmps159
  go_wp2_with (fail)
  rw [H1.out, H2.out]
  go_region_held3 (fun w' => w'.cell? ⟨w.heap.size, 3, none⟩ = some (.int .i64 a.order) ∧ w'.cell? ⟨w.heap.size + 1, 3, none⟩ = some (.int .i64 b.order) ∧ w'.cell? ⟨w.heap.size, 0, none⟩ = some (.int .i64 a.left) ∧ w'.cell? ⟨w.heap.size + 1, 0, none⟩ = some (.int .i64 b.left) ∧ w'.cell? ⟨w.heap.size, 1, none⟩ = some (.int .i64 a.right) ∧ w'.cell? ⟨w.heap.size + 1, 1, none⟩ = some (.int .i64 b.right) ∧ Below w2.heap.size w2 w')
    (first | assumption | exact ⟨a3, b3, a0, b0, a1, b1, (Below.refl _ _).drew⟩ | exact keep6 (by assumption) (below_alloc _ _))
    (first
      | (go_at_call_of 75 (Value.int .i64 a.order); refine (compareI_calls a.order b.order _).mono ?_; rintro e w' ⟨rfl, rfl⟩)
      | (go_at_call_of 75 (Value.int .i64 a.left); refine (compareI_calls a.left b.left _).mono ?_; rintro e w' ⟨rfl, rfl⟩)
      | (go_at_call_of 75 (Value.int .i64 a.right); refine (compareI_calls a.right b.right _).mono ?_; rintro e w' ⟨rfl, rfl⟩)
      | (go_at_call 180; refine (or_calls _ (SlI.drew (SlI.three w2 _ _ _ _))).mono ?_; rintro e w' ⟨rfl, rfl⟩))
  all_goals (go_wp2_with (fail); go_ret; refine ⟨ret_i64 (nz_three _ _ _), 1, #[.cells #[.int .i64 a.left, .int .i64 a.right, .int .i64 a.out, .int .i64 a.order] 140, .cells #[.int .i64 b.left, .int .i64 b.right, .int .i64 b.out, .int .i64 b.order] 140, .cells #[.int .i64 (cmpI a.order b.order), .int .i64 (cmpI a.left b.left), .int .i64 (cmpI a.right b.right)] 3], ?_⟩)
  rw [← H2.out, ← H1.out, alloc_eq_grow, alloc_eq_grow, alloc_eq_grow, grow_grow, grow_grow]
  rfl

theorem below_grow (w : World) (n : Nat) (os : Array Obj) : Below w.heap.size w (grow (w.drewN n) os) := by
  refine ⟨rfl, rfl, rfl, by show w.heap.size ≤ (w.heap ++ os).size; simp, fun k hk => ?_⟩
  show (w.heap ++ os)[k]? = w.heap[k]?
  exact Array.getElem?_append_left hk

theorem order_calls (a b : Mg) (w : World) :
    Calls Tryz.prog 159 #[.agg #[.int .i64 a.left, .int .i64 a.right, .int .i64 a.out, .int .i64 a.order], .agg #[.int .i64 b.left, .int .i64 b.right, .int .i64 b.out, .int .i64 b.order]] w
      fun e w' => e = .returned (.int .i64 (cmpM a b)) ∧ Below w.heap.size w w' :=
  (order_g a b w).mono fun e w' ⟨h1, q, os, h2⟩ => ⟨h1, by rw [h2]; exact below_grow _ _ _⟩


set_option maxHeartbeats 1000000 in
theorem ahead_calls (a b : Mg) (w : World) :
    Calls Tryz.prog 96 #[.agg #[.int .i64 a.left, .int .i64 a.right, .int .i64 a.out, .int .i64 a.order], .agg #[.int .i64 b.left, .int .i64 b.right, .int .i64 b.out, .int .i64 b.order]] w
      fun e w' => e = .returned (.bool (ahead a b)) ∧ Below w.heap.size w w' := by
  obtain ⟨w1, hw1⟩ : ∃ w1, w.alloc (.cells #[.int .i64 a.left, .int .i64 a.right, .int .i64 a.out, .int .i64 a.order] 140) = w1 := ⟨_, rfl⟩
  obtain ⟨w2, hw2⟩ : ∃ w2, w1.alloc (.cells #[.int .i64 b.left, .int .i64 b.right, .int .i64 b.out, .int .i64 b.order] 140) = w2 := ⟨_, rfl⟩
  have hb1 : Below w.heap.size w w1 := hw1 ▸ below_alloc w _
  have hb2 : Below w1.heap.size w1 w2 := hw2 ▸ below_alloc w1 _
  have hs1 : w1.heap.size = w.heap.size + 1 := by rw [← hw1]; simp
  have ha1 : w1.heap[w.heap.size]? = some (.cells #[.int .i64 a.left, .int .i64 a.right, .int .i64 a.out, .int .i64 a.order] 140) := by rw [← hw1]; exact heap_alloc_new w _
  have ha2 := (hb2.block w.heap.size (by omega)).trans ha1
  have hbb : w2.heap[w1.heap.size]? = some (.cells #[.int .i64 b.left, .int .i64 b.right, .int .i64 b.out, .int .i64 b.order] 140) := by rw [← hw2]; exact heap_alloc_new w1 _
  obtain ⟨a0, a1, _, a3⟩ := box4 ha2
  obtain ⟨b0, b1, _, b3⟩ := box4 hbb
  have HW := Lib.hid (hb1.trans (hb2.mono hb1.size))
  have H1 := Lib.hid hw1
  have H2 := Lib.hid hw2
  have hq : ahead a b = decide (a.order < b.order ∨ (a.order = b.order ∧ (a.left < b.left ∨ (a.left = b.left ∧ a.right < b.right)))) := rfl
  have HQ := Lib.hid hq
  rw [hs1] at b0 b1 b3
  clear hb1 hb2 hs1 ha1 ha2 hbb hw1 hw2 hq
  by_cases ho : a.order = b.order
  · have n1 : (a.order != b.order) = false := by simpa using ho
    by_cases hl : a.left = b.left
    · have n2 : (a.left != b.left) = false := by simpa using hl
      have HF : Hid (ahead a b = decide (a.right < b.right)) := Lib.hid (by rw [HQ.out]; simp [ho, hl])
      clear ho hl
      go_enter Tryz.func96, Tryz.ntmps96
      go_wp2_with (fail)
      rw [H1.out, H2.out]
      go_ret
      exact ⟨ret_bool HF.out.symm, HW.out⟩
    · have n2 : (a.left != b.left) = true := by simpa using hl
      have HF : Hid (ahead a b = decide (a.left < b.left)) := Lib.hid (by rw [HQ.out]; simp [ho, hl])
      clear ho hl
      go_enter Tryz.func96, Tryz.ntmps96
      go_wp2_with (fail)
      rw [H1.out, H2.out]
      go_ret
      exact ⟨ret_bool HF.out.symm, HW.out⟩
  · have n1 : (a.order != b.order) = true := by simpa using ho
    have HF : Hid (ahead a b = decide (a.order < b.order)) := Lib.hid (by rw [HQ.out]; simp [ho])
    clear ho
    go_enter Tryz.func96, Tryz.ntmps96
    go_wp2_with (fail)
    rw [H1.out, H2.out]
    go_ret
    exact ⟨ret_bool HF.out.symm, HW.out⟩

end Go.Proofs.YtnadelmbkaoeeaaGreatDoor

/- Pairs of numbers as a map's keys; 'm[k]++' where the translation makes an entry first. -/
namespace Go.Proofs.YtnadelmbkaoeeaaGreatDoor
open Go.RowKit Go.Maps Go.ChangeMaps Go.WideMaps Go.WideElems
set_option linter.unusedVariables false

theorem laidAll : laidOutB Tryz.prog = true := by kernel_rfl
theorem rowTwo : (227 : TypeId) < Tryz.prog.types.size := of_decide_eq_true (by kernel_rfl)
theorem wideTwo : (match Tryz.prog.underlying 227 with | some (.array _ _) | some (.struct _) => true | _ => false) = true := by kernel_rfl
set_option maxRecDepth 100000 in
theorem keyedTwo : Keyed Tryz.prog 227 := Keyed.of_law (deep_law_laid laidAll (m := 2) (by omega) rowTwo (by kernel_rfl) wideTwo)
theorem keyTypeTwo : Tryz.prog.keyType 227 = true := by kernel_rfl
theorem cellsTwo : Tryz.prog.cellsOf 227 = 2 := by kernel_rfl

theorem keyOf_two {a b : Int} (ha : (Lit.int .i64 a).wf = true) (hb : (Lit.int .i64 b).wf = true) : (keyOf Tryz.prog 227 (.agg #[.int .i64 a, .int .i64 b])).isSome = true := by
  have hf : (Value.agg #[.int .i64 a, .int .i64 b]).formed Tryz.prog 227 = true := by
    simp [Value.formed, Tryz.underlying227, cellsTwo]
  have hk : ∀ n, (Tryz.prog.keyLits (n + 2) 227 [.int .i64 a, .int .i64 b]).isSome = true := by
    intro n
    have h3 : Tryz.prog.cellsOf 3 = 1 := by kernel_rfl
    unfold Program.keyLits
    simp [Tryz.underlying227, cellsTwo, h3, Program.keyLits, Tryz.underlying3, ha, hb]
  unfold keyOf
  rw [Tryz.underlying227]
  simp only [keyTypeTwo, hf, Bool.and_self, if_true]
  obtain ⟨n, hn⟩ : ∃ n, Tryz.prog.types.size + 1 = n + 2 := ⟨Tryz.prog.types.size - 1, by
    have h : (0 : Nat) < Tryz.prog.types.size := Nat.lt_of_le_of_lt (Nat.zero_le _) rowTwo
    omega⟩
  have h2 := hk n
  rw [← hn] at h2
  show (Option.map _ (Tryz.prog.keyLits (Tryz.prog.types.size + 1) _ [.int .i64 a, .int .i64 b])).isSome = true
  rw [Option.isSome_map]
  exact h2

noncomputable def twoView : KeyView Tryz.prog 227 (Int × Int) :=
  KeyView.of (fun p => .agg #[.int .i64 p.1, .int .i64 p.2]) (fun p => (Lit.int .i64 p.1).wf = true ∧ (Lit.int .i64 p.2).wf = true) (fun p h => keyOf_two h.1 h.2)
    (fun x y h => by simp at h; exact Prod.ext h.1 h.2) keyedTwo

end Go.Proofs.YtnadelmbkaoeeaaGreatDoor

/- Walk: may merges be, by the program? -/
namespace Go.Proofs.YtnadelmbkaoeeaaGreatDoor
open Go.RowKit
set_option linter.unusedVariables false

/-- The merge at a place. -/
def mg (M : List Mg) (i : Nat) : Mg := M.getD i ⟨0, 0, 0, 0⟩
theorem mg_eq {M : List Mg} {i : Nat} (h : i < M.length) : M[i]? = some (mg M i) := by simp [mg, List.getD, h]
theorem mg_get {M : List Mg} {i : Nat} (h : i < M.length) : M[i] = mg M i := by simp [mg, List.getD, h]

/-- The first k merges may be. -/
structure GoodM (T : List ByteArray) (M : List Mg) (k : Nat) : Prop where
  ok : ∀ j, j < k → OkMg T (mg M j)
  rise : ∀ j, j + 1 < k → Rise (mg M j) (mg M (j + 1))
  parts : ∀ i j, i < j → j < k → Parts (mg M i) (mg M j)
theorem GoodM.zero (T : List ByteArray) (M : List Mg) : GoodM T M 0 := ⟨fun j h => by omega, fun j h => by omega, fun i j _ h => by omega⟩
theorem GoodM.next {T : List ByteArray} {M : List Mg} {k : Nat} (h : GoodM T M k) (h1 : OkMg T (mg M k)) (h2 : 0 < k → Rise (mg M (k - 1)) (mg M k)) (h3 : ∀ i, i < k → Parts (mg M i) (mg M k)) : GoodM T M (k + 1) := by
  refine ⟨fun j hj => ?_, fun j hj => ?_, fun i j hi hj => ?_⟩
  · by_cases e : j = k
    · subst e; exact h1
    · exact h.ok j (by omega)
  · by_cases e : j + 1 = k
    · subst e
      have := h2 (by omega)
      simpa using this
    · exact h.rise j (by omega)
  · by_cases e : j = k
    · subst e; exact h3 i hi
    · exact h.parts i j hi (by omega)
theorem GoodM.all {T : List ByteArray} {M : List Mg} {k n : Nat} (h : GoodM T M k) (hl : M.length = n) (hk : k ≤ n) (hk2 : ¬ k < n) (hn : n ≤ 16384) : MayMg T M := by
  obtain rfl : k = n := by omega
  refine ⟨by omega, fun m hm => ?_, ?_⟩
  · obtain ⟨i, hi, rfl⟩ := List.getElem_of_mem hm
    rw [mg_get hi]; exact h.ok i (by omega)
  · have hr : M.Pairwise Rise := pairwise_of_next (fun a b c h1 h2 => h1.trans h2) (fun i a b ha hb => by
      have h1 := (List.getElem?_eq_some_iff.1 ha).1
      have h2 := (List.getElem?_eq_some_iff.1 hb).1
      rw [mg_eq h1] at ha
      rw [mg_eq h2] at hb
      cases ha; cases hb
      exact h.rise i (by omega))
    rw [List.pairwise_iff_getElem] at hr ⊢
    intro i j hi hj hij
    refine ⟨hr i j hi hj hij, ?_⟩
    rw [mg_get hi, mg_get hj]
    exact h.parts i j hij (by omega)

theorem MayMg.ok {T : List ByteArray} {M : List Mg} (h : MayMg T M) {k : Nat} (hk : k < M.length) : OkMg T (mg M k) := by
  rw [← mg_get hk]; exact h.2.1 _ (List.getElem_mem _)
theorem MayMg.pair {T : List ByteArray} {M : List Mg} (h : MayMg T M) {i j : Nat} (hi : i < j) (hj : j < M.length) : Rise (mg M i) (mg M j) ∧ Parts (mg M i) (mg M j) := by
  have := (List.pairwise_iff_getElem.1 h.2.2) i j (by omega) hj hi
  rw [mg_get hj, mg_get (by omega)] at this
  exact this

theorem notMayMg_long {T : List ByteArray} {M : List Mg} (h : 16384 < M.length) : (false = true ↔ MayMg T M) := ⟨(fun h => by cases h), fun h2 => by have := h2.1; omega⟩
theorem notMayMg_ok {T : List ByteArray} {M : List Mg} {k : Nat} (hk : k < M.length) (h : ¬ OkMg T (mg M k)) : (false = true ↔ MayMg T M) := ⟨(fun h => by cases h), fun h2 => absurd (h2.ok hk) h⟩
theorem notMayMg_rise {T : List ByteArray} {M : List Mg} {i k : Nat} (hi : i < k) (hk : k < M.length) (h : ¬ Rise (mg M i) (mg M k)) : (false = true ↔ MayMg T M) := ⟨(fun h => by cases h), fun h2 => absurd (h2.pair hi hk).1 h⟩
theorem notMayMg_parts {T : List ByteArray} {M : List Mg} {i k : Nat} (hi : i < k) (hk : k < M.length) (h : ¬ Parts (mg M i) (mg M k)) : (false = true ↔ MayMg T M) := ⟨(fun h => by cases h), fun h2 => absurd (h2.pair hi hk).2 h⟩

/-- What is answered to 'may merges be?'. -/
def MayMgPost (T : List ByteArray) (M : List Mg) (w : World) (e : Ending) (w' : World) : Prop := (∃ b, e = .returned (.bool b) ∧ (b = true ↔ MayMg T M)) ∧ Below w.heap.size w w'

/-- Which parts have been seen. -/
def SeenR (M : List Mg) (k : Nat) (f : Int × Int → Option Int) : Prop := ∀ p c, f p = some c ↔ c = 1 ∧ ∃ j, j < k ∧ ((mg M j).left, (mg M j).right) = p
theorem SeenR.zero (M : List Mg) : SeenR M 0 (fun _ => none) := fun p c => ⟨(fun h => by cases h), fun ⟨_, j, hj, _⟩ => by omega⟩
theorem SeenR.next {M : List Mg} {k : Nat} {f g : Int × Int → Option Int} (h : SeenR M k f) (h1 : g ((mg M k).left, (mg M k).right) = some 1) (h2 : ∀ t, t ≠ ((mg M k).left, (mg M k).right) → g t = f t) : SeenR M (k + 1) g := fun p c => by
  by_cases e : p = ((mg M k).left, (mg M k).right)
  · rw [e, h1]
    constructor
    · intro hc; simp at hc; exact ⟨hc.symm, k, by omega, rfl⟩
    · rintro ⟨hc, _⟩; rw [hc]
  · rw [h2 p e, h p c]
    constructor
    · rintro ⟨hc, j, hj, he⟩; exact ⟨hc, j, by omega, he⟩
    · rintro ⟨hc, j, hj, he⟩
      have : j ≠ k := fun ej => e (by rw [← he, ej])
      exact ⟨hc, j, by omega, he⟩
theorem SeenR.yes {M : List Mg} {k : Nat} {f : Int × Int → Option Int} (h : SeenR M k f) {c : Int} (hf : f ((mg M k).left, (mg M k).right) = some c) : c = 1 ∧ ∃ i, i < k ∧ ¬ Parts (mg M i) (mg M k) := by
  obtain ⟨hc, j, hj, he⟩ := (h _ _).1 hf
  refine ⟨hc, j, hj, fun hp => hp ?_⟩
  simp at he
  exact he
theorem SeenR.no {M : List Mg} {k : Nat} {f : Int × Int → Option Int} (h : SeenR M k f) (hf : f ((mg M k).left, (mg M k).right) = none) : ∀ i, i < k → Parts (mg M i) (mg M k) := fun i hi hp => by
  have : f ((mg M k).left, (mg M k).right) = some 1 := (h _ _).2 ⟨rfl, i, hi, by simp [hp.1, hp.2]⟩
  rw [hf] at this; cases this

theorem is_q {T : List ByteArray} {ao : Option Addr} {n c : Nat} (i : Int) {w : World} (hT : SlS w ao n c T) (k : Nat) :
    Calls Tryz.prog 69 #[.slice ao n c, .int .i64 i] (w.drewN k) fun e w' => e = .returned (.bool (isTk T i)) ∧ w' = w.drewN k :=
  (is_calls i (w.drewN k) (hT.stay fun _ _ h => h)).mono fun e w' ⟨h1, h2⟩ => ⟨h1, h2.symm⟩

end Go.Proofs.YtnadelmbkaoeeaaGreatDoor

/- Walk: may merges be, by the program? (Printed by gMrg.py.) -/
namespace Go.Proofs.YtnadelmbkaoeeaaGreatDoor
open Go.RowKit
set_option linter.unusedVariables false

theorem box2' {w : World} {g : Nat} {x y : Value} {t : TypeId} (h : w.heap[g]? = some (.cells #[x, y] t)) : w.cell? ⟨g, 0, none⟩ = some x ∧ w.cell? ⟨g, 1, none⟩ = some y := by
  simp [World.cell?, h]
theorem keep8 {w0 w w' : World} {p1 p2 p3 p4 p5 p6 p7 p8 : Addr} {v1 v2 v3 v4 v5 v6 v7 v8 : Value} (h : w.cell? p1 = some v1 ∧ w.cell? p2 = some v2 ∧ w.cell? p3 = some v3 ∧ w.cell? p4 = some v4 ∧ w.cell? p5 = some v5 ∧ w.cell? p6 = some v6 ∧ w.cell? p7 = some v7 ∧ w.cell? p8 = some v8 ∧ Below w0.heap.size w0 w) (hb : Below w.heap.size w w') :
    w'.cell? p1 = some v1 ∧ w'.cell? p2 = some v2 ∧ w'.cell? p3 = some v3 ∧ w'.cell? p4 = some v4 ∧ w'.cell? p5 = some v5 ∧ w'.cell? p6 = some v6 ∧ w'.cell? p7 = some v7 ∧ w'.cell? p8 = some v8 ∧ Below w0.heap.size w0 w' :=
  ⟨cell_below hb _ _ h.1, cell_below hb _ _ h.2.1, cell_below hb _ _ h.2.2.1, cell_below hb _ _ h.2.2.2.1, cell_below hb _ _ h.2.2.2.2.1, cell_below hb _ _ h.2.2.2.2.2.1, cell_below hb _ _ h.2.2.2.2.2.2.1, cell_below hb _ _ h.2.2.2.2.2.2.2.1, h.2.2.2.2.2.2.2.2.trans (hb.mono h.2.2.2.2.2.2.2.2.size)⟩

set_option maxHeartbeats 4000000 in
set_option maxRecDepth 100000 in
theorem mayMerges_calls {T : List ByteArray} {M : List Mg} {ao mo : Option Addr} {n c mn mc : Nat} (w : World) (hT : SlS w ao n c T) (hM : SlF 4 w mo mn mc (flat Mg.enc M)) (hmay : MayTok T) :
    Calls Tryz.prog 131 #[.slice ao n c, .slice mo mn mc] w (MayMgPost T M w) := by
  have hm := Nat.le_trans (Sl.le hT) (Sl.max hT)
  have hmm := Nat.le_trans hM.le hM.max
  unfold maxLen at hm hmm
  have hlen := Lib.hid hT.count
  have hlenM := Lib.hid (hM.count Mg.enc_len (by omega))
  have hmk := @run_makeMap Tryz.prog
  have HT := Lib.hid hT
  have HM := Lib.hid hM
  have HMay := Lib.hid hmay
  have H0 := Lib.hid (MapK.new twoView 3 w)
  have HB0 := Lib.hid (below_alloc w (.map #[] 0))
  clear hT hM hmay
  by_cases hl : (16384 : Int) < mn
  · have HF := Lib.hid (notMayMg_long (T := T) (M := M) (by have := hlenM.out; omega))
    go_enter Tryz.func131, Tryz.ntmps131
    go_wp2_with (fail)
    go_ret
    exact ⟨⟨_, rfl, HF.out⟩, Below.refl _ _⟩
  · go_enter Tryz.func131, Tryz.ntmps131
    go_wp2_with (fail)
    go_loopw [6, 7, 8, 15] (fun _ _ _ i wr => ∃ (k sz : Nat) (f : Int × Int → Option Int), k ≤ mn ∧ i = .int .i64 k ∧ sz ≤ k ∧ MapK twoView 3 wr w.heap.size sz f ∧ Hid (SeenR M k f) ∧ Hid (GoodM T M k) ∧ Below w.heap.size w wr) (fun _ _ _ i _ => mn - (intOf i).toNat)
    case atStart => exact ⟨0, 0, _, Nat.zero_le _, rfl, Nat.le_refl _, H0.out, Lib.hid (SeenR.zero M), Lib.hid (GoodM.zero T M), HB0.out⟩
    case round =>
      obtain ⟨k, sz, f, hk, rfl, hszk, hmap, HS, HG, hb⟩ := hrel
      have HMp := Lib.hid hmap
      have HB := Lib.hid hb
      clear hmap hb
      by_cases hlt : k < mn
      · have hkM : k < M.length := by have := hlenM.out; omega
        obtain ⟨b, of, rfl, hce⟩ := (HM.out.below HB.out).elem Mg.enc_len (by omega) (mg_eq hkM)
        obtain ⟨⟨l, r, o, d⟩, hmeq⟩ : ∃ m, mg M k = m := ⟨_, rfl⟩
        rw [hmeq] at hce
        have d0 := hce 0 _ rfl
        have d1 := hce 1 _ rfl
        have d2 := hce 2 _ rfl
        have d3 := hce 3 _ rfl
        rw [Nat.add_zero] at d0
        simp only at d0 d1 d2 d3
        have HMK := Lib.hid hmeq
        have hwb := below_alloc wr (.cells #[.int .i64 l, .int .i64 r, .int .i64 o, .int .i64 d] 140)
        have HB1 := Lib.hid (HB.out.trans (hwb.mono HB.out.size))
        have HT1 := Lib.hid (Sl.below HT.out HB1.out)
        clear hce hmeq hwb
        cases hl1 : isTk T l with
        | false =>
          have HF := Lib.hid (notMayMg_ok (T := T) hkM (fun h => by rw [HMK.out] at h; have := h.1; rw [hl1] at this; cases this))
          go_wp2_with (fail)
          go_quiet ((first | (go_at_call_of 69 (Value.int .i64 l); exact Calls.quiet_of_same (is_q l HT1.out _)) | (go_at_call_of 69 (Value.int .i64 r); exact Calls.quiet_of_same (is_q r HT1.out _)) | (go_at_call 69; exact Calls.quiet_of_same (is_q o HT1.out _))))
          go_wp2_with (fail)
          go_ret
          exact ⟨⟨_, rfl, HF.out⟩, below_drewN HB1.out _⟩
        | true =>
          cases hr1 : isTk T r with
          | false =>
            have HF := Lib.hid (notMayMg_ok (T := T) hkM (fun h => by rw [HMK.out] at h; have := h.2.1; rw [hr1] at this; cases this))
            go_wp2_with (fail)
            go_quiet ((first | (go_at_call_of 69 (Value.int .i64 l); exact Calls.quiet_of_same (is_q l HT1.out _)) | (go_at_call_of 69 (Value.int .i64 r); exact Calls.quiet_of_same (is_q r HT1.out _)) | (go_at_call 69; exact Calls.quiet_of_same (is_q o HT1.out _))))
            go_wp2_with (fail)
            go_ret
            exact ⟨⟨_, rfl, HF.out⟩, below_drewN HB1.out _⟩
          | true =>
            cases ho1 : isTk T o with
            | false =>
              have HF := Lib.hid (notMayMg_ok (T := T) hkM (fun h => by rw [HMK.out] at h; have := h.2.2.1; rw [ho1] at this; cases this))
              go_wp2_with (fail)
              go_quiet ((first | (go_at_call_of 69 (Value.int .i64 l); exact Calls.quiet_of_same (is_q l HT1.out _)) | (go_at_call_of 69 (Value.int .i64 r); exact Calls.quiet_of_same (is_q r HT1.out _)) | (go_at_call 69; exact Calls.quiet_of_same (is_q o HT1.out _))))
              go_wp2_with (fail)
              go_ret
              exact ⟨⟨_, rfl, HF.out⟩, below_drewN HB1.out _⟩
            | true =>
              have hil := isTk_iff.1 hl1
              have hir := isTk_iff.1 hr1
              have hio := isTk_iff.1 ho1
              obtain ⟨ln, rfl⟩ := Int.eq_ofNat_of_zero_le hil.1
              obtain ⟨rn, rfl⟩ := Int.eq_ofNat_of_zero_le hir.1
              obtain ⟨on, rfl⟩ := Int.eq_ofNat_of_zero_le hio.1
              have il : ln < T.length := by omega
              have ir : rn < T.length := by omega
              have io : on < T.length := by omega
              obtain ⟨bt, ot, hao, cl⟩ := SlS.cell HT1.out (tk_eq il)
              obtain ⟨bt2, ot2, hao2, cr⟩ := SlS.cell HT1.out (tk_eq ir)
              obtain ⟨bt3, ot3, hao3, co⟩ := SlS.cell HT1.out (tk_eq io)
              rw [hao] at hao2 hao3
              simp at hao2 hao3
              obtain ⟨rfl, rfl⟩ := hao2
              obtain ⟨rfl, rfl⟩ := hao3
              subst hao
              have s1 := HMay.out.2.1 _ (tk_mem il)
              have s2 := HMay.out.2.1 _ (tk_mem ir)
              have s3 := HMay.out.2.1 _ (tk_mem io)
              have gl : (ln : Int) < n := by have := hlen.out; omega
              have gr : (rn : Int) < n := by have := hlen.out; omega
              have go : (on : Int) < n := by have := hlen.out; omega
              clear hil hir hio
              by_cases hcat : tk T on = tk T ln ++ tk T rn
              · have hq1 := bneS_yes hcat
                have hq2 := beqS_yes hcat
                have HC := Lib.hid hcat
                clear hcat
                by_cases hd0 : d < 0
                · have hdd : decide (d < 0) = true := by simpa using hd0
                  have HF := Lib.hid (notMayMg_ok (T := T) hkM (fun h => by rw [HMK.out] at h; have := h.2.2.2.2.1; simp only at this; omega))
                  go_wp2_with (fail)
                  go_quiet ((first | (go_at_call_of 69 (Value.int .i64 (ln : Int)); exact Calls.quiet_of_same (is_q (ln : Int) HT1.out _)) | (go_at_call_of 69 (Value.int .i64 (rn : Int)); exact Calls.quiet_of_same (is_q (rn : Int) HT1.out _)) | (go_at_call 69; exact Calls.quiet_of_same (is_q (on : Int) HT1.out _))))
                  go_wp2_with (fail)
                  go_ret
                  exact ⟨⟨_, rfl, HF.out⟩, below_drewN HB1.out _⟩
                have hdd0 : decide (d < 0) = false := by simpa using hd0
                by_cases hd1 : 1048576 < d
                · have hdd : decide (1048576 < d) = true := by simpa using hd1
                  have HF := Lib.hid (notMayMg_ok (T := T) hkM (fun h => by rw [HMK.out] at h; have := h.2.2.2.2.2; simp only at this; omega))
                  go_wp2_with (fail)
                  go_quiet ((first | (go_at_call_of 69 (Value.int .i64 (ln : Int)); exact Calls.quiet_of_same (is_q (ln : Int) HT1.out _)) | (go_at_call_of 69 (Value.int .i64 (rn : Int)); exact Calls.quiet_of_same (is_q (rn : Int) HT1.out _)) | (go_at_call 69; exact Calls.quiet_of_same (is_q (on : Int) HT1.out _))))
                  go_wp2_with (fail)
                  go_ret
                  exact ⟨⟨_, rfl, HF.out⟩, below_drewN HB1.out _⟩
                have hdd1 : decide (1048576 < d) = false := by simpa using hd1
                have HOK : Hid (OkMg T (mg M k)) := Lib.hid (by rw [HMK.out]; exact ⟨hl1, hr1, ho1, HC.out, by simp only; omega, by simp only; omega⟩)
                have hbx := heap_alloc_new wr (.cells #[.int .i64 (ln : Int), .int .i64 (rn : Int), .int .i64 (on : Int), .int .i64 d] 140)
                obtain ⟨b0, b1, b2, b3⟩ := box4 hbx
                have HM1 := Lib.hid (HMp.out.alloc (.cells #[.int .i64 (ln : Int), .int .i64 (rn : Int), .int .i64 (on : Int), .int .i64 d] 140))
                clear hbx
                go_wp2_with (fail)
                go_quiet ((first | (go_at_call_of 69 (Value.int .i64 (ln : Int)); exact Calls.quiet_of_same (is_q (ln : Int) HT1.out _)) | (go_at_call_of 69 (Value.int .i64 (rn : Int)); exact Calls.quiet_of_same (is_q (rn : Int) HT1.out _)) | (go_at_call 69; exact Calls.quiet_of_same (is_q (on : Int) HT1.out _))))
                go_wp2_with (fail)
                clear hq1 hq2 cl cr co
                obtain ⟨w1, hw1⟩ : ∃ w1, (wr.alloc (.cells #[.int .i64 (ln : Int), .int .i64 (rn : Int), .int .i64 (on : Int), .int .i64 d] 140)).drewN nq = w1 := ⟨_, rfl⟩
                have hs1 : w1.heap.size = wr.heap.size + 1 := by rw [← hw1]; simp
                have hb01 : Below wr.heap.size wr w1 := hw1 ▸ below_drewN (below_alloc wr _) nq
                have HS1 := Lib.hid hs1
                have HB1' := Lib.hid (HB.out.trans (hb01.mono HB.out.size))
                have HM1' : Hid (MapK twoView 3 w1 w.heap.size sz f) := Lib.hid (hw1 ▸ HM1.out.drewN nq)
                have hbx' : w1.heap[wr.heap.size]? = some (.cells #[.int .i64 (ln : Int), .int .i64 (rn : Int), .int .i64 (on : Int), .int .i64 d] 140) := by rw [← hw1]; exact heap_alloc_new wr _
                clear b0 b1 b2 b3
                obtain ⟨b0, b1, b2, b3⟩ := box4 hbx'
                have HBX := Lib.hid hbx'
                rw [hw1]
                clear hw1 hs1 hbx' HB1 HM1 HT1 d0 d1 d2 d3
                by_cases hrise : k = 0 ∨ Rise (mg M (k - 1)) (mg M k)
                · have HRISE := Lib.hid hrise
                  clear hrise
                  go_cut [101] (fun s wx => s = .bool false ∧ Below w1.heap.size w1 wx)
                  case first =>
                    by_cases hk0 : k = 0
                    · have hg0 : decide ((0 : Int) < (k : Int)) = false := by simp; omega
                      go_quiet (fail)
                      go_wp2_with (fail)
                      go_meet
                      exact ⟨rfl, below_drewN (Below.refl _ _) _⟩
                    · have hR : Rise (mg M (k - 1)) (mg M k) := HRISE.out.resolve_left hk0
                      obtain ⟨⟨pl, pr, po, pd⟩, hpeq⟩ : ∃ m, mg M (k - 1) = m := ⟨_, rfl⟩
                      obtain ⟨bp, op, hao, hcp⟩ := ((HM.out.below HB.out).below hb01).elem Mg.enc_len (by omega) (mg_eq (M := M) (i := k - 1) (by omega))
                      simp at hao
                      obtain ⟨rfl, rfl⟩ := hao
                      rw [hpeq] at hcp
                      have p0 := hcp 0 _ rfl
                      have p1 := hcp 1 _ rfl
                      have p2 := hcp 2 _ rfl
                      have p3 := hcp 3 _ rfl
                      rw [Nat.add_zero] at p0
                      simp only at p0 p1 p2 p3
                      have HPEQ := Lib.hid hpeq
                      have hg0 : decide ((0 : Int) < (k : Int)) = true := by simp; omega
                      have hg1 : 0 < k := by omega
                      have hg2 : decide (0 < k) = true := by simpa using hg1
                      have e1 : IntKind.i64.wrap ((k : Int) - 1) = (k : Int) - 1 := by rw [IntKind.wrap_i64]; omega
                      have e2 : (0 : Int) ≤ (k : Int) - 1 := by omega
                      have e4 : (k : Int) - 1 < (mn : Int) := by omega
                      have e3 : (1 : Int) ≤ (k : Int) := by omega
                      have hkm : ((k : Int) - 1).toNat = k - 1 := by omega
                      clear hcp hpeq
                      rw [HPEQ.out, HMK.out] at hR
                      have hcl : cmpM ⟨pl, pr, po, pd⟩ ⟨(ln : Int), (rn : Int), (on : Int), d⟩ < 0 := cmpM_lt.2 hR.1
                      have hcl2 : decide (0 ≤ cmpM ⟨pl, pr, po, pd⟩ ⟨(ln : Int), (rn : Int), (on : Int), d⟩) = false := by simp; omega
                      by_cases hod : pd = d
                      · have ho := hR.2 hod
                        simp only at ho
                        have q1 : (pd == d) = true := by simpa using hod
                        have q2 : (po != (on : Int)) = false := by simpa using ho
                        clear hod ho hR
                        have hmix := mixedOrders
                        have hlt1 : b < w1.heap.size := World.block_lt_of_cell? w1 _ p0
                        have hlt2 : wr.heap.size < w1.heap.size := World.block_lt_of_cell? w1 _ b0
                        have r0 := cell_grown (w := w1) hlt1 p0
                        have r1 := cell_grown (w := w1) hlt1 p1
                        have r2 := cell_grown (w := w1) hlt1 p2
                        have r3 := cell_grown (w := w1) hlt1 p3
                        have t0 := cell_grown (w := w1) hlt2 b0
                        have t1 := cell_grown (w := w1) hlt2 b1
                        have t2 := cell_grown (w := w1) hlt2 b2
                        have t3 := cell_grown (w := w1) hlt2 b3
                        have l1 := fun n os => ld4 (P := Tryz.prog) (r0 n os) (r1 n os) (r2 n os) (r3 n os)
                        have l2 := fun n os => ld4 (P := Tryz.prog) (t0 n os) (t1 n os) (t2 n os) (t3 n os)
                        refine wp_region_quiet_grown (by assumption) (by kernel_rfl) ?_
                        repeat (any_goals (first | go_big_quiet_step ((go_at_call 159; exact Calls.grown_of (order_g ⟨pl, pr, po, pd⟩ ⟨(ln : Int), (rn : Int), (on : Int), d⟩ _))) | quiet_step ((go_at_call 159; exact Calls.grown_of (order_g ⟨pl, pr, po, pd⟩ ⟨(ln : Int), (rn : Int), (on : Int), d⟩ _)))))
                        refine wpQuiet_nil ?_
                        intro _ hw'
                        obtain ⟨⟨nq2, osq2⟩, hw''⟩ := hw'
                        subst hw''
                        go_wp2_with (fail)
                        go_meet
                        exact ⟨rfl, below_grow _ _ _⟩
                      · have q1 : (pd == d) = false := by simpa using hod
                        have hmix := mixedOrders
                        clear hod hR
                        have hlt1 : b < w1.heap.size := World.block_lt_of_cell? w1 _ p0
                        have hlt2 : wr.heap.size < w1.heap.size := World.block_lt_of_cell? w1 _ b0
                        have r0 := cell_grown (w := w1) hlt1 p0
                        have r1 := cell_grown (w := w1) hlt1 p1
                        have r2 := cell_grown (w := w1) hlt1 p2
                        have r3 := cell_grown (w := w1) hlt1 p3
                        have t0 := cell_grown (w := w1) hlt2 b0
                        have t1 := cell_grown (w := w1) hlt2 b1
                        have t2 := cell_grown (w := w1) hlt2 b2
                        have t3 := cell_grown (w := w1) hlt2 b3
                        have l1 := fun n os => ld4 (P := Tryz.prog) (r0 n os) (r1 n os) (r2 n os) (r3 n os)
                        have l2 := fun n os => ld4 (P := Tryz.prog) (t0 n os) (t1 n os) (t2 n os) (t3 n os)
                        refine wp_region_quiet_grown (by assumption) (by kernel_rfl) ?_
                        repeat (any_goals (first | go_big_quiet_step ((go_at_call 159; exact Calls.grown_of (order_g ⟨pl, pr, po, pd⟩ ⟨(ln : Int), (rn : Int), (on : Int), d⟩ _))) | quiet_step ((go_at_call 159; exact Calls.grown_of (order_g ⟨pl, pr, po, pd⟩ ⟨(ln : Int), (rn : Int), (on : Int), d⟩ _)))))
                        refine wpQuiet_nil ?_
                        intro _ hw'
                        obtain ⟨⟨nq2, osq2⟩, hw''⟩ := hw'
                        subst hw''
                        go_wp2_with (fail)
                        go_meet
                        exact ⟨rfl, below_grow _ _ _⟩
                  case rest =>
                    obtain ⟨rfl, hbx⟩ := hcut
                    have HBXc := (hbx.block wr.heap.size (by have := HS1.out; omega)).trans HBX.out
                    clear b0 b1 b2 b3
                    obtain ⟨b0, b1, b2, b3⟩ := box4 HBXc
                    have HBc := Lib.hid (HB1'.out.trans (hbx.mono HB1'.out.size))
                    have HMc := Lib.hid (HM1'.out.below hbx)
                    have hwl : (Lit.int .i64 (ln : Int)).wf = true ∧ (Lit.int .i64 (rn : Int)).wf = true := by
                      have := HMay.out.1
                      exact ⟨by rw [i64_wf]; omega, by rw [i64_wf]; omega⟩
                    have HWF := Lib.hid hwl
                    have hb2 := below_alloc wc (.cells #[.int .i64 (ln : Int), .int .i64 (rn : Int)] 227)
                    have HM2 := Lib.hid (HMc.out.below hb2)
                    have HB2 := Lib.hid (HBc.out.trans (hb2.mono HBc.out.size))
                    have hlk : (Instr.lookup 224 (.map (some w.heap.size)) (.agg #[.int .i64 (ln : Int), .int .i64 (rn : Int)]) false).run Tryz.prog (wc.alloc (.cells #[.int .i64 (ln : Int), .int .i64 (rn : Int)] 227)) = .ok (.int .i64 ((f ((ln : Int), (rn : Int))).getD 0)) (wc.alloc (.cells #[.int .i64 (ln : Int), .int .i64 (rn : Int)] 227)) :=
                      MapK.get (V := twoView) (s := ((ln : Int), (rn : Int))) Tryz.underlying224 Tryz.underlying3 zeroInt HM2.out HWF.out
                    clear HBXc hbx hwl hb2
                    cases hf : f ((ln : Int), (rn : Int)) with
                    | some cc =>
                      obtain ⟨hcc, i, hi, hnp⟩ := HS.out.yes (c := cc) (by rw [HMK.out]; exact hf)
                      subst hcc
                      have HF := Lib.hid (notMayMg_parts (T := T) hi hkM hnp)
                      rw [hf] at hlk
                      clear hnp hf
                      go_wp2_with (fail)
                      go_ret
                      exact ⟨⟨_, rfl, HF.out⟩, HB2.out⟩
                    | none =>
                      have hno := HS.out.no (by rw [HMK.out]; exact hf)
                      obtain ⟨o0, o1, v, stamp, o2, hb0, hE⟩ := MapK.entry (V := twoView) (s := ((ln : Int), (rn : Int))) Tryz.underlying224 Tryz.underlying3 zeroInt HM2.out HWF.out (by unfold maxLen; omega)
                      have HNO := Lib.hid hno
                      have HE := Lib.hid hE
                      have HB0' := Lib.hid hb0
                      have hx2 := heap_alloc_new wc (.cells #[.int .i64 (ln : Int), .int .i64 (rn : Int)] 227)
                      rw [hf] at hlk
                      have HFN := Lib.hid hf
                      clear hno hE hb0 hf
                      go_wp2_with (fail)
                      clear hlk
                      obtain ⟨w2, hw2⟩ : ∃ w2, wc.alloc (.cells #[.int .i64 (ln : Int), .int .i64 (rn : Int)] 227) = w2 := ⟨_, rfl⟩
                      rw [hw2] at hx2 HB0' HB2 ⊢
                      obtain ⟨x0, x1⟩ := box2' hx2
                      have hb0 := HB0'.out
                      have q0 : ∀ W : World, W.heap[w.heap.size]? = some o0 → (Instr.lookup 224 (.map (some w.heap.size)) (.agg #[.int .i64 (ln : Int), .int .i64 (rn : Int)]) false).run Tryz.prog W = .ok (.int .i64 0) W := fun W hW => by have := HE.out.look0 W hW; rw [HFN.out] at this; exact this
                      have q1 : ∀ W : World, W.heap[w.heap.size]? = some o0 → (Instr.mapEntry 224 (.map (some w.heap.size)) (.agg #[.int .i64 (ln : Int), .int .i64 (rn : Int)])).run Tryz.prog W = .ok (.tuple #[v, stamp]) (ChangeMaps.setBlock W w.heap.size o1) := HE.out.entry
                      have q2 : ∀ W : World, W.heap[w.heap.size]? = some o0 → (ChangeMaps.setBlock W w.heap.size o1).heap[w.heap.size]? = some o1 := HE.out.at1
                      have q3 : ∀ W : World, W.heap[w.heap.size]? = some o1 → (Instr.lookup 224 (.map (some w.heap.size)) (.agg #[.int .i64 (ln : Int), .int .i64 (rn : Int)]) false).run Tryz.prog W = .ok (.int .i64 0) W := fun W hW => by have := HE.out.look1 W hW; rw [HFN.out] at this; exact this
                      have q4 : ∀ (W : World) (c : Int), W.heap[w.heap.size]? = some o1 → (Instr.entryStore 224 (.map (some w.heap.size)) stamp (.int .i64 c)).run Tryz.prog W = .ok () (ChangeMaps.setBlock W w.heap.size (o2 c)) := HE.out.store
                      have i0 := q0 w2.drew hb0
                      have i1 := q1 w2.drew hb0
                      have hat := q2 w2.drew hb0
                      have hbk : Below w.heap.size w (ChangeMaps.setBlock w2.drew w.heap.size o1) := below_setBlock HB2.out.drew (Nat.le_refl _)
                      obtain ⟨W1, hW1⟩ : ∃ W1, ChangeMaps.setBlock w2.drew w.heap.size o1 = W1 := ⟨_, rfl⟩
                      rw [hW1] at i1 hat hbk
                      have i3 := q3 W1 hat
                      have i4 := q4 W1 1 hat
                      have hbk2 : Below w.heap.size w (ChangeMaps.setBlock W1 w.heap.size (o2 1)) := below_setBlock hbk (Nat.le_refl _)
                      have hat2 : (ChangeMaps.setBlock W1 w.heap.size (o2 1)).heap[w.heap.size]? = some (o2 1) := by
                        have hlt := (Array.getElem?_eq_some_iff.1 hat).1
                        simp [ChangeMaps.setBlock, hlt]
                      obtain ⟨W2, hW2⟩ : ∃ W2, ChangeMaps.setBlock W1 w.heap.size (o2 1) = W2 := ⟨_, rfl⟩
                      rw [hW2] at i4 hbk2 hat2
                      obtain ⟨sz', g, hsz', hMg, hg1, hg2⟩ := HE.out.fin W2 1 (by decide) hat2
                      have HMg := Lib.hid hMg
                      have HSn : Hid (SeenR M (k + 1) g) := Lib.hid (HS.out.next (by rw [HMK.out]; exact hg1) (fun t ht => hg2 t (by rw [HMK.out] at ht; exact ht)))
                      have HGn : Hid (GoodM T M (k + 1)) := Lib.hid (HG.out.next HOK.out (fun h0 => HRISE.out.resolve_left (by omega)) HNO.out)
                      have HBk := Lib.hid hbk2
                      clear hw2 hx2 q0 q1 q2 q3 q4 hat hbk hW1 hat2 hbk2 hW2 hMg hg1 hg2
                      go_region
                      all_goals (go_wp2_with (fail))
                      all_goals go_roundw
                      case rel => exact ⟨k + 1, sz', g, by omega, by go_num, by omega, HMg.out, HSn, HGn, HBk.out⟩
                      case measure => simp [intOf]; omega
                · have hk0 : ¬ k = 0 := fun h => hrise (.inl h)
                  have hR : ¬ Rise (mg M (k - 1)) (mg M k) := fun h => hrise (.inr h)
                  have HF := Lib.hid (notMayMg_rise (T := T) (i := k - 1) (by omega) hkM hR)
                  clear hrise
                  obtain ⟨⟨pl, pr, po, pd⟩, hpeq⟩ : ∃ m, mg M (k - 1) = m := ⟨_, rfl⟩
                  obtain ⟨bp, op, hao, hcp⟩ := ((HM.out.below HB.out).below hb01).elem Mg.enc_len (by omega) (mg_eq (M := M) (i := k - 1) (by omega))
                  simp at hao
                  obtain ⟨rfl, rfl⟩ := hao
                  rw [hpeq] at hcp
                  have p0 := hcp 0 _ rfl
                  have p1 := hcp 1 _ rfl
                  have p2 := hcp 2 _ rfl
                  have p3 := hcp 3 _ rfl
                  rw [Nat.add_zero] at p0
                  simp only at p0 p1 p2 p3
                  have HPEQ := Lib.hid hpeq
                  have hg0 : decide ((0 : Int) < (k : Int)) = true := by simp; omega
                  have hg1 : 0 < k := by omega
                  have hg2 : decide (0 < k) = true := by simpa using hg1
                  have e1 : IntKind.i64.wrap ((k : Int) - 1) = (k : Int) - 1 := by rw [IntKind.wrap_i64]; omega
                  have e2 : (0 : Int) ≤ (k : Int) - 1 := by omega
                  have e4 : (k : Int) - 1 < (mn : Int) := by omega
                  have e3 : (1 : Int) ≤ (k : Int) := by omega
                  have hkm : ((k : Int) - 1).toNat = k - 1 := by omega
                  clear hcp hpeq
                  rw [HPEQ.out, HMK.out] at hR
                  by_cases hal : ahead ⟨pl, pr, po, pd⟩ ⟨(ln : Int), (rn : Int), (on : Int), d⟩ = true
                  · have hcl := cmpM_lt.2 hal
                    have hcl2 : decide (0 ≤ cmpM ⟨pl, pr, po, pd⟩ ⟨(ln : Int), (rn : Int), (on : Int), d⟩) = false := by simp; omega
                    have hodo : pd = d ∧ po ≠ (on : Int) := Classical.byContradiction fun h => hR ⟨hal, fun e => Classical.byContradiction fun h2 => h ⟨e, h2⟩⟩
                    have q1 : (pd == d) = true := by simpa using hodo.1
                    have q2 : (po != (on : Int)) = true := by simpa using hodo.2
                    clear hal hodo hR
                    have hmix := mixedOrders
                    have hlt1 : b < w1.heap.size := World.block_lt_of_cell? w1 _ p0
                    have hlt2 : wr.heap.size < w1.heap.size := World.block_lt_of_cell? w1 _ b0
                    have r0 := cell_grown (w := w1) hlt1 p0
                    have r1 := cell_grown (w := w1) hlt1 p1
                    have r2 := cell_grown (w := w1) hlt1 p2
                    have r3 := cell_grown (w := w1) hlt1 p3
                    have t0 := cell_grown (w := w1) hlt2 b0
                    have t1 := cell_grown (w := w1) hlt2 b1
                    have t2 := cell_grown (w := w1) hlt2 b2
                    have t3 := cell_grown (w := w1) hlt2 b3
                    have l1 := fun n os => ld4 (P := Tryz.prog) (r0 n os) (r1 n os) (r2 n os) (r3 n os)
                    have l2 := fun n os => ld4 (P := Tryz.prog) (t0 n os) (t1 n os) (t2 n os) (t3 n os)
                    refine wp_region_quiet_grown (by assumption) (by kernel_rfl) ?_
                    repeat (any_goals (first | go_big_quiet_step ((go_at_call 159; exact Calls.grown_of (order_g ⟨pl, pr, po, pd⟩ ⟨(ln : Int), (rn : Int), (on : Int), d⟩ _))) | quiet_step ((go_at_call 159; exact Calls.grown_of (order_g ⟨pl, pr, po, pd⟩ ⟨(ln : Int), (rn : Int), (on : Int), d⟩ _)))))
                    refine wpQuiet_nil ?_
                    intro _ hw'
                    obtain ⟨⟨nq2, osq2⟩, hw''⟩ := hw'
                    subst hw''
                    go_wp2_with (fail)
                    go_ret
                    exact ⟨⟨_, rfl, HF.out⟩, HB1'.out.trans ((below_grow _ _ _).mono HB1'.out.size)⟩
                  · have hcl : ¬ cmpM ⟨pl, pr, po, pd⟩ ⟨(ln : Int), (rn : Int), (on : Int), d⟩ < 0 := fun h => hal (cmpM_lt.1 h)
                    have hcl2 : decide (0 ≤ cmpM ⟨pl, pr, po, pd⟩ ⟨(ln : Int), (rn : Int), (on : Int), d⟩) = true := by simp; omega
                    clear hal hR
                    have hmix := mixedOrders
                    have hlt1 : b < w1.heap.size := World.block_lt_of_cell? w1 _ p0
                    have hlt2 : wr.heap.size < w1.heap.size := World.block_lt_of_cell? w1 _ b0
                    have r0 := cell_grown (w := w1) hlt1 p0
                    have r1 := cell_grown (w := w1) hlt1 p1
                    have r2 := cell_grown (w := w1) hlt1 p2
                    have r3 := cell_grown (w := w1) hlt1 p3
                    have t0 := cell_grown (w := w1) hlt2 b0
                    have t1 := cell_grown (w := w1) hlt2 b1
                    have t2 := cell_grown (w := w1) hlt2 b2
                    have t3 := cell_grown (w := w1) hlt2 b3
                    have l1 := fun n os => ld4 (P := Tryz.prog) (r0 n os) (r1 n os) (r2 n os) (r3 n os)
                    have l2 := fun n os => ld4 (P := Tryz.prog) (t0 n os) (t1 n os) (t2 n os) (t3 n os)
                    refine wp_region_quiet_grown (by assumption) (by kernel_rfl) ?_
                    repeat (any_goals (first | go_big_quiet_step ((go_at_call 159; exact Calls.grown_of (order_g ⟨pl, pr, po, pd⟩ ⟨(ln : Int), (rn : Int), (on : Int), d⟩ _))) | quiet_step ((go_at_call 159; exact Calls.grown_of (order_g ⟨pl, pr, po, pd⟩ ⟨(ln : Int), (rn : Int), (on : Int), d⟩ _)))))
                    refine wpQuiet_nil ?_
                    intro _ hw'
                    obtain ⟨⟨nq2, osq2⟩, hw''⟩ := hw'
                    subst hw''
                    go_wp2_with (fail)
                    go_ret
                    exact ⟨⟨_, rfl, HF.out⟩, HB1'.out.trans ((below_grow _ _ _).mono HB1'.out.size)⟩
              · have hq1 := bneS_no hcat
                have hq2 := beqS_no hcat
                have HF := Lib.hid (notMayMg_ok (T := T) hkM (fun h => by rw [HMK.out] at h; exact hcat h.2.2.2.1))
                clear hcat
                go_wp2_with (fail)
                go_quiet ((first | (go_at_call_of 69 (Value.int .i64 (ln : Int)); exact Calls.quiet_of_same (is_q (ln : Int) HT1.out _)) | (go_at_call_of 69 (Value.int .i64 (rn : Int)); exact Calls.quiet_of_same (is_q (rn : Int) HT1.out _)) | (go_at_call 69; exact Calls.quiet_of_same (is_q (on : Int) HT1.out _))))
                go_wp2_with (fail)
                go_ret
                exact ⟨⟨_, rfl, HF.out⟩, below_drewN HB1.out _⟩
      · have HF := Lib.hid (HG.out.all hlenM.out hk hlt (by omega))
        go_wp2_with (fail)
        go_ret
        exact ⟨⟨_, rfl, (fun _ => HF.out), (fun _ => rfl)⟩, HB.out⟩

end Go.Proofs.YtnadelmbkaoeeaaGreatDoor

/- Walk: may merges be, by the document? (Printed by gMrgR.py.) -/
namespace Go.Proofs.YtnadelmbkaoeeaaGreatDoor
open Go.RowKit Go.Sort
set_option linter.unusedVariables false

/-- The first k merges may be, each held against all ahead of it. -/
structure GoodR (T : List ByteArray) (M : List Mg) (k : Nat) : Prop where
  ok : ∀ j, j < k → OkMg T (mg M j)
  pair : ∀ i j, i < j → j < k → Rise (mg M i) (mg M j) ∧ Parts (mg M i) (mg M j)
theorem GoodR.zero (T : List ByteArray) (M : List Mg) : GoodR T M 0 := ⟨fun j h => by omega, fun i j _ h => by omega⟩
def PairTo (M : List Mg) (k q : Nat) : Prop := ∀ i, i < q → Rise (mg M i) (mg M k) ∧ Parts (mg M i) (mg M k)
theorem PairTo.zero (M : List Mg) (k : Nat) : PairTo M k 0 := fun i h => by omega
theorem PairTo.next {M : List Mg} {k q : Nat} (h : PairTo M k q) (h1 : Rise (mg M q) (mg M k)) (h2 : Parts (mg M q) (mg M k)) : PairTo M k (q + 1) := fun i hi => by
  by_cases e : i = q
  · subst e; exact ⟨h1, h2⟩
  · exact h i (by omega)
theorem GoodR.next {T : List ByteArray} {M : List Mg} {k q : Nat} (h : GoodR T M k) (h1 : OkMg T (mg M k)) (h2 : PairTo M k q) (hq : q ≤ k) (hq2 : ¬ q < k) : GoodR T M (k + 1) := by
  obtain rfl : q = k := by omega
  refine ⟨fun j hj => ?_, fun i j hi hj => ?_⟩
  · by_cases e : j = q
    · subst e; exact h1
    · exact h.ok j (by omega)
  · by_cases e : j = q
    · subst e; exact h2 i hi
    · exact h.pair i j hi (by omega)
theorem GoodR.all {T : List ByteArray} {M : List Mg} {k n : Nat} (h : GoodR T M k) (hl : M.length = n) (hk : k ≤ n) (hk2 : ¬ k < n) (hn : n ≤ 16384) : MayMg T M := by
  obtain rfl : k = n := by omega
  refine ⟨by omega, fun m hm => ?_, ?_⟩
  · obtain ⟨i, hi, rfl⟩ := List.getElem_of_mem hm
    rw [mg_get hi]; exact h.ok i (by omega)
  · rw [List.pairwise_iff_getElem]
    intro i j hi hj hij
    rw [mg_get hi, mg_get hj]
    exact h.pair i j hij (by omega)

theorem box3v {w : World} {g : Nat} {x y z : Value} {t : TypeId} (h : w.heap[g]? = some (.cells #[x, y, z] t)) : w.cell? ⟨g, 0, none⟩ = some x ∧ w.cell? ⟨g, 1, none⟩ = some y ∧ w.cell? ⟨g, 2, none⟩ = some z := by
  simp [World.cell?, h]

set_option maxHeartbeats 4000000 in
set_option maxRecDepth 100000 in
theorem rmayMerges_calls {V : Vc} {dd : Vd} (w : World) (hV : VocR w dd V) (hmay : MayTok V.tokens) :
    Calls Tryz.prog 64 #[dd.val] w (MayMgPost V.tokens V.merges w) := by
  obtain ⟨T, M, S⟩ := V
  obtain ⟨ta, tn, tc, ma, mn, mc, sa, sn, sc⟩ := dd
  obtain ⟨hT, hM, _⟩ := hV
  simp only at hT hM hmay ⊢
  have hm := Nat.le_trans (Sl.le hT) (Sl.max hT)
  have hmm := Nat.le_trans hM.le hM.max
  unfold maxLen at hm hmm
  have hlen := Lib.hid hT.count
  have hlenM := Lib.hid (hM.count Mg.enc_len (by omega))
  obtain ⟨w0, hw0⟩ : ∃ w0, w.alloc (.cells #[.slice ta tn tc, .slice ma mn mc, .slice sa sn sc] 26) = w0 := ⟨_, rfl⟩
  have hb0 : Below w.heap.size w w0 := hw0 ▸ below_alloc w _
  have hx0 : w0.heap[w.heap.size]? = some (.cells #[.slice ta tn tc, .slice ma mn mc, .slice sa sn sc] 26) := by rw [← hw0]; exact heap_alloc_new w _
  have hs0 : w.heap.size < w0.heap.size := by rw [← hw0]; simp
  obtain ⟨c0, c1, c2⟩ := box3v hx0
  have HT := Lib.hid (Sl.below hT hb0)
  have HM := Lib.hid (hM.below hb0)
  have HX0 := Lib.hid hx0
  have HB0 := Lib.hid hb0
  have HMay := Lib.hid hmay
  have HW0 := Lib.hid hw0
  clear hT hM hmay hb0 hx0 hw0
  by_cases hl : (16384 : Int) < mn
  · have HF := Lib.hid (notMayMg_long (T := T) (M := M) (by have := hlenM.out; omega))
    go_enter Tryz.func64, Tryz.ntmps64
    go_wp2_with (fail)
    go_ret
    exact ⟨⟨_, rfl, HF.out⟩, by rw [HW0.out]; exact HB0.out⟩
  · go_enter Tryz.func64, Tryz.ntmps64
    go_wp2_with (fail)
    rw [HW0.out]
    go_loopw [3, 4, 5, 6, 14] (fun _ _ _ _ i wr => ∃ (k : Nat), k ≤ mn ∧ i = .int .i64 k ∧ Hid (GoodR T M k) ∧ Below w0.heap.size w0 wr) (fun _ _ _ _ i _ => mn - (intOf i).toNat)
    case atStart => exact ⟨0, Nat.zero_le _, rfl, Lib.hid (GoodR.zero T M), Below.refl _ _⟩
    case round =>
      obtain ⟨k, hk, rfl, HG, hb⟩ := hrel
      have HB := Lib.hid hb
      clear c0 c1 c2
      obtain ⟨c0, c1, c2⟩ := box3v ((hb.block w.heap.size hs0).trans HX0.out)
      clear hb
      by_cases hlt : k < mn
      · have hkM : k < M.length := by have := hlenM.out; omega
        obtain ⟨b, of, rfl, hce⟩ := (HM.out.below HB.out).elem Mg.enc_len (by omega) (mg_eq hkM)
        obtain ⟨⟨l, r, o, d⟩, hmeq⟩ : ∃ m, mg M k = m := ⟨_, rfl⟩
        rw [hmeq] at hce
        have d0 := hce 0 _ rfl
        have d1 := hce 1 _ rfl
        have d2 := hce 2 _ rfl
        have d3 := hce 3 _ rfl
        rw [Nat.add_zero] at d0
        simp only at d0 d1 d2 d3
        have HMK := Lib.hid hmeq
        have hwb := below_alloc wr (.cells #[.int .i64 l, .int .i64 r, .int .i64 o, .int .i64 d] 140)
        have HB1 := Lib.hid (HB.out.trans (hwb.mono HB.out.size))
        have HT1 := Lib.hid (Sl.below HT.out HB1.out)
        have hlt0 : w.heap.size < wr.heap.size := Nat.lt_of_lt_of_le hs0 HB.out.size
        clear hce hmeq hwb
        cases hl1 : isTk T l with
        | false =>
          have HF := Lib.hid (notMayMg_ok (T := T) hkM (fun h => by rw [HMK.out] at h; have := h.1; rw [hl1] at this; cases this))
          go_wp2_with (fail)
          refine (ris_calls l _ HT1.out).mono ?_
          rintro e w' ⟨rfl, rfl⟩
          go_wp2_with (fail)
          go_ret
          exact ⟨⟨_, rfl, HF.out⟩, HB0.out.trans (HB1.out.mono HB0.out.size)⟩
        | true =>
          cases hr1 : isTk T r with
          | false =>
            have HF := Lib.hid (notMayMg_ok (T := T) hkM (fun h => by rw [HMK.out] at h; have := h.2.1; rw [hr1] at this; cases this))
            go_wp2_with (fail)
            refine (ris_calls l _ HT1.out).mono ?_
            rintro e w' ⟨rfl, rfl⟩
            go_wp2_with (fail)
            refine (ris_calls r _ HT1.out).mono ?_
            rintro e w' ⟨rfl, rfl⟩
            go_wp2_with (fail)
            go_ret
            exact ⟨⟨_, rfl, HF.out⟩, HB0.out.trans (HB1.out.mono HB0.out.size)⟩
          | true =>
            cases ho1 : isTk T o with
            | false =>
              have HF := Lib.hid (notMayMg_ok (T := T) hkM (fun h => by rw [HMK.out] at h; have := h.2.2.1; rw [ho1] at this; cases this))
              go_wp2_with (fail)
              refine (ris_calls l _ HT1.out).mono ?_
              rintro e w' ⟨rfl, rfl⟩
              go_wp2_with (fail)
              refine (ris_calls r _ HT1.out).mono ?_
              rintro e w' ⟨rfl, rfl⟩
              go_wp2_with (fail)
              refine (ris_calls o _ HT1.out).mono ?_
              rintro e w' ⟨rfl, rfl⟩
              go_wp2_with (fail)
              go_ret
              exact ⟨⟨_, rfl, HF.out⟩, HB0.out.trans (HB1.out.mono HB0.out.size)⟩
            | true =>
              by_cases hd0 : d < 0
              · have hdd : decide (d < 0) = true := by simpa using hd0
                have HF := Lib.hid (notMayMg_ok (T := T) hkM (fun h => by rw [HMK.out] at h; have := h.2.2.2.2.1; simp only at this; omega))
                go_wp2_with (fail)
                refine (ris_calls l _ HT1.out).mono ?_
                rintro e w' ⟨rfl, rfl⟩
                go_wp2_with (fail)
                refine (ris_calls r _ HT1.out).mono ?_
                rintro e w' ⟨rfl, rfl⟩
                go_wp2_with (fail)
                refine (ris_calls o _ HT1.out).mono ?_
                rintro e w' ⟨rfl, rfl⟩
                go_wp2_with (fail)
                go_ret
                exact ⟨⟨_, rfl, HF.out⟩, HB0.out.trans (HB1.out.mono HB0.out.size)⟩
              have hdd0 : decide (d < 0) = false := by simpa using hd0
              by_cases hd1 : 1048576 < d
              · have hdd : decide (1048576 < d) = true := by simpa using hd1
                have HF := Lib.hid (notMayMg_ok (T := T) hkM (fun h => by rw [HMK.out] at h; have := h.2.2.2.2.2; simp only at this; omega))
                go_wp2_with (fail)
                refine (ris_calls l _ HT1.out).mono ?_
                rintro e w' ⟨rfl, rfl⟩
                go_wp2_with (fail)
                refine (ris_calls r _ HT1.out).mono ?_
                rintro e w' ⟨rfl, rfl⟩
                go_wp2_with (fail)
                refine (ris_calls o _ HT1.out).mono ?_
                rintro e w' ⟨rfl, rfl⟩
                go_wp2_with (fail)
                go_ret
                exact ⟨⟨_, rfl, HF.out⟩, HB0.out.trans (HB1.out.mono HB0.out.size)⟩
              have hdd1 : decide (1048576 < d) = false := by simpa using hd1
              have hbx := heap_alloc_new wr (.cells #[.int .i64 l, .int .i64 r, .int .i64 o, .int .i64 d] 140)
              have hs1 : wr.heap.size < (wr.alloc (.cells #[.int .i64 l, .int .i64 r, .int .i64 o, .int .i64 d] 140)).heap.size := by simp
              go_wp2_with (fail)
              refine (ris_calls l _ HT1.out).mono ?_
              rintro e w' ⟨rfl, rfl⟩
              go_wp2_with (fail)
              refine (ris_calls r _ HT1.out).mono ?_
              rintro e w' ⟨rfl, rfl⟩
              go_wp2_with (fail)
              refine (ris_calls o _ HT1.out).mono ?_
              rintro e w' ⟨rfl, rfl⟩
              go_wp2_with (fail)
              obtain ⟨w1, hw1⟩ : ∃ w1, wr.alloc (.cells #[.int .i64 l, .int .i64 r, .int .i64 o, .int .i64 d] 140) = w1 := ⟨_, rfl⟩
              rw [hw1] at hbx hs1 HB1 HT1 ⊢
              have HBX := Lib.hid hbx
              have c0' := cell_below HB1.out _ _ (box3v HX0.out).1
              obtain ⟨b0, b1, b2, b3⟩ := box4 hbx
              have hil := isTk_iff.1 hl1
              have hir := isTk_iff.1 hr1
              have hio := isTk_iff.1 ho1
              obtain ⟨ln, rfl⟩ := Int.eq_ofNat_of_zero_le hil.1
              obtain ⟨rn, rfl⟩ := Int.eq_ofNat_of_zero_le hir.1
              obtain ⟨on, rfl⟩ := Int.eq_ofNat_of_zero_le hio.1
              have il : ln < T.length := by omega
              have ir : rn < T.length := by omega
              have io : on < T.length := by omega
              obtain ⟨bt, ot, hao, cl⟩ := SlS.cell HT1.out (tk_eq il)
              obtain ⟨bt2, ot2, hao2, cr⟩ := SlS.cell HT1.out (tk_eq ir)
              obtain ⟨bt3, ot3, hao3, co⟩ := SlS.cell HT1.out (tk_eq io)
              rw [hao] at hao2 hao3
              simp at hao2 hao3
              obtain ⟨rfl, rfl⟩ := hao2
              obtain ⟨rfl, rfl⟩ := hao3
              subst hao
              have s1 := HMay.out.2.1 _ (tk_mem il)
              have s2 := HMay.out.2.1 _ (tk_mem ir)
              have s3 := HMay.out.2.1 _ (tk_mem io)
              have gl : (ln : Int) < tn := by have := hlen.out; omega
              have gr : (rn : Int) < tn := by have := hlen.out; omega
              have go : (on : Int) < tn := by have := hlen.out; omega
              have HW1 := Lib.hid hw1
              clear hil hir hio hbx hw1
              by_cases hcat : tk T on = tk T ln ++ tk T rn
              · have hq1 := bneS_yes hcat
                have hq2 := beqS_yes hcat
                have HOK : Hid (OkMg T (mg M k)) := Lib.hid (by rw [HMK.out]; exact ⟨hl1, hr1, ho1, hcat, by simp only; omega, by simp only; omega⟩)
                clear hcat
                go_quiet (fail)
                go_wp2_with (fail)
                obtain ⟨wo, rfl⟩ : ∃ wo : World, wo = wr := ⟨_, rfl⟩
                go_loopw [5, 6] (fun i _ wq => ∃ q : Nat, q ≤ k ∧ i = .int .i64 q ∧ Hid (PairTo M k q) ∧ Below w1.heap.size w1 wq) (fun i _ _ => k - (intOf i).toNat)
                case atStart => exact ⟨0, Nat.zero_le _, rfl, Lib.hid (PairTo.zero M k), below_drewN (Below.refl _ _) _⟩
                case round =>
                  obtain ⟨q, hq, rfl, HP, hbq⟩ := hrel
                  have HBQ := Lib.hid hbq
                  have hbq0 := HB1.out.trans (hbq.mono HB1.out.size)
                  have HBQ0 := Lib.hid hbq0
                  clear c0 c1 c2 c0' b0 b1 b2 b3 cl cr co d0 d1 d2 d3
                  obtain ⟨c0, c1, c2⟩ := box3v ((hbq0.block w.heap.size hs0).trans HX0.out)
                  have hmx := (hbq.block wo.heap.size hs1).trans HBX.out
                  obtain ⟨b0, b1, b2, b3⟩ := box4 hmx
                  have hlt0q : w.heap.size < wr.heap.size := Nat.lt_of_lt_of_le hs0 hbq0.size
                  have hlt1q : wo.heap.size < wr.heap.size := Nat.lt_of_lt_of_le hs1 hbq.size
                  clear hbq hbq0
                  by_cases hlq : q < k
                  · obtain ⟨⟨pl, pr, po, pd⟩, hpeq⟩ : ∃ m, mg M q = m := ⟨_, rfl⟩
                    obtain ⟨bp, op, hao, hcp⟩ := (HM.out.below HBQ0.out).elem Mg.enc_len (by omega) (mg_eq (M := M) (i := q) (by omega))
                    simp at hao
                    obtain ⟨rfl, rfl⟩ := hao
                    rw [hpeq] at hcp
                    have p0 := hcp 0 _ rfl
                    have p1 := hcp 1 _ rfl
                    have p2 := hcp 2 _ rfl
                    have p3 := hcp 3 _ rfl
                    rw [Nat.add_zero] at p0
                    simp only at p0 p1 p2 p3
                    have HPEQ := Lib.hid hpeq
                    have gq : (q : Int) < (mn : Int) := by omega
                    have hbx2 := heap_alloc_new wr (.cells #[.int .i64 pl, .int .i64 pr, .int .i64 po, .int .i64 pd] 140)
                    have hba := below_alloc wr (.cells #[.int .i64 pl, .int .i64 pr, .int .i64 po, .int .i64 pd] 140)
                    have HBX2 := Lib.hid hbx2
                    have HBA := Lib.hid hba
                    have HMX := Lib.hid hmx
                    clear hcp hpeq hbx2 hba hmx
                    go_wp2_with (fail)
                    refine (ahead_calls ⟨pl, pr, po, pd⟩ ⟨(ln : Int), (rn : Int), (on : Int), d⟩ _).mono ?_
                    rintro e w3 ⟨rfl, hb3⟩
                    have hx3 := (hb3.block wr.heap.size (by simp)).trans HBX2.out
                    have hm3 := (hb3.block wo.heap.size (by simp; omega)).trans ((HBA.out.block wo.heap.size hlt1q).trans HMX.out)
                    have HB3 := Lib.hid (HBQ.out.trans ((HBA.out.trans (hb3.mono HBA.out.size)).mono HBQ.out.size))
                    clear b0 b1 b2 b3 p0 p1 p2 p3
                    obtain ⟨b0, b1, b2, b3⟩ := box4 hm3
                    obtain ⟨p0, p1, p2, p3⟩ := box4 hx3
                    clear hx3 hm3 hb3
                    cases hal : ahead ⟨pl, pr, po, pd⟩ ⟨(ln : Int), (rn : Int), (on : Int), d⟩ with
                    | false =>
                      have HF := Lib.hid (notMayMg_rise (T := T) hlq hkM (by rw [HPEQ.out, HMK.out]; exact fun h => by rw [h.1] at hal; cases hal))
                      go_wp2_with (fail)
                      go_ret
                      exact ⟨⟨_, rfl, HF.out⟩, HB0.out.trans ((HB1.out.trans (HB3.out.mono HB1.out.size)).mono HB0.out.size)⟩
                    | true =>
                      by_cases h1 : pl = (ln : Int)
                      · have q1 : (pl == (ln : Int)) = true := by simpa using h1
                        by_cases h2 : pr = (rn : Int)
                        · have q2 : (pr == (rn : Int)) = true := by simpa using h2
                          have HF := Lib.hid (notMayMg_parts (T := T) hlq hkM (by rw [HPEQ.out, HMK.out]; exact fun h => h ⟨h1, h2⟩))
                          clear h1 h2
                          go_wp2_with (fail)
                          go_ret
                          exact ⟨⟨_, rfl, HF.out⟩, HB0.out.trans ((HB1.out.trans (HB3.out.mono HB1.out.size)).mono HB0.out.size)⟩
                        · have q2 : (pr == (rn : Int)) = false := by simpa using h2
                          have HPA : Hid (Parts ⟨pl, pr, po, pd⟩ ⟨(ln : Int), (rn : Int), (on : Int), d⟩) := Lib.hid (fun h => h2 h.2)
                          clear h1 h2
                          by_cases h3 : pd = d
                          · have q3 : (pd == d) = true := by simpa using h3
                            by_cases h4 : po = (on : Int)
                            · have q4 : (po != (on : Int)) = false := by simpa using h4
                              have HPn := Lib.hid (HP.out.next (by rw [HPEQ.out, HMK.out]; exact ⟨hal, fun _ => h4⟩) (by rw [HPEQ.out, HMK.out]; exact HPA.out))
                              clear h3 h4
                              go_wp2_with (fail)
                              go_roundw
                              case rel => exact ⟨q + 1, by omega, by go_num, HPn, HB3.out⟩
                              case measure => simp [intOf]; omega
                            · have q4 : (po != (on : Int)) = true := by simpa using h4
                              have HF := Lib.hid (notMayMg_rise (T := T) hlq hkM (by rw [HPEQ.out, HMK.out]; exact fun h => h4 (h.2 h3)))
                              clear h3 h4
                              go_wp2_with (fail)
                              go_ret
                              exact ⟨⟨_, rfl, HF.out⟩, HB0.out.trans ((HB1.out.trans (HB3.out.mono HB1.out.size)).mono HB0.out.size)⟩
                          · have q3 : (pd == d) = false := by simpa using h3
                            have HPn := Lib.hid (HP.out.next (by rw [HPEQ.out, HMK.out]; exact ⟨hal, fun e => absurd e h3⟩) (by rw [HPEQ.out, HMK.out]; exact HPA.out))
                            clear h3
                            go_wp2_with (fail)
                            go_roundw
                            case rel => exact ⟨q + 1, by omega, by go_num, HPn, HB3.out⟩
                            case measure => simp [intOf]; omega
                      · have q1 : (pl == (ln : Int)) = false := by simpa using h1
                        have HPA : Hid (Parts ⟨pl, pr, po, pd⟩ ⟨(ln : Int), (rn : Int), (on : Int), d⟩) := Lib.hid (fun h => h1 h.1)
                        clear h1
                        by_cases h3 : pd = d
                        · have q3 : (pd == d) = true := by simpa using h3
                          by_cases h4 : po = (on : Int)
                          · have q4 : (po != (on : Int)) = false := by simpa using h4
                            have HPn := Lib.hid (HP.out.next (by rw [HPEQ.out, HMK.out]; exact ⟨hal, fun _ => h4⟩) (by rw [HPEQ.out, HMK.out]; exact HPA.out))
                            clear h3 h4
                            go_wp2_with (fail)
                            go_roundw
                            case rel => exact ⟨q + 1, by omega, by go_num, HPn, HB3.out⟩
                            case measure => simp [intOf]; omega
                          · have q4 : (po != (on : Int)) = true := by simpa using h4
                            have HF := Lib.hid (notMayMg_rise (T := T) hlq hkM (by rw [HPEQ.out, HMK.out]; exact fun h => h4 (h.2 h3)))
                            clear h3 h4
                            go_wp2_with (fail)
                            go_ret
                            exact ⟨⟨_, rfl, HF.out⟩, HB0.out.trans ((HB1.out.trans (HB3.out.mono HB1.out.size)).mono HB0.out.size)⟩
                        · have q3 : (pd == d) = false := by simpa using h3
                          have HPn := Lib.hid (HP.out.next (by rw [HPEQ.out, HMK.out]; exact ⟨hal, fun e => absurd e h3⟩) (by rw [HPEQ.out, HMK.out]; exact HPA.out))
                          clear h3
                          go_wp2_with (fail)
                          go_roundw
                          case rel => exact ⟨q + 1, by omega, by go_num, HPn, HB3.out⟩
                          case measure => simp [intOf]; omega
                  · have HGn := Lib.hid (HG.out.next HOK.out HP.out hq hlq)
                    have HBn := Lib.hid HBQ0.out
                    go_wp2_with (fail)
                    go_roundw
                    case rel => exact ⟨k + 1, by omega, by go_num, HGn, HBn.out⟩
                    case measure => simp [intOf]; omega
              · have hq1 := bneS_no hcat
                have hq2 := beqS_no hcat
                have HF := Lib.hid (notMayMg_ok (T := T) hkM (fun h => by rw [HMK.out] at h; exact hcat h.2.2.2.1))
                clear hcat
                go_quiet (fail)
                go_wp2_with (fail)
                go_ret
                exact ⟨⟨_, rfl, HF.out⟩, HB0.out.trans (below_drewN (HB1.out.mono HB0.out.size) _)⟩
      · have HF := Lib.hid (HG.out.all hlenM.out hk hlt (by omega))
        go_wp2_with (fail)
        go_ret
        exact ⟨⟨_, rfl, (fun _ => HF.out), (fun _ => rfl)⟩, HB0.out.trans (HB.out.mono HB0.out.size)⟩

end Go.Proofs.YtnadelmbkaoeeaaGreatDoor

/- Walks: is each long token made by a merge? By the program and by the document. -/
namespace Go.Proofs.YtnadelmbkaoeeaaGreatDoor
open Go.RowKit
set_option linter.unusedVariables false

noncomputable abbrev VI : KeyView Tryz.prog 3 Int := intView Tryz.underlying3
abbrev MapI (w : World) (mb sz : Nat) (f : Int → Option Int) : Prop := MapK VI 3 w mb sz f

section
variable {w : World} {ops : Array Oper} {rest : List Oper} {o : Oper} {a : Act} {Q : Exit → Act → World → Prop}
theorem wpList_mi_get (hg : o.guard = none) (m x : Operand) (hop : o.op = Op.lookup 212 m x false) {mb sz : Nat} {f : Int → Option Int} (hm : a.eval m = .map (some mb)) (h : MapI w mb sz f)
    {s : Int} (hx : a.eval x = .int .i64 s) (hs : (Lit.int .i64 s).wf = true)
    (hK : wpList Tryz.prog ops Q rest (a.put o.dst (.int .i64 ((f s).getD 0))) w) : wpList Tryz.prog ops Q (o :: rest) a w :=
  wpList_mk_get (V := VI) Tryz.underlying212 Tryz.underlying3 zeroInt hg m x hop hm h (s := s) hx hs hK
theorem wpList_mi_put (hg : o.guard = none) (m x v : Operand) (hop : o.op = Op.mapUpdate 212 m x v) {mb sz : Nat} {f : Int → Option Int} (hm : a.eval m = .map (some mb)) (h : MapI w mb sz f)
    {s : Int} (hx : a.eval x = .int .i64 s) (hs : (Lit.int .i64 s).wf = true) {c : Int} (hv : a.eval v = .int .i64 c) (hc : (Lit.int .i64 c).wf = true) (hn : sz < maxLen)
    (hK : ∀ w' sz', sz' ≤ sz + 1 → MapI w' mb sz' (fun t => if t = s then some c else f t) → w.grownBy w' (some mb) → wpList Tryz.prog ops Q rest (a.put o.dst undef) w') : wpList Tryz.prog ops Q (o :: rest) a w :=
  wpList_mk_put (V := VI) Tryz.underlying212 Tryz.underlying3 hg m x v hop hm h (s := s) hx hs hv hc hn fun w' h1 h2 => hK w' _ (by split <;> omega) h1 h2
end

/-- How often tokens are made by the first k merges. -/
def MadeR (M : List Mg) (k : Nat) (f : Int → Option Int) : Prop := ∀ i, ((f i).isSome = true ↔ ∃ j, j < k ∧ (mg M j).out = i) ∧ ∀ c, f i = some c → 1 ≤ c ∧ c ≤ k
theorem MadeR.zero (M : List Mg) : MadeR M 0 (fun _ => none) := fun i => ⟨⟨(fun h => by cases h), fun ⟨j, hj, _⟩ => by omega⟩, fun c hc => by cases hc⟩
theorem MadeR.get {M : List Mg} {k : Nat} {f : Int → Option Int} (h : MadeR M k f) (i : Int) : 0 ≤ (f i).getD 0 ∧ (f i).getD 0 ≤ k ∧ ((f i).getD 0 = 0 ↔ ¬ ∃ j, j < k ∧ (mg M j).out = i) := by
  cases hf : f i with
  | none =>
    have := (h i).1
    rw [hf] at this
    simp at this ⊢
    exact this
  | some c =>
    have h1 := (h i).2 c hf
    have := (h i).1
    rw [hf] at this
    simp at this ⊢
    refine ⟨by omega, by omega, ?_⟩
    obtain ⟨j, hj, e⟩ := this
    constructor
    · intro hc; omega
    · intro h2; exact absurd e (h2 j hj)
theorem MadeR.next {M : List Mg} {k : Nat} {f : Int → Option Int} (h : MadeR M k f) : MadeR M (k + 1) (fun t => if t = (mg M k).out then some ((f (mg M k).out).getD 0 + 1) else f t) := fun i => by
  have hg := h.get (mg M k).out
  by_cases e : i = (mg M k).out
  · subst e
    simp only [if_true, Option.isSome_some, true_iff, Option.some.injEq]
    refine ⟨⟨k, by omega, rfl⟩, fun c hc => by omega⟩
  · simp only [e, if_false]
    refine ⟨?_, fun c hc => by have := (h i).2 c hc; omega⟩
    rw [(h i).1]
    constructor
    · rintro ⟨j, hj, he⟩; exact ⟨j, by omega, he⟩
    · rintro ⟨j, hj, he⟩
      have : j ≠ k := fun ej => e (by rw [← he, ej])
      exact ⟨j, by omega, he⟩

def MayMadePost (T : List ByteArray) (M : List Mg) (w : World) (e : Ending) (w' : World) : Prop := (∃ b, e = .returned (.bool b) ∧ (b = true ↔ MayMade T M)) ∧ Below w.heap.size w w'
theorem notMade {T : List ByteArray} {M : List Mg} {i : Nat} (hi : i < T.length) (h1 : 1 < (tk T i).size) (h2 : ¬ ∃ j, j < M.length ∧ (mg M j).out = (i : Int)) : (false = true ↔ MayMade T M) :=
  ⟨(fun h => by cases h), fun h => by
    obtain ⟨m, hm, e⟩ := h i hi h1
    obtain ⟨j, hj, rfl⟩ := List.getElem_of_mem hm
    exact absurd ⟨j, hj, by rw [← mg_get hj]; exact e⟩ h2⟩
def MadeTo (T : List ByteArray) (M : List Mg) (k : Nat) : Prop := ∀ i, i < k → 1 < (tk T i).size → ∃ j, j < M.length ∧ (mg M j).out = (i : Int)
theorem MadeTo.zero (T : List ByteArray) (M : List Mg) : MadeTo T M 0 := fun i h => by omega
theorem MadeTo.next {T : List ByteArray} {M : List Mg} {k : Nat} (h : MadeTo T M k) (h1 : 1 < (tk T k).size → ∃ j, j < M.length ∧ (mg M j).out = (k : Int)) : MadeTo T M (k + 1) := fun i hi hs => by
  by_cases e : i = k
  · subst e; exact h1 hs
  · exact h i (by omega) hs
theorem MadeTo.all {T : List ByteArray} {M : List Mg} {k n : Nat} (h : MadeTo T M k) (hl : T.length = n) (hk2 : ¬ k < n) : MayMade T M := fun i hi hs => by
  obtain ⟨j, hj, e⟩ := h i (by omega) hs
  exact ⟨mg M j, by rw [← mg_get hj]; exact List.getElem_mem _, e⟩

set_option maxHeartbeats 2000000 in
set_option maxRecDepth 100000 in
theorem mayMade_calls {V : Vc} {dd : Vd} (w : World) (hV : VocR w dd V) (hmay : MayTok V.tokens) (hmg : MayMg V.tokens V.merges) :
    Calls Tryz.prog 132 #[dd.val] w (MayMadePost V.tokens V.merges w) := by
  obtain ⟨T, M, S⟩ := V
  obtain ⟨ta, tn, tc, ma, mn, mc, sa, sn, sc⟩ := dd
  obtain ⟨hT, hM, _⟩ := hV
  simp only at hT hM hmay hmg ⊢
  have hm := Nat.le_trans (Sl.le hT) (Sl.max hT)
  have hmm := Nat.le_trans hM.le hM.max
  unfold maxLen at hm hmm
  have hlen := Lib.hid hT.count
  have hlenM := Lib.hid (hM.count Mg.enc_len (by omega))
  have hmk := @run_makeMap Tryz.prog
  obtain ⟨w0, hw0⟩ : ∃ w0, w.alloc (.cells #[.slice ta tn tc, .slice ma mn mc, .slice sa sn sc] 26) = w0 := ⟨_, rfl⟩
  have hb0 : Below w.heap.size w w0 := hw0 ▸ below_alloc w _
  have hx0 : w0.heap[w.heap.size]? = some (.cells #[.slice ta tn tc, .slice ma mn mc, .slice sa sn sc] 26) := by rw [← hw0]; exact heap_alloc_new w _
  have hs0 : w.heap.size < w0.heap.size := by rw [← hw0]; simp
  obtain ⟨c0, c1, c2⟩ := box3v hx0
  have HT := Lib.hid (Sl.below hT hb0)
  have HM := Lib.hid (hM.below hb0)
  have HX0 := Lib.hid hx0
  have HB0 := Lib.hid hb0
  have HMay := Lib.hid hmay
  have HMg := Lib.hid hmg
  have HW0 := Lib.hid hw0
  have hmn : mn ≤ 16384 := by have := hmg.1; have := hlenM.out; omega
  have H0 := Lib.hid (MapK.new VI 3 w0)
  have HB00 := Lib.hid (below_alloc w0 (.map #[] 0))
  have hs00 : w.heap.size + 1 = w0.heap.size := by rw [← hw0]; simp
  have HS00 := Lib.hid hs00
  clear hT hM hmay hmg hb0 hx0 hw0 hs00
  go_enter Tryz.func132, Tryz.ntmps132
  go_wp2_with (fail)
  rw [HW0.out]
  go_loopw [5, 12] (fun _ i wr => ∃ (k sz : Nat) (f : Int → Option Int), k ≤ mn ∧ i = .int .i64 k ∧ sz ≤ k ∧ MapI wr (w.heap.size + 1) sz f ∧ Hid (MadeR M k f) ∧ Below w0.heap.size w0 wr) (fun _ i _ => mn - (intOf i).toNat)
  case atStart => exact ⟨0, 0, _, Nat.zero_le _, rfl, Nat.le_refl _, by rw [HS00.out]; exact H0.out, Lib.hid (MadeR.zero M), HB00.out⟩
  case round =>
    obtain ⟨k, sz, f, hk, rfl, hsz, hmap, HMd, hb⟩ := hrel
    have HB := Lib.hid hb
    have HMp := Lib.hid hmap
    clear c0 c1 c2
    obtain ⟨c0, c1, c2⟩ := box3v ((hb.block w.heap.size hs0).trans HX0.out)
    have hlt0 : w.heap.size < wr.heap.size := Nat.lt_of_lt_of_le hs0 hb.size
    clear hb hmap
    by_cases hlt : k < mn
    · have hkM : k < M.length := by have := hlenM.out; omega
      obtain ⟨b, of, rfl, hce⟩ := (HM.out.below HB.out).elem Mg.enc_len (by omega) (mg_eq hkM)
      have hok := HMg.out.ok hkM
      obtain ⟨⟨l, r, o, d⟩, hmeq⟩ : ∃ m, mg M k = m := ⟨_, rfl⟩
      rw [hmeq] at hce hok
      have d0 := hce 0 _ rfl
      have d1 := hce 1 _ rfl
      have d2 := hce 2 _ rfl
      have d3 := hce 3 _ rfl
      rw [Nat.add_zero] at d0
      simp only at d0 d1 d2 d3
      have hio := isTk_iff.1 hok.2.2.1
      have hwo : (Lit.int .i64 o).wf = true := by rw [i64_wf]; have := HMay.out.1; have := hio.2.1; have := hio.1; simp only at *; omega
      have HWO := Lib.hid hwo
      have hwb := below_alloc wr (.cells #[.int .i64 l, .int .i64 r, .int .i64 o, .int .i64 d] 140)
      have HB1 := Lib.hid (HB.out.trans (hwb.mono HB.out.size))
      have HM1 := Lib.hid (HMp.out.below hwb)
      have hg := HMd.out.get o
      have hgw : (Lit.int .i64 ((f o).getD 0 + 1)).wf = true := by rw [i64_wf]; omega
      have HGW := Lib.hid hgw
      have hwr : IntKind.i64.wrap ((f o).getD 0 + 1) = (f o).getD 0 + 1 := by rw [IntKind.wrap_i64]; omega
      have HNX : Hid (MadeR M (k + 1) (fun t => if t = o then some ((f o).getD 0 + 1) else f t)) := Lib.hid (by have := HMd.out.next; rw [hmeq] at this; exact this)
      obtain ⟨c, hc⟩ : ∃ c, (f o).getD 0 = c := ⟨_, rfl⟩
      rw [hc] at hg hgw hwr HGW HNX
      have HC := Lib.hid hc
      obtain ⟨hg1, hg2, _⟩ := hg
      clear hce hmeq hok hio hwo hwb hgw hc
      go_wp2_with (first
        | (with_reducible show wpList _ _ _ (⟨_, .lookup _ _ _ _, _, _, _, _⟩ :: _) _ _; refine wpList_mi_get rfl _ _ rfl rfl HM1.out rfl HWO.out ?_; rw [HC.out])
        | (with_reducible show wpList _ _ _ (⟨_, .mapUpdate _ _ _ _, _, _, _, _⟩ :: _) _ _; refine wpList_mi_put rfl _ _ _ rfl rfl HM1.out rfl HWO.out rfl HGW.out (by unfold maxLen; omega) ?_))
      intro w2 sz2 hsz2 hm2 hg2'
      have HM2 := Lib.hid hm2
      have HB2 := Lib.hid (HB1.out.grown hg2' HB1.out.size fun q hq => by simp at hq; have := HS00.out; omega)
      clear hm2 hg2'
      go_wp2_with (fail)
      go_roundw
      case rel => exact ⟨k + 1, sz2, _, by omega, by go_num, by omega, HM2.out, HNX, HB2.out⟩
      case measure => simp [intOf]; omega
    · have hkn : k = mn := by omega
      have HMd2 : Hid (MadeR M M.length f) := Lib.hid (by rw [hlenM.out, ← hkn]; exact HMd.out)
      clear hkn
      go_wp2_with (fail)
      go_loopw [6, 7, 25] (fun _ _ i wq => ∃ q : Nat, q ≤ tn ∧ i = .int .i64 q ∧ Hid (MadeTo T M q) ∧ wq = wr) (fun _ _ i _ => tn - (intOf i).toNat)
      case atStart => exact ⟨0, Nat.zero_le _, rfl, Lib.hid (MadeTo.zero T M), rfl⟩
      case round =>
        obtain ⟨q, hq, rfl, HT2, rfl⟩ := hrel
        by_cases hltq : q < tn
        · have hqT : q < T.length := by have := hlen.out; omega
          obtain ⟨b, o, rfl, hc⟩ := SlS.cell (Sl.below HT.out HB.out) (tk_eq hqT)
          have hks := HMay.out.2.1 _ (tk_mem hqT)
          have hwq : (Lit.int .i64 (q : Int)).wf = true := by rw [i64_wf]; omega
          have HWQ := Lib.hid hwq
          clear hwq
          by_cases h1 : (1 : Int) < (tk T q).size
          · have hg1 : decide ((1 : Int) < (tk T q).size) = true := by simpa using h1
            have hg := HMd2.out.get (q : Int)
            obtain ⟨c, hcc⟩ : ∃ c, (f (q : Int)).getD 0 = c := ⟨_, rfl⟩
            rw [hcc] at hg
            have hlk : (Instr.lookup 212 (.map (some (w.heap.size + 1))) (.int .i64 (q : Int)) false).run Tryz.prog wr = .ok (.int .i64 c) wr := by
              rw [← hcc]
              exact MapK.get (V := VI) (s := (q : Int)) Tryz.underlying212 Tryz.underlying3 zeroInt HMp.out HWQ.out
            clear hcc
            by_cases hz : c = 0
            · subst hz
              have HF := Lib.hid (notMade hqT (by omega) (hg.2.2.1 rfl))
              clear hg
              go_wp2_with (fail)
              go_ret
              exact ⟨⟨_, rfl, HF.out⟩, HB0.out.trans (HB.out.mono HB0.out.size)⟩
            · have hzz : (c == 0) = false := by simpa using hz
              have HTn : Hid (MadeTo T M (q + 1)) := Lib.hid (HT2.out.next (fun _ => Classical.byContradiction fun h => hz (hg.2.2.2 h)))
              clear hg hz
              go_wp2_with (fail)
              go_roundw
              case rel => exact ⟨q + 1, by omega, by go_num, HTn, by first | rfl | trivial⟩
              case measure => simp [intOf]; omega
          · have hg1 : decide ((1 : Int) < (tk T q).size) = false := by simpa using h1
            have HTn : Hid (MadeTo T M (q + 1)) := Lib.hid (HT2.out.next (fun h => by omega))
            go_wp2_with (fail)
            go_roundw
            case rel => exact ⟨q + 1, by omega, by go_num, HTn, by first | rfl | trivial⟩
            case measure => simp [intOf]; omega
        · have HF := Lib.hid (HT2.out.all hlen.out hltq)
          go_wp2_with (fail)
          go_ret
          exact ⟨⟨_, rfl, (fun _ => HF.out), (fun _ => rfl)⟩, HB0.out.trans (HB.out.mono HB0.out.size)⟩

theorem made_iff {T : List ByteArray} {M : List Mg} {i : Nat} (b : Bool) (h : b = true ↔ (tk T i).size < 2 ∨ ∃ j, j < M.length ∧ (mg M j).out = (i : Int)) : (b = true ↔ (1 < (tk T i).size → ∃ j, j < M.length ∧ (mg M j).out = (i : Int))) := by
  rw [h]
  constructor
  · rintro (h1 | h1)
    · intro h2; omega
    · exact fun _ => h1
  · intro h1
    by_cases h2 : 1 < (tk T i).size
    · exact .inr (h1 h2)
    · exact .inl (by omega)

set_option maxHeartbeats 2000000 in
set_option maxRecDepth 100000 in
theorem rmayMade_calls {V : Vc} {dd : Vd} (w : World) (hV : VocR w dd V) (hmay : MayTok V.tokens) :
    Calls Tryz.prog 65 #[dd.val] w (MayMadePost V.tokens V.merges w) := by
  obtain ⟨T, M, S⟩ := V
  obtain ⟨ta, tn, tc, ma, mn, mc, sa, sn, sc⟩ := dd
  obtain ⟨hT, hM, _⟩ := hV
  simp only at hT hM hmay ⊢
  have hm := Nat.le_trans (Sl.le hT) (Sl.max hT)
  have hmm := Nat.le_trans hM.le hM.max
  unfold maxLen at hm hmm
  have hlen := Lib.hid hT.count
  have hlenM := Lib.hid (hM.count Mg.enc_len (by omega))
  obtain ⟨w0, hw0⟩ : ∃ w0, w.alloc (.cells #[.slice ta tn tc, .slice ma mn mc, .slice sa sn sc] 26) = w0 := ⟨_, rfl⟩
  have hb0 : Below w.heap.size w w0 := hw0 ▸ below_alloc w _
  have hx0 : w0.heap[w.heap.size]? = some (.cells #[.slice ta tn tc, .slice ma mn mc, .slice sa sn sc] 26) := by rw [← hw0]; exact heap_alloc_new w _
  obtain ⟨c0, c1, c2⟩ := box3v hx0
  have HT := Lib.hid (Sl.below hT hb0)
  have HM := Lib.hid (hM.below hb0)
  have HB0 := Lib.hid hb0
  have HMay := Lib.hid hmay
  have HW0 := Lib.hid hw0
  clear hT hM hmay hb0 hx0 hw0
  go_enter Tryz.func65, Tryz.ntmps65
  go_wp2_with (fail)
  rw [HW0.out]
  go_loop [3, 4, 5, 9] (fun _ _ _ i => ∃ (k : Nat), k ≤ tn ∧ i = .int .i64 k ∧ Hid (MadeTo T M k)) (fun _ _ _ i => tn - (intOf i).toNat)
  case atStart => exact ⟨0, Nat.zero_le _, rfl, Lib.hid (MadeTo.zero T M)⟩
  case round =>
    obtain ⟨k, hk, rfl, HMt⟩ := hrel
    by_cases hlt : k < tn
    · have hkT : k < T.length := by have := hlen.out; omega
      obtain ⟨b, o, rfl, hc⟩ := SlS.cell HT.out (tk_eq hkT)
      have hks := HMay.out.2.1 _ (tk_mem hkT)
      obtain ⟨b0, hb0⟩ : ∃ b0 : Bool, decide (((tk T k).size : Int) < 2) = b0 := ⟨_, rfl⟩
      have HB00 := Lib.hid hb0
      go_wp2_with (fail)
      clear hb0
      go_loop [4, 5, 22] (fun m _ i => ∃ (q : Nat) (b : Bool), q ≤ mn ∧ i = .int .i64 q ∧ m = .bool b ∧ Hid (b = true ↔ (tk T k).size < 2 ∨ ∃ j, j < q ∧ (mg M j).out = (k : Int))) (fun _ _ i => mn - (intOf i).toNat)
      case atStart => exact ⟨0, b0, Nat.zero_le _, rfl, rfl, Lib.hid (by
        have := HB00.out
        constructor
        · intro h; rw [h] at this; simp at this; left; omega
        · rintro (h | ⟨j, hj, _⟩)
          · rw [← this]; simp; omega
          · omega)⟩
      case round =>
        obtain ⟨q, bb, hq, rfl, rfl, HQ⟩ := hrel
        by_cases hltq : q < mn
        · obtain ⟨bm, om, rfl, hce⟩ := HM.out.elem Mg.enc_len (by omega) (mg_eq (M := M) (i := q) (by have := hlenM.out; omega))
          have d2 := hce 2 _ rfl
          clear hce
          cases bb with
          | true =>
            have HQ2 : Hid (true = true ↔ (tk T k).size < 2 ∨ ∃ j, j < q + 1 ∧ (mg M j).out = (k : Int)) := Lib.hid ⟨fun _ => by
              rcases HQ.out.1 rfl with h | ⟨j, hj, e⟩
              · exact .inl h
              · exact .inr ⟨j, by omega, e⟩, fun _ => rfl⟩
            go_wp2_with (fail)
            go_round
            case rel => exact ⟨q + 1, true, by omega, by go_num, rfl, HQ2⟩
            case measure => simp [intOf]; omega
          | false =>
            obtain ⟨e, he⟩ : ∃ e : Bool, ((mg M q).out == (k : Int)) = e := ⟨_, rfl⟩
            have HQ2 : Hid (e = true ↔ (tk T k).size < 2 ∨ ∃ j, j < q + 1 ∧ (mg M j).out = (k : Int)) := Lib.hid (by
              constructor
              · intro h; rw [h] at he; exact .inr ⟨q, by omega, by simpa using he⟩
              · rintro (h | ⟨j, hj, e2⟩)
                · have := HQ.out.2 (.inl h); cases this
                · by_cases ej : j = q
                  · subst ej; rw [← he]; simpa using e2
                  · have := HQ.out.2 (.inr ⟨j, by omega, e2⟩); cases this)
            go_wp2_with (fail)
            go_round
            case rel => exact ⟨q + 1, e, by omega, by go_num, rfl, HQ2⟩
            case measure => simp [intOf]; omega
        · have HQ3 : Hid (bb = true ↔ (1 < (tk T k).size → ∃ j, j < M.length ∧ (mg M j).out = (k : Int))) := Lib.hid (made_iff bb (by rw [hlenM.out, show mn = q by omega]; exact HQ.out))
          cases bb with
          | true =>
            have HTn : Hid (MadeTo T M (k + 1)) := Lib.hid (HMt.out.next (HQ3.out.1 rfl))
            go_wp2_with (fail)
            go_round
            case rel => exact ⟨k + 1, by omega, by go_num, HTn⟩
            case measure => simp [intOf]; omega
          | false =>
            have HF : Hid (false = true ↔ MayMade T M) := Lib.hid (by
              by_cases h1 : 1 < (tk T k).size
              · exact notMade hkT h1 (fun h => by have := HQ3.out.2 (fun _ => h); cases this)
              · have := HQ3.out.2 (fun h => absurd h h1); cases this)
            go_wp2_with (fail)
            go_ret
            exact ⟨⟨_, rfl, HF.out⟩, HB0.out⟩
    · have HF := Lib.hid (HMt.out.all hlen.out hlt)
      go_wp2_with (fail)
      go_ret
      exact ⟨⟨_, rfl, (fun _ => HF.out), (fun _ => rfl)⟩, HB0.out⟩

end Go.Proofs.YtnadelmbkaoeeaaGreatDoor
