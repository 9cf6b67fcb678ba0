/- Walks: may tokens be? The whole of it, by the program and by the document. -/
import Derived.Test.YteoncpkfinheoaaVocB
namespace Go.Proofs.Yteoncpkfinheoaa
open Go.RowKit Go.Maps Go.ChangeMaps Go.WideMaps
set_option linter.unusedVariables false

set_option maxHeartbeats 400000 in
/-- Is a token longer than 64 bytes? -/
theorem long_calls (s : ByteArray) (hs : s.size ≤ maxLen) (w : World) :
    Calls Try.prog 24 #[.string s] w fun e w' => e = .returned (.bool (decide (64 < s.size))) ∧ w = w' := by
  unfold maxLen at hs
  by_cases h : (64 : Int) < s.size
  · have h2 : 64 < s.size := by omega
    go_enter Try.func24, Try.ntmps24
    go_wp2
    go_ret
    exact ⟨ret_bool (by simp; omega), rfl⟩
  · have h2 : ¬ 64 < s.size := by omega
    go_enter Try.func24, Try.ntmps24
    go_wp2
    go_ret
    exact ⟨ret_bool (by simp), rfl⟩

/-- The first one that is longer; -1. -/
def LongPost (T : List ByteArray) (w : World) (e : Ending) (w' : World) : Prop := (∃ i : Int, e = .returned (.int .i64 i) ∧ (0 ≤ i ↔ ∃ s ∈ T, 64 < s.size)) ∧ w = w'

set_option maxHeartbeats 400000 in
theorem indexLong_calls {T : List ByteArray} {ao : Option Addr} {n c : Nat} (w : World) (hT : SlS w ao n c T) (hsz : ∀ s ∈ T, s.size ≤ maxLen) :
    Calls Try.prog 37 #[.slice ao n c, .func (.func 24) #[] #[]] w (LongPost T w) := by
  have hm := Nat.le_trans (Sl.le hT) (Sl.max hT)
  unfold maxLen at hm
  have hlen := Lib.hid hT.count
  have HS := Lib.hid hsz
  clear hsz
  go_enter Try.func37, Try.ntmps37
  go_wp2
  go_loop [5, 8] (fun _ i => ∃ k : Nat, k ≤ n ∧ i = .int .i64 k ∧ Hid (∀ j, j < k → ¬ 64 < (tk T j).size)) (fun _ i => n - (intOf i).toNat)
  case atStart => exact ⟨0, Nat.zero_le _, rfl, Lib.hid (fun j h => by omega)⟩
  case round =>
    obtain ⟨k, hk, rfl, hno⟩ := hrel
    by_cases hlt : k < n
    · have hkT : k < T.length := by have := hlen.out; omega
      obtain ⟨b, o, rfl, hc⟩ := hT.cell (tk_eq (T := T) (i := k) hkT)
      have hks := Lib.hid (HS.out _ (tk_mem hkT))
      go_wp2_with (fail)
      refine (long_calls (tk T k) hks.out w).mono ?_
      rintro e w' ⟨rfl, rfl⟩
      by_cases hl : 64 < (tk T k).size
      · have hfin : Hid ((0 : Int) ≤ (k : Int) ↔ ∃ s ∈ T, 64 < s.size) := Lib.hid ⟨fun _ => ⟨_, tk_mem hkT, hl⟩, fun _ => by omega⟩
        go_wp2
        go_ret
        exact ⟨⟨_, rfl, hfin.out⟩, rfl⟩
      · have hno2 : Hid (∀ j, j < k + 1 → ¬ 64 < (tk T j).size) := Lib.hid (fun j hj => by
          by_cases ej : j = k
          · subst ej; exact hl
          · exact hno.out j (by omega))
        go_wp2
        go_round
        case rel => exact ⟨k + 1, by omega, by go_num, hno2⟩
        case measure => simp [intOf]; omega
    · have hfin : Hid ((0 : Int) ≤ -1 ↔ ∃ s ∈ T, 64 < s.size) := Lib.hid ⟨fun h => by omega, fun ⟨s, hs, h⟩ => by
        obtain ⟨j, hj, rfl⟩ := mem_tk hs
        exact absurd h (hno.out j (by have := hlen.out; omega))⟩
      go_wp2
      go_ret
      exact ⟨⟨_, rfl, hfin.out⟩, rfl⟩

set_option maxHeartbeats 400000 in
theorem containsLong_calls {T : List ByteArray} {ao : Option Addr} {n c : Nat} (w : World) (hT : SlS w ao n c T) (hsz : ∀ s ∈ T, s.size ≤ maxLen) :
    Calls Try.prog 23 #[.slice ao n c, .func (.func 24) #[] #[]] w fun e w' => (∃ b, e = .returned (.bool b) ∧ (b = true ↔ ∃ s ∈ T, 64 < s.size)) ∧ w = w' := by
  go_enter Try.func23, Try.ntmps23
  go_wp2_with (fail)
  refine (indexLong_calls w hT hsz).mono ?_
  rintro e w' ⟨⟨i, rfl, hi⟩, rfl⟩
  have HI := Lib.hid hi
  clear hi
  go_wp2
  go_ret
  exact ⟨⟨_, rfl, by simp [HI.out]⟩, rfl⟩

/-- What is answered to 'may tokens be?'. -/
def MayTokPost (T : List ByteArray) (w : World) (e : Ending) (w' : World) : Prop := (∃ b, e = .returned (.bool b) ∧ (b = true ↔ MayTok T)) ∧ Below w.heap.size w w'

theorem notMayTok_long {T : List ByteArray} (h : 4096 < T.length) : (false = true ↔ MayTok T) := ⟨(fun h => by cases h), fun h2 => by have := h2.1; omega⟩
theorem notMayTok_tok {T : List ByteArray} (h : ∃ s ∈ T, 64 < s.size) : (false = true ↔ MayTok T) := ⟨(fun h => by cases h), fun h2 => by obtain ⟨s, hs, h⟩ := h; have := h2.2.1 s hs; omega⟩
theorem notMayTok_uniq {T : List ByteArray} (h : ¬ Uniq T) : (false = true ↔ MayTok T) := ⟨(fun h => by cases h), fun h2 => absurd h2.2.2.1 h⟩
theorem notMayTok_byte {T : List ByteArray} {b : Nat} (hb : b < 256) (h : one b ∉ T) : (false = true ↔ MayTok T) := ⟨(fun h => by cases h), fun h2 => absurd (h2.2.2.2 b hb) h⟩
theorem mayTok_yes {T : List ByteArray} (h1 : T.length ≤ 4096) (h2 : ∀ s ∈ T, s.size ≤ 64) (h3 : Uniq T) (h4 : ∀ b, b < 256 → one b ∈ T) : MayTok T := ⟨h1, h2, h3, h4⟩

theorem one_size (b : Nat) : (one b).size = 1 := rfl
theorem one_maxLen (b : Nat) : (one b).size ≤ maxLen := by rw [one_size]; unfold maxLen; omega
theorem PlaceR.one_in {T : List ByteArray} {f : ByteArray → Option Int} (h : PlaceR T T.length f) (b : Nat) : (f (one b)).isSome = true ↔ one b ∈ T := by
  constructor
  · intro h1
    obtain ⟨i, hi⟩ := Option.isSome_iff_exists.1 h1
    obtain ⟨_, j, h2, _, h4⟩ := (h _ _).1 hi
    rw [← h4]; exact tk_mem h2
  · intro h1
    obtain ⟨j, hj, e⟩ := mem_tk h1
    have : f (one b) = some (j : Int) := (h _ _).2 ⟨by rw [one_size]; omega, j, hj, rfl, e⟩
    rw [this]; rfl

theorem lawStr : Go.Maps.Keyed Try.prog 9 := Go.Maps.string_keyed Try.underlying9

theorem conv_one (w : World) (k : Nat) : (convert 64 9 (.slice (some ⟨w.heap.size, 0, none⟩) 1 1)).run Try.prog (w.alloc (.cells #[.int .u8 (k : Int)] 5)) = .ok (.string (one k)) (w.alloc (.cells #[.int .u8 (k : Int)] 5)) := by
  rw [run_convert_bytes_string (P := Try.prog) _ 64 9 5 _ _ _ Try.underlying64 Try.underlying5 Try.underlying9]
  rw [run_bytesToString _ _ _ _ [(k : Int)] (by
    exact run_loadCells_list (w := w.alloc (.cells #[.int .u8 (k : Int)] 5)) (P := Try.prog) ⟨w.heap.size, 0, none⟩ [.int .u8 (k : Int)] (fun j v hj => by
      match j, hj with
      | 0, hj => simp at hj; subst hj; rw [Addr.add_lit]; simp
      | j + 1, hj => simp at hj))]
  rfl

set_option maxHeartbeats 1000000 in
set_option maxRecDepth 100000 in
theorem mayTokens_calls {T : List ByteArray} {ao : Option Addr} {n c : Nat} (w : World) (hT : SlS w ao n c T) (hsz : ∀ s ∈ T, s.size ≤ maxLen) :
    Calls Try.prog 15 #[.slice ao n c] w (MayTokPost T w) := by
  have hm := Nat.le_trans (Sl.le hT) (Sl.max hT)
  unfold maxLen at hm
  have hlen := Lib.hid hT.count
  have HT := Lib.hid hT
  have HS := Lib.hid hsz
  clear hT hsz
  by_cases hl : (4096 : Int) < n
  · have HF := Lib.hid (notMayTok_long (T := T) (by have := hlen.out; omega))
    go_enter Try.func15, Try.ntmps15
    go_wp2_with (fail)
    go_ret
    exact ⟨⟨_, rfl, HF.out⟩, Below.refl _ _⟩
  · go_enter Try.func15, Try.ntmps15
    go_wp2_with (fail)
    refine (containsLong_calls w HT.out HS.out).mono ?_
    rintro e w' ⟨⟨b, rfl, hb⟩, rfl⟩
    cases b with
    | true =>
      have HF := Lib.hid (notMayTok_tok (hb.1 rfl))
      clear hb
      go_wp2
      go_ret
      exact ⟨⟨_, rfl, HF.out⟩, Below.refl _ _⟩
    | false =>
      have H64 : Hid (∀ s ∈ T, s.size ≤ 64) := Lib.hid (fun s hs => by
        rcases Nat.lt_or_ge 64 s.size with h | h
        · have := hb.2 ⟨s, hs, h⟩; cases this
        · exact h)
      clear hb
      go_wp2_with (fail)
      refine (places_calls _ HT.out HS.out (by omega)).mono ?_
      rintro e w1 ⟨⟨hu, mb, sz, f, rfl, hmb, hmap, hpl⟩ | ⟨hnu, rfl⟩, hb1⟩
      · have HU := Lib.hid hu
        have HM := Lib.hid hmap
        have HP := Lib.hid hpl
        have HB1 := Lib.hid hb1
        clear hu hmap hpl hb1
        go_wp2
        go_loopw [5, 6, 7, 20] (fun _ _ _ i wr => ∃ k : Nat, k ≤ 256 ∧ i = .int .i64 k ∧ Below w.heap.size w wr ∧ MapS wr mb sz f ∧ Hid (∀ b, b < k → one b ∈ T)) (fun _ _ _ i _ => 256 - (intOf i).toNat)
        case atStart => exact ⟨0, by omega, rfl, HB1.out, HM.out, Lib.hid (fun b hb => by omega)⟩
        case round =>
          obtain ⟨k, hk, rfl, hb, hmap, hall⟩ := hrel
          have HB := Lib.hid hb
          have HM2 := Lib.hid hmap
          clear hb hmap
          by_cases hlt : k < 256
          · have hw8 : IntKind.u8.wrap (k : Int) = (k : Int) := by rw [IntKind.wrap_u8]; omega
            have hcv := conv_one wr k
            have HB3 := Lib.hid (HB.out.alloc HB.out.size (.cells #[.int .u8 (k : Int)] 5))
            have HM3 := Lib.hid (HM2.out.alloc (.cells #[.int .u8 (k : Int)] 5))
            cases hf : (f (one k)).isSome with
            | true =>
              have hin : Hid (∀ b, b < k + 1 → one b ∈ T) := Lib.hid (fun b hb => by
                by_cases e : b = k
                · subst e; exact (HP.out.one_in b).1 hf
                · exact hall.out b (by omega))
              go_wp2_with (with_reducible show wpList _ _ _ (⟨_, .lookup _ _ _ _, _, _, _, _⟩ :: _) _ _; refine wpList_ms_ok rfl _ _ rfl rfl HM3.out rfl (one_maxLen k) ?_; rw [hf])
              go_roundw
              case rel => exact ⟨k + 1, by omega, by go_num, HB3.out, HM3.out, hin⟩
              case measure => simp [intOf]; omega
            | false =>
              have HF := Lib.hid (notMayTok_byte hlt (fun h => by rw [(HP.out.one_in k).2 h] at hf; cases hf))
              go_wp2_with (with_reducible show wpList _ _ _ (⟨_, .lookup _ _ _ _, _, _, _, _⟩ :: _) _ _; refine wpList_ms_ok rfl _ _ rfl rfl HM3.out rfl (one_maxLen k) ?_; rw [hf])
              go_ret
              exact ⟨⟨_, rfl, HF.out⟩, HB3.out⟩
          · have HF := Lib.hid (mayTok_yes (by have := hlen.out; omega) H64.out HU.out (fun b hb => hall.out b (by omega)))
            go_wp2
            go_ret
            exact ⟨⟨_, rfl, (fun _ => HF.out), (fun _ => rfl)⟩, HB.out⟩
      · have HF := Lib.hid (notMayTok_uniq hnu)
        have HB1 := Lib.hid hb1
        have hcv := conv_one w1 0
        rw [show ((0 : Nat) : Int) = 0 from rfl] at hcv
        have HB3 := Lib.hid (HB1.out.alloc HB1.out.size (.cells #[.int .u8 ((0 : Nat) : Int)] 5))
        have hlk := fun w : World => Go.Maps.look_nil (P := Try.prog) (w := w) true lawStr Try.underlying56 (zeroInt w) (key := .string (one 0)) (keyOf_string_mk Try.underlying9 (one_maxLen 0))
        clear hnu hb1
        go_wp2
        go_loopw [5, 6, 7, 20] (fun _ _ _ i wr => i = .int .i64 0 ∧ wr = w1) (fun _ _ _ i _ => 0)
        case atStart => exact ⟨rfl, rfl⟩
        case round =>
          obtain ⟨rfl, rfl⟩ := hrel
          go_wp2
          go_ret
          exact ⟨⟨_, rfl, HF.out⟩, HB3.out⟩

end Go.Proofs.Yteoncpkfinheoaa
