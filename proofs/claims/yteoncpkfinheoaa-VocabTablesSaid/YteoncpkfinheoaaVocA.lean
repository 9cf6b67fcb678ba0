/- Walks: numbers of tokens, by the program and by the document. -/
import Derived.Test.YteoncpkfinheoaaStr
import Derived.Test.YteoncpkfinheoaaFlat
import Derived.Test.YteoncpkfinheoaaVocP
import Derived.Test.YteoncpkfinheoaaMapK
namespace Go.Proofs.Yteoncpkfinheoaa
open Go.RowKit
set_option linter.unusedVariables false

theorem isTk_neg {T : List ByteArray} {i : Int} (h : i < 0) : isTk T i = false := by unfold isTk; simp; omega
theorem isTk_out {T : List ByteArray} {i : Int} (h : (T.length : Int) ≤ i) : isTk T i = false := by unfold isTk; simp; omega
theorem isTk_at {T : List ByteArray} {k : Nat} (h : k < T.length) : isTk T (k : Int) = decide ((tk T k).size ≠ 0) := by unfold isTk; simp [h]

set_option maxHeartbeats 400000 in
theorem is_calls {T : List ByteArray} {ao : Option Addr} {n c : Nat} (i : Int) (w : World) (hT : SlS w ao n c T) :
    Calls Try.prog 62 #[.slice ao n c, .int .i64 i] w fun e w' => e = .returned (.bool (isTk T i)) ∧ w = w' := by
  have hm := Nat.le_trans (Sl.le hT) (Sl.max hT)
  unfold maxLen at hm
  have hlen := Lib.hid hT.count
  by_cases h0 : i < 0
  · have HF := Lib.hid (isTk_neg (T := T) h0)
    go_enter Try.func62, Try.ntmps62
    go_wp2
    go_ret
    exact ⟨ret_bool HF.out.symm, rfl⟩
  · obtain ⟨k, rfl⟩ := Int.eq_ofNat_of_zero_le (Int.not_lt.1 h0)
    by_cases hk : k < n
    · obtain ⟨b, o, rfl, hc⟩ := hT.cell (tk_eq (T := T) (i := k) (by have := hlen.out; omega))
      have HF := Lib.hid (isTk_at (T := T) (k := k) (by have := hlen.out; omega))
      by_cases hz : (tk T k).size = 0
      · obtain ⟨e1, e2, e3⟩ := strE_yes hz
        have HZ := Lib.hid hz
        clear hz
        go_enter Try.func62, Try.ntmps62
        go_wp2
        go_ret
        exact ⟨ret_bool (by rw [HF.out]; simp [HZ.out]), rfl⟩
      · obtain ⟨e1, e2, e3⟩ := strE_no hz
        have HZ := Lib.hid hz
        clear hz
        go_enter Try.func62, Try.ntmps62
        go_wp2
        go_ret
        exact ⟨ret_bool (by rw [HF.out]; simp [HZ.out]), rfl⟩
    · have HF := Lib.hid (isTk_out (T := T) (i := (k : Int)) (by have := hlen.out; omega))
      go_enter Try.func62, Try.ntmps62
      go_wp2
      go_ret
      exact ⟨ret_bool HF.out.symm, rfl⟩

set_option maxHeartbeats 400000 in
theorem ris_calls {T : List ByteArray} {ao : Option Addr} {n c : Nat} (i : Int) (w : World) (hT : SlS w ao n c T) :
    Calls Try.prog 47 #[.slice ao n c, .int .i64 i] w fun e w' => e = .returned (.bool (isTk T i)) ∧ w = w' := by
  have hm := Nat.le_trans (Sl.le hT) (Sl.max hT)
  unfold maxLen at hm
  have hlen := Lib.hid hT.count
  by_cases h0 : i < 0
  · have HF := Lib.hid (isTk_neg (T := T) h0)
    go_enter Try.func47, Try.ntmps47
    go_wp2
    go_ret
    exact ⟨ret_bool HF.out.symm, rfl⟩
  · obtain ⟨k, rfl⟩ := Int.eq_ofNat_of_zero_le (Int.not_lt.1 h0)
    by_cases hk : k < n
    · obtain ⟨b, o, rfl, hc⟩ := hT.cell (tk_eq (T := T) (i := k) (by have := hlen.out; omega))
      have HF := Lib.hid (isTk_at (T := T) (k := k) (by have := hlen.out; omega))
      by_cases hz : (tk T k).size = 0
      · obtain ⟨e1, e2, e3⟩ := strE_yes hz
        have HZ := Lib.hid hz
        clear hz
        go_enter Try.func47, Try.ntmps47
        go_wp2
        go_ret
        exact ⟨ret_bool (by rw [HF.out]; simp [HZ.out]), rfl⟩
      · obtain ⟨e1, e2, e3⟩ := strE_no hz
        have HZ := Lib.hid hz
        clear hz
        go_enter Try.func47, Try.ntmps47
        go_wp2
        go_ret
        exact ⟨ret_bool (by rw [HF.out]; simp [HZ.out]), rfl⟩
    · have HF := Lib.hid (isTk_out (T := T) (i := (k : Int)) (by have := hlen.out; omega))
      go_enter Try.func47, Try.ntmps47
      go_wp2
      go_ret
      exact ⟨ret_bool HF.out.symm, rfl⟩

theorem T_none {T : List ByteArray} {s : ByteArray} {n k : Nat} (hl : T.length = n) (hk : ¬ k < n) (h : ∀ j, j < k → tk T j ≠ s) : ofT T s = -1 := ofT_none fun j hj => h j (by omega)

set_option maxHeartbeats 400000 in
theorem rof_calls {T : List ByteArray} {ao : Option Addr} {n c : Nat} (s : ByteArray) (w : World) (hT : SlS w ao n c T) :
    Calls Try.prog 19 #[.slice ao n c, .string s] w fun e w' => e = .returned (.int .i64 (ofT T s)) ∧ w = w' := by
  have hm := Nat.le_trans (Sl.le hT) (Sl.max hT)
  unfold maxLen at hm
  have hlen := Lib.hid hT.count
  by_cases hz : s.size = 0
  · obtain ⟨e1, e2, e3⟩ := strE_yes hz
    have HF := Lib.hid (ofT_empty T hz)
    clear hz
    go_enter Try.func19, Try.ntmps19
    go_wp2
    go_ret
    exact ⟨ret_i64 HF.out.symm, rfl⟩
  · obtain ⟨e1, e2, e3⟩ := strE_no hz
    have HZ := Lib.hid hz
    clear hz
    go_enter Try.func19, Try.ntmps19
    go_wp2
    go_loop [5, 10] (fun _ i => ∃ k : Nat, k ≤ n ∧ i = .int .i64 k ∧ Hid (∀ j, j < k → tk T j ≠ s)) (fun _ i => n - (intOf i).toNat)
    case atStart => exact ⟨0, Nat.zero_le _, rfl, Lib.hid (fun j h => by omega)⟩
    case round =>
      obtain ⟨k, hk, rfl, hno⟩ := hrel
      by_cases hlt : k < n
      · obtain ⟨b, o, rfl, hc⟩ := hT.cell (tk_eq (T := T) (i := k) (by have := hlen.out; omega))
        by_cases hkk : tk T k = s
        · have hb := beqS_yes hkk
          have HF := Lib.hid (ofT_some HZ.out (by have := hlen.out; omega) hkk hno.out)
          clear hkk
          go_wp2
          go_ret
          exact ⟨ret_i64 HF.out.symm, rfl⟩
        · have hb := beqS_no hkk
          have Hk := Lib.hid hkk
          clear hkk
          go_wp2
          go_round
          case rel => exact ⟨k + 1, by omega, by go_num, Lib.hid (fun j hj => by
            by_cases ej : j = k
            · subst ej; exact Hk.out
            · exact hno.out j (by omega))⟩
          case measure => simp [intOf]; omega
      · have HF := Lib.hid (T_none hlen.out hlt hno.out)
        go_wp2
        go_ret
        exact ⟨ret_i64 HF.out.symm, rfl⟩

set_option maxHeartbeats 400000 in
theorem index_calls {T : List ByteArray} {ao : Option Addr} {n c : Nat} (s : ByteArray) (w : World) (hT : SlS w ao n c T) (hz : s.size ≠ 0) :
    Calls Try.prog 22 #[.slice ao n c, .string s] w fun e w' => e = .returned (.int .i64 (ofT T s)) ∧ w = w' := by
  have hm := Nat.le_trans (Sl.le hT) (Sl.max hT)
  unfold maxLen at hm
  have hlen := Lib.hid hT.count
  have HZ := Lib.hid hz
  clear hz
  go_enter Try.func22, Try.ntmps22
  go_wp2
  go_loop [5, 8] (fun _ i => ∃ k : Nat, k ≤ n ∧ i = .int .i64 k ∧ Hid (∀ j, j < k → tk T j ≠ s)) (fun _ i => n - (intOf i).toNat)
  case atStart => exact ⟨0, Nat.zero_le _, rfl, Lib.hid (fun j h => by omega)⟩
  case round =>
    obtain ⟨k, hk, rfl, hno⟩ := hrel
    by_cases hlt : k < n
    · obtain ⟨b, o, rfl, hc⟩ := hT.cell (tk_eq (T := T) (i := k) (by have := hlen.out; omega))
      by_cases hkk : tk T k = s
      · have hb := beqS_yes hkk.symm
        have HF := Lib.hid (ofT_some HZ.out (by have := hlen.out; omega) hkk hno.out)
        clear hkk
        go_wp2
        go_ret
        exact ⟨ret_i64 HF.out.symm, rfl⟩
      · have hb := beqS_no (Ne.symm hkk)
        have Hk := Lib.hid hkk
        clear hkk
        go_wp2
        go_round
        case rel => exact ⟨k + 1, by omega, by go_num, Lib.hid (fun j hj => by
          by_cases ej : j = k
          · subst ej; exact Hk.out
          · exact hno.out j (by omega))⟩
        case measure => simp [intOf]; omega
    · have HF := Lib.hid (T_none hlen.out hlt hno.out)
      go_wp2
      go_ret
      exact ⟨ret_i64 HF.out.symm, rfl⟩

/-- How a vocabulary lies. -/
structure Vd where
  ta : Option Addr
  tn : Nat
  tc : Nat
  ma : Option Addr
  mn : Nat
  mc : Nat
  sa : Option Addr
  sn : Nat
  sc : Nat
abbrev Vd.val (d : Vd) : Value := .agg #[.slice d.ta d.tn d.tc, .slice d.ma d.mn d.mc, .slice d.sa d.sn d.sc]
def Mg.enc (m : Mg) : List Value := [.int .i64 m.left, .int .i64 m.right, .int .i64 m.out, .int .i64 m.order]
def Sp.enc (s : Sp) : List Value := [.string s.name, .int .i64 s.id]
theorem Mg.enc_len (m : Mg) : m.enc.length = 4 := rfl
theorem Sp.enc_len (m : Sp) : m.enc.length = 2 := rfl
/-- .. and reads as V. -/
structure VocR (w : World) (d : Vd) (V : Vc) : Prop where
  tok : SlS w d.ta d.tn d.tc V.tokens
  mrg : SlF 4 w d.ma d.mn d.mc (flat Mg.enc V.merges)
  spc : SlF 2 w d.sa d.sn d.sc (flat Sp.enc V.specials)
theorem VocR.below {w w' : World} {d : Vd} {V : Vc} (h : VocR w d V) (hb : Below w.heap.size w w') : VocR w' d V := ⟨Sl.below h.tok hb, h.mrg.below hb, h.spc.below hb⟩

set_option maxHeartbeats 400000 in
theorem of_calls {V : Vc} {d : Vd} (s : ByteArray) (w : World) (hV : VocR w d V) :
    Calls Try.prog 13 #[d.val, .string s] w fun e w' => e = .returned (.int .i64 (ofT V.tokens s)) ∧ Below w.heap.size w w' := by
  have hw := below_alloc w (.cells #[.slice d.ta d.tn d.tc, .slice d.ma d.mn d.mc, .slice d.sa d.sn d.sc] 31)
  have HT := Lib.hid (Sl.below hV.tok hw)
  have HW := Lib.hid hw
  clear hw hV
  by_cases hz : s.size = 0
  · obtain ⟨e1, e2, e3⟩ := strE_yes hz
    have HF := Lib.hid (ofT_empty V.tokens hz)
    clear hz
    go_enter Try.func13, Try.ntmps13
    go_wp2
    go_ret
    exact ⟨ret_i64 HF.out.symm, HW.out⟩
  · obtain ⟨e1, e2, e3⟩ := strE_no hz
    have HZ := Lib.hid hz
    clear hz
    go_enter Try.func13, Try.ntmps13
    go_wp2_with (fail)
    refine (index_calls s _ HT.out HZ.out).mono ?_
    rintro e w' ⟨rfl, rfl⟩
    go_wp2
    go_ret
    exact ⟨rfl, HW.out⟩

end Go.Proofs.Yteoncpkfinheoaa
