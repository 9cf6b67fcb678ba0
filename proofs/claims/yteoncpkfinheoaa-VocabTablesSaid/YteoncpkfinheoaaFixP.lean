/- Plain laws: the vocabulary of the chapter's example. -/
import Derived.Test.YteoncpkfinheoaaFromP
namespace Go.Proofs.Yteoncpkfinheoaa
set_option linter.unusedVariables false

def rowsN (n : Nat) : List Rw := (List.range n).map fun b => ⟨one b, (b : Int)⟩
theorem rowsN_zero : rowsN 0 = [] := rfl
theorem rowsN_succ (n : Nat) : rowsN (n + 1) = rowsN n ++ [⟨one n, (n : Int)⟩] := by
  unfold rowsN; rw [List.range_succ, List.map_append]; rfl
theorem rowsN_mem {n : Nat} {r : Rw} (h : r ∈ rowsN n) : ∃ b, b < n ∧ r = ⟨one b, (b : Int)⟩ := by
  unfold rowsN at h
  obtain ⟨b, hb, rfl⟩ := List.mem_map.1 h
  exact ⟨b, List.mem_range.1 hb, rfl⟩
theorem rowsN_len (n : Nat) : (rowsN n).length = n := by simp [rowsN]
theorem rowsN_tok (n i : Nat) : tokAt (rowsN n) i = if i < n then one i else ByteArray.empty := by
  induction n with
  | zero => rfl
  | succ n ih =>
    rw [rowsN_succ]
    by_cases e : i = n
    · subst e
      rw [tokAt_snoc (fun r hr => by obtain ⟨b, hb, rfl⟩ := rowsN_mem hr; simp only; omega)]
      simp
    · rw [tokAt_snoc_other (by simp only; omega), ih]
      by_cases h : i < n
      · rw [if_pos h, if_pos (by omega)]
      · rw [if_neg h, if_neg (by omega)]

def abS : ByteArray := ⟨#[97, 98]⟩
def R0 : List Rw := rowsN 256 ++ [⟨abS, 256⟩]
def T0 : List ByteArray := (List.range 256).map one ++ [abS]
theorem T0_len : T0.length = 257 := by simp [T0]
theorem T0_low {i : Nat} (h : i < 256) : tk T0 i = one i := by
  unfold tk T0
  rw [List.getD_eq_getElem?_getD, List.getElem?_append_left (by simpa using h)]
  simp [h]
theorem T0_top : tk T0 256 = abS := by
  unfold tk T0
  rw [List.getD_eq_getElem?_getD, List.getElem?_append_right (by simp)]
  simp
theorem top_R0 : top R0 [] = 257 := by decide +kernel
theorem toks_R0 : toksOf R0 [] = T0 := by
  unfold toksOf
  rw [top_R0]
  refine List.ext_getElem? fun i => ?_
  by_cases h : i < 257
  · rw [tk_eq (T := T0) (by rw [T0_len]; exact h)]
    simp only [List.getElem?_map, List.getElem?_range (show i < (257 : Int).toNat from h), Option.map_some]
    congr 1
    unfold R0
    by_cases e : i = 256
    · subst e
      rw [T0_top, tokAt_snoc (fun r hr => by obtain ⟨b, hb, rfl⟩ := rowsN_mem hr; simp only; omega)]
      rfl
    · rw [T0_low (by omega), tokAt_snoc_other (by simp only; omega), rowsN_tok, if_pos (by omega)]
  · rw [List.getElem?_eq_none (by simp; omega), List.getElem?_eq_none (by rw [T0_len]; omega)]
theorem one_inj {i j : Nat} (hi : i < 256) (hj : j < 256) (h : one i = one j) : i = j := by
  unfold one at h
  simp only [ByteArray.mk.injEq, Array.mk.injEq, List.cons.injEq, and_true] at h
  have := congrArg UInt8.toNat h
  simp at this
  omega
theorem uniq_T0 : Uniq T0 := fun i j h1 h2 e => by
  rw [T0_len] at h2
  by_cases hj : j = 256
  · subst hj
    rw [T0_low (by omega), T0_top] at e
    have := congrArg ByteArray.size e
    simp [one, abS, ByteArray.size] at this
  · rw [T0_low (by omega), T0_low (by omega)] at e
    have := one_inj (by omega) (by omega) e
    omega
theorem mayTok_T0 : MayTok T0 := ⟨by rw [T0_len]; omega, fun s hs => by
  unfold T0 at hs
  rcases List.mem_append.1 hs with h | h
  · obtain ⟨b, _, rfl⟩ := List.mem_map.1 h
    exact Nat.le_of_lt (show 1 < 64 by omega) |> fun _ => show 1 ≤ 64 by omega
  · obtain rfl := List.mem_singleton.1 h
    exact show 2 ≤ 64 by omega, uniq_T0, fun b hb => List.mem_append.2 (.inl (List.mem_map.2 ⟨b, List.mem_range.2 hb, rfl⟩))⟩
theorem ofT_one0 {i : Nat} (h : i < 256) : ofT T0 (one i) = i := by
  have := uniq_T0.of (i := i) (by rw [T0_len]; omega) (by rw [T0_low h]; show 1 ≠ 0; omega)
  rwa [T0_low h] at this
theorem ofT_ab : ofT T0 abS = 256 := by
  have := uniq_T0.of (i := 256) (by rw [T0_len]; omega) (by rw [T0_top]; show 2 ≠ 0; omega)
  rwa [T0_top] at this
def m0 : Mg := ⟨97, 98, 256, 256⟩
theorem mergesTo_T0 {k : Nat} (h : k ≤ 256) : mergesTo T0 k = [] := by
  induction k with
  | zero => rfl
  | succ k ih =>
    rw [mergesTo_succ, ih (by omega), cutsOf_eq, T0_low (by omega)]
    rfl
theorem merges_T0 : mergesOf T0 = [m0] := by
  rw [← mergesTo_all, T0_len, mergesTo_succ, mergesTo_T0 (Nat.le_refl _), cutsOf_eq, T0_top]
  show cutsTo T0 256 1 = [m0]
  have h : cutAt T0 256 0 = some m0 := by
    unfold cutAt
    rw [T0_top, show abS.extract 0 (0 + 1) = one 97 from rfl, show abS.extract (0 + 1) abS.size = one 98 from rfl, ofT_one0 (by omega), ofT_one0 (by omega)]
    rfl
  rw [cutsTo_some h]
  rfl
theorem may_T0 : May ⟨T0, [m0], []⟩ := by
  refine ⟨mayTok_T0, ⟨by simp, fun m hm => ?_, by simp⟩, fun i hi h => ?_, ⟨by simp, by simp, by simp⟩⟩
  · obtain rfl := List.mem_singleton.1 hm
    refine ⟨isTk_iff.2 ⟨by decide, by rw [T0_len]; decide, ?_⟩, isTk_iff.2 ⟨by decide, by rw [T0_len]; decide, ?_⟩, isTk_iff.2 ⟨by decide, by rw [T0_len]; decide, ?_⟩, ?_, by decide, by decide⟩
    · show (tk T0 97).size ≠ 0
      rw [T0_low (by omega)]; show 1 ≠ 0; omega
    · show (tk T0 98).size ≠ 0
      rw [T0_low (by omega)]; show 1 ≠ 0; omega
    · show (tk T0 256).size ≠ 0
      rw [T0_top]; show 2 ≠ 0; omega
    · show tk T0 256 = tk T0 97 ++ tk T0 98
      rw [T0_top, T0_low (by omega), T0_low (by omega)]; rfl
  · refine ⟨m0, List.mem_singleton.2 rfl, ?_⟩
    rw [T0_len] at hi
    by_cases e : i = 256
    · subst e; rfl
    · rw [T0_low (by omega)] at h
      exact absurd h (by show ¬ 1 < 1; omega)
theorem sort_m0 : sortMg [m0] = [m0] := by unfold sortMg; simp
theorem sort_nil : sortSp [] = [] := by unfold sortSp; simp
theorem voc_R0 : vocOf R0 [] = ⟨T0, [m0], []⟩ := by
  unfold vocOf
  rw [toks_R0, merges_T0, sort_m0, sort_nil]
theorem ok_R0 : OkRows R0 [] := by
  refine ⟨by simp, fun r hr => ?_, ?_⟩
  · rcases List.mem_append.1 hr with h | h
    · obtain ⟨b, hb, rfl⟩ := rowsN_mem h
      simp only; omega
    · obtain rfl := List.mem_singleton.1 h
      simp only; omega
  · unfold R0
    rw [List.pairwise_append]
    refine ⟨?_, by simp, fun a ha b hb => ?_⟩
    · unfold rowsN
      rw [List.pairwise_map]
      exact List.pairwise_lt_range.imp (fun h => by simp only; omega)
    · obtain ⟨q, hq, rfl⟩ := rowsN_mem ha
      obtain rfl := List.mem_singleton.1 hb
      simp only; omega
theorem good_R0 : OkRows R0 [] ∧ May (vocOf R0 []) := ⟨ok_R0, by rw [voc_R0]; exact may_T0⟩
theorem R0_len : R0.length = 257 := by simp [R0, rowsN_len]
theorem R0_sized : ∀ r ∈ R0, r.token.size ≤ 2 := fun r hr => by
  rcases List.mem_append.1 hr with h | h
  · obtain ⟨b, hb, rfl⟩ := rowsN_mem h
    exact show 1 ≤ 2 by omega
  · obtain rfl := List.mem_singleton.1 h
    exact show 2 ≤ 2 by omega

end Go.Proofs.Yteoncpkfinheoaa
