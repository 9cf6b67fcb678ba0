/- What all the laws on edits want beside: contracts in handier forms. -/
import Derived.Test.YtkceidcedkknfaaFixed
import Derived.Test.YtkceidcedkknfaaOpen
import Derived.Test.YtkceidcedkknfaaOf17
namespace Go.Proofs.Ytkceidcedkknfaa
open Go.RowKit
set_option linter.unusedVariables false

theorem own : ownKnob Try.prog.godebug = none := by kernel_rfl
theorem laidOut : laidOutB Try.prog = true := by kernel_rfl

theorem of_k {A B : List Int} {ao bo : Option Addr} {n m c d k : Nat} (hk : common A B = k) (w : World) (hA : SlI w ao n c A) (hB : SlI w bo m d B) (hreach : m * 8 ≤ 140737488355328) :
    Calls Try.prog 10 #[.slice ao n c, .slice bo m d] w fun e w' => ∃ vo vc, e = .returned (edV (n - k : Nat) (.slice vo (m - k) vc)) ∧ Own w' w.heap.size (.slice vo (m - k) vc) (B.drop k) ∧ Below w.heap.size w w' := by
  subst hk
  exact of_calls w hA hB hreach

theorem refApply_len {A B : List Int} {ao bo : Option Addr} {n m c d : Nat} (R : Nat) (w : World) (hA : SlI w ao n c A) (hB : SlI w bo m d B) (hreach : (n + m) * 8 ≤ 140737488355328)
    (h1 : R ≤ 1048576) (h2 : R ≤ n) :
    Calls Try.prog 9 #[.slice ao n c, edV R (.slice bo m d)] w fun e w' => ∃ vo vc, e = .returned (.tuple #[.slice vo (n - R + m) vc, .bool true]) ∧ Own w' w.heap.size (.slice vo (n - R + m) vc) (A.take (n - R) ++ B) ∧ Below w.heap.size w w' := by
  refine (refApply_yes R w hA hB hreach (by omega) (by omega) (by omega)).mono fun e w' ⟨v, he, ho, hb⟩ => ?_
  obtain ⟨vo, vc, rfl, _⟩ := ho.sl
  have hl : (A.take (n - (R : Int).toNat) ++ B).length = n - R + m := by
    have := hA.len
    have := hB.len
    simp
    omega
  rw [hl] at he ho
  exact ⟨vo, vc, he, ho, hb⟩

theorem refApply_no' {A : List Int} {ao bo : Option Addr} {n m c d : Nat} (r : Int) (w : World) (hA : SlI w ao n c A) (h : ¬ (0 ≤ r ∧ r ≤ 1048576 ∧ r ≤ n)) :
    Calls Try.prog 9 #[.slice ao n c, edV r (.slice bo m d)] w fun e w' => ∃ vo vc, e = .returned (.tuple #[.slice vo 0 vc, .bool false]) ∧ Own w' w.heap.size (.slice vo 0 vc) [] ∧ Below w.heap.size w w' := by
  refine (refApply_no r w hA h).mono fun e w' ⟨v, he, ho, hb⟩ => ?_
  obtain ⟨vo, vc, rfl, _⟩ := ho.sl
  exact ⟨vo, vc, he, ho, hb⟩

theorem same10b {A B : List Int} {ao bo : Option Addr} {n m c d : Nat} (w : World) (hA : SlI w ao n c A) (hB : SlI w bo m d B) :
    Calls Try.prog 12 #[.slice ao n c, .slice bo m d] w fun e w' => e = .returned (.bool (eqB A B)) ∧ Below w.heap.size w w' :=
  (same10 w hA hB).mono fun e w' ⟨k, he, hw⟩ => ⟨he, by rw [hw]; exact below_drewN (Below.refl _ _) k⟩

theorem same10_true {A B : List Int} {ao bo : Option Addr} {n m c d : Nat} (h : A = B) (w : World) (hA : SlI w ao n c A) (hB : SlI w bo m d B) :
    Calls Try.prog 12 #[.slice ao n c, .slice bo m d] w fun e w' => e = .returned (.bool true) ∧ Below w.heap.size w w' := by
  have := same10b w hA hB
  rw [eqB_true h] at this
  exact this

theorem common_calls_k {A B : List Int} {ao bo : Option Addr} {n m c d k : Nat} (hk : common A B = k) (w : World) (hA : SlI w ao n c A) (hB : SlI w bo m d B) :
    Calls Try.prog 14 #[.slice ao n c, .slice bo m d] w fun e w' => e = .returned (.int .i64 k) ∧ Below w.heap.size w w' := by
  subst hk
  exact (common_calls w hA hB).mono fun e w' ⟨k, he, hw⟩ => ⟨he, by rw [hw]; exact below_drewN (Below.refl _ _) k⟩

theorem same17_true {A B : List Int} {ao bo : Option Addr} {n m c d : Nat} (r q : Int) (h : r = q ∧ A = B) (w : World) (hA : SlI w ao n c A) (hB : SlI w bo m d B) :
    Calls Try.prog 15 #[edV r (.slice ao n c), edV q (.slice bo m d)] w fun e w' => e = .returned (.bool true) ∧ Below w.heap.size w w' := by
  have := same17 r q w hA hB
  have e : sameE r q A B = true := decide_eq_true h
  rw [e] at this
  exact this

theorem apply_len {A B C : List Int} {ao bo : Option Addr} {n m c d L : Nat} (R : Nat) (w : World) (hA : SlI w ao n c A) (hB : SlI w bo m d B) (hreach : (n + m) * 8 ≤ 140737488355328)
    (h1 : R ≤ 1048576) (h2 : R ≤ n) (hC : A.take (n - R) ++ B = C) (hL : n - R + m = L) :
    Calls Try.prog 13 #[.slice ao n c, edV R (.slice bo m d)] w fun e w' => ∃ vo vc, e = .returned (.tuple #[.slice vo L vc, .bool true]) ∧ Own w' w.heap.size (.slice vo L vc) C ∧ Below w.heap.size w w' := by
  subst hC hL
  refine (apply_yes R w hA hB hreach (by omega) (by omega) (by omega)).mono fun e w' ⟨v, he, ho, hb⟩ => ?_
  obtain ⟨vo, vc, rfl, _⟩ := ho.sl
  have hl : (A.take (n - (R : Int).toNat) ++ B).length = n - R + m := by
    have := hA.len
    have := hB.len
    simp
    omega
  rw [hl] at he ho
  exact ⟨vo, vc, he, ho, hb⟩

/-- Two cells, and what lay below, stay. -/
theorem keepB {w0 w w' : World} {p1 p2 : Addr} {v1 v2 : Value} (h : w.cell? p1 = some v1 ∧ w.cell? p2 = some v2 ∧ Below w0.heap.size w0 w) (hb : Below w.heap.size w w') :
    w'.cell? p1 = some v1 ∧ w'.cell? p2 = some v2 ∧ Below w0.heap.size w0 w' :=
  ⟨cell_below hb _ _ h.1, cell_below hb _ _ h.2.1, h.2.2.trans (hb.mono h.2.2.size)⟩

theorem common_self (A : List Int) : common A A = A.length := by
  induction A with
  | nil => rfl
  | cons a A ih => simp [common, ih]

theorem take_common (A B : List Int) : A.take (common A B) = B.take (common A B) := by
  have h1 := common_le A B
  apply eq_of_ix
  · simp; omega
  · intro i hi
    have hi' : i < common A B := by simp at hi; omega
    have := common_ix A B i hi'
    simpa [ix, List.getD, List.getElem?_take, hi'] using this

end Go.Proofs.Ytkceidcedkknfaa
