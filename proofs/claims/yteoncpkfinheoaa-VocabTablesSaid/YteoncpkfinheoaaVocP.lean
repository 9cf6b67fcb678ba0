/- Plain laws of vocabularies: sorted rows are one; what comes of sorting may be just if the document's may. -/
import Derived.Test.YteoncpkfinheoaaVocS
namespace Go.Proofs.Yteoncpkfinheoaa
open Go
set_option linter.unusedVariables false

theorem pairwise_apart {α : Type} {lt : α → α → Bool} {l : List α} (h : l.Pairwise (fun a b => lt a b = true)) {a b : α} (ha : a ∈ l) (hb : b ∈ l) (h1 : lt a b = false) (h2 : lt b a = false) : a = b := by
  rw [List.pairwise_iff_getElem] at h
  obtain ⟨i, hi, rfl⟩ := List.getElem_of_mem ha
  obtain ⟨j, hj, rfl⟩ := List.getElem_of_mem hb
  rcases Nat.lt_trichotomy i j with h3 | h3 | h3
  · rw [h i j hi hj h3] at h1; cases h1
  · subst h3; rfl
  · rw [h j i hj hi h3] at h2; cases h2

theorem sort_unique {α : Type} {lt : α → α → Bool} {l l1 l2 : List α} (p1 : l1.Perm l) (p2 : l2.Perm l) (s1 : l1.Pairwise (fun a b => lt b a = false)) (s2 : l2.Pairwise (fun a b => lt b a = false))
    (h : l1.Pairwise (fun a b => lt a b = true)) : l1 = l2 :=
  List.Perm.eq_of_pairwise (le := fun a b => lt b a = false)
    (fun a b ha hb h1 h2 => pairwise_apart h ha ((p2.trans p1.symm).mem_iff.1 hb) h2 h1) s1 s2 (p1.trans p2.symm)

theorem rising_sorted {α : Type} {lt : α → α → Bool} (hasym : ∀ a b, lt a b = true → lt b a = false) {l : List α} (h : l.Pairwise (fun a b => lt a b = true)) : l.Pairwise (fun a b => lt b a = false) :=
  h.imp fun {a b} e => hasym a b e

theorem ahead_asym (a b : Mg) (h : ahead a b = true) : ahead b a = false := by
  cases h2 : ahead b a with
  | false => rfl
  | true => rw [ahead_iff] at h h2; omega
theorem ahead_ntrans {a b c : Mg} (h1 : ahead a b = false) (h2 : ahead b c = false) : ahead a c = false := by
  have h1' : ¬ _ := fun h => by rw [ahead_iff.2 h] at h1; cases h1
  have h2' : ¬ _ := fun h => by rw [ahead_iff.2 h] at h2; cases h2
  cases h3 : ahead a c with
  | false => rfl
  | true => rw [ahead_iff] at h3; omega

theorem bytesLess_lt : ∀ (x y : List UInt8), Op.bytesLess x y = decide (x < y)
  | [], [] => by simp [Op.bytesLess]
  | [], _ :: _ => by simp [Op.bytesLess]
  | _ :: _, [] => by simp [Op.bytesLess]
  | a :: x, b :: y => by
    unfold Op.bytesLess
    rw [bytesLess_lt x y]
    by_cases h1 : a < b
    · simp [h1, List.cons_lt_cons_iff]
    · by_cases h2 : a = b
      · subst h2; simp
      · simp [h1, h2, List.cons_lt_cons_iff]

theorem sless_irrefl (a : ByteArray) : sless a a = false := by unfold sless; rw [bytesLess_lt]; simp [List.lt_irrefl]
theorem sless_asym (a b : ByteArray) (h : sless a b = true) : sless b a = false := by
  unfold sless at *
  rw [bytesLess_lt] at *
  simp at h ⊢
  exact List.le_of_lt h
theorem sless_trans {a b c : ByteArray} (h1 : sless a b = true) (h2 : sless b c = true) : sless a c = true := by
  unfold sless at *
  rw [bytesLess_lt] at *
  simp at h1 h2 ⊢
  exact List.lt_trans h1 h2
theorem sless_ntrans {a b c : ByteArray} (h1 : sless a b = false) (h2 : sless b c = false) : sless a c = false := by
  unfold sless at *
  rw [bytesLess_lt] at *
  simp at h1 h2 ⊢
  exact List.le_trans h2 h1

theorem sortMg_perm (M : List Mg) : (sortMg M).Perm M := List.mergeSort_perm _ _
theorem sortMg_sorted (M : List Mg) : (sortMg M).Pairwise (fun a b => ahead b a = false) := by
  have := List.pairwise_mergeSort (le := fun a b => !ahead b a) (fun a b c h1 h2 => by
    simp at h1 h2 ⊢
    exact ahead_ntrans h2 h1) (fun a b => by
    cases h : ahead b a with
    | false => simp
    | true => simp [ahead_asym _ _ h]) M
  exact this.imp fun {a b} h => by simpa using h
theorem sortSp_perm (S : List Sp) : (sortSp S).Perm S := List.mergeSort_perm _ _
theorem sortSp_sorted (S : List Sp) : (sortSp S).Pairwise (fun a b => sless b.name a.name = false) := by
  have := List.pairwise_mergeSort (le := fun a b : Sp => !sless b.name a.name) (fun a b c h1 h2 => by
    simp at h1 h2 ⊢
    exact sless_ntrans h2 h1) (fun a b => by
    cases h : sless b.name a.name with
    | false => simp
    | true => simp [sless_asym _ _ h]) S
  exact this.imp fun {a b} h => by simpa using h

theorem MayMg.rising {T : List ByteArray} {M : List Mg} (h : MayMg T M) : M.Pairwise (fun a b => ahead a b = true) := h.2.2.imp fun {a b} h => h.1.1
theorem MaySp.rising {T : List ByteArray} {S : List Sp} (h : MaySp T S) : S.Pairwise (fun a b => sless a.name b.name = true) := h.2.2.imp fun {a b} h => h.1

/-- What a sort hands back, if it may be, is the document's. -/
theorem sorted_mg {T : List ByteArray} {M M' : List Mg} (hp : M'.Perm M) (hs : M'.Pairwise (fun a b => ahead b a = false)) (h : MayMg T M' ∨ MayMg T (sortMg M)) : M' = sortMg M := by
  rcases h with h | h
  · exact sort_unique hp (sortMg_perm M) hs (sortMg_sorted M) h.rising
  · exact (sort_unique (sortMg_perm M) hp (sortMg_sorted M) hs h.rising).symm
theorem sorted_sp {T : List ByteArray} {S S' : List Sp} (hp : S'.Perm S) (hs : S'.Pairwise (fun a b => sless b.name a.name = false)) (h : MaySp T S' ∨ MaySp T (sortSp S)) : S' = sortSp S := by
  rcases h with h | h
  · exact sort_unique (lt := fun a b : Sp => sless a.name b.name) hp (sortSp_perm S) hs (sortSp_sorted S) h.rising
  · exact (sort_unique (lt := fun a b : Sp => sless a.name b.name) (sortSp_perm S) hp (sortSp_sorted S) hs h.rising).symm

theorem sorted_may {T : List ByteArray} {M M' : List Mg} {S S' : List Sp} (hp : M'.Perm M) (hs : M'.Pairwise (fun a b => ahead b a = false)) (hp2 : S'.Perm S) (hs2 : S'.Pairwise (fun a b => sless b.name a.name = false)) :
    (May ⟨T, M', S'⟩ ↔ May ⟨T, sortMg M, sortSp S⟩) ∧ (May ⟨T, M', S'⟩ → M' = sortMg M ∧ S' = sortSp S) := by
  have h1 : May ⟨T, M', S'⟩ → M' = sortMg M ∧ S' = sortSp S := fun h => ⟨sorted_mg hp hs (.inl h.2.1), sorted_sp hp2 hs2 (.inl h.2.2.2)⟩
  refine ⟨⟨fun h => ?_, fun h => ?_⟩, h1⟩
  · obtain ⟨e1, e2⟩ := h1 h
    rw [← e1, ← e2]; exact h
  · rw [sorted_mg hp hs (.inr h.2.1), sorted_sp hp2 hs2 (.inr h.2.2.2)]; exact h

/-- Merges: adjacent ones rise, and no parts are twice. -/
theorem pairwise_of_next {α : Type} {R : α → α → Prop} (htrans : ∀ a b c, R a b → R b c → R a c) {l : List α} (h : ∀ i a b, l[i]? = some a → l[i + 1]? = some b → R a b) : l.Pairwise R := by
  rw [List.pairwise_iff_getElem]
  intro i j hi hj hij
  induction j with
  | zero => omega
  | succ j ih =>
    have hstep := h j _ _ (List.getElem?_eq_getElem (by omega)) (List.getElem?_eq_getElem hj)
    rcases Nat.lt_or_ge i j with h1 | h1
    · exact htrans _ _ _ (ih (by omega) h1) hstep
    · obtain rfl : i = j := by omega
      exact hstep

end Go.Proofs.Yteoncpkfinheoaa
