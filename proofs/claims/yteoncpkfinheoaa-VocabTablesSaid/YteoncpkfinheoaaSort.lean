/- A row of structs that the call made, behind a sort of the library's: it holds the sorted row. Plain lemmas. -/
import Derived.Test.YteoncpkfinheoaaToks
import Derived.Shelf.SlSortCmp.WholeK
import Derived.Shelf.SlSortCmp.InsertionK
namespace Go.Proofs.Yteoncpkfinheoaa
open Go.RowKit
open Go.Sort hiding Below
set_option linter.unusedVariables false

section
variable {α : Type} [Inhabited α] {enc : α → List Value} {k : Nat} {e : TypeId}

theorem heap_sortWorldK {w : World} {g : Nat} {cur : Array Value} {fr : Nat × Nat} (hg : w.heap[g]? = some (.cells cur e fr)) (m : Nat) (d : Array α) (os : Array Obj) :
    (sortWorldK enc k w g 0 m d os).heap[g]? = some (.cells (Go.Sort.putCells id 0 (flatK enc k d) cur) e fr) := by
  have hlt := (Array.getElem?_eq_some_iff.1 hg).1
  show ((w.heap.modify g (Go.Sort.onCells (Go.Sort.putCells id 0 (flatK enc k d)))) ++ os)[g]? = _
  rw [Array.getElem?_append_left (by simpa using hlt), Array.getElem?_modify, if_pos rfl, hg]
  rfl

theorem heap_sortWorldK_other {w : World} {g q : Nat} (hq : q < w.heap.size) (hne : q ≠ g) (m : Nat) (d : Array α) (os : Array Obj) : (sortWorldK enc k w g 0 m d os).heap[q]? = w.heap[q]? := by
  show ((w.heap.modify g (Go.Sort.onCells (Go.Sort.putCells id 0 (flatK enc k d)))) ++ os)[q]? = _
  rw [Array.getElem?_append_left (by simpa using hq), Array.getElem?_modify, if_neg (by omega)]

theorem below_sortWorldK {w : World} {g B : Nat} (hB : B ≤ g) (hw : B ≤ w.heap.size) (m : Nat) (d : Array α) (os : Array Obj) : RowKit.Below B w (sortWorldK enc k w g 0 m d os) :=
  ⟨rfl, rfl, rfl, by show w.heap.size ≤ ((w.heap.modify g _) ++ os).size; simp, fun q hq => heap_sortWorldK_other (by omega) (by omega) m d os⟩

theorem ownF_sorted (hs : ∀ x, (enc x).length = k) (h0 : 0 < k) {w : World} {base g n cap : Nat} {L L' : List α} (h : OwnF enc k e w base (.slice (some ⟨g, 0, none⟩) n cap) L) (hl : L'.length = L.length) (m : Nat) (os : Array Obj) :
    OwnF enc k e (sortWorldK enc k w g 0 m L'.toArray os) base (.slice (some ⟨g, 0, none⟩) n cap) L' := by
  obtain ⟨h1, h2⟩ := h
  rcases h2 with ⟨hv, hn⟩ | ⟨g', cap', cur, hv, hg, hh, hn, hm, hsz, ht⟩
  · simp at hv
  · simp at hv
    obtain ⟨rfl, rfl, rfl⟩ := hv
    refine ⟨by rw [flat_len hs], .inr ⟨g, cap, _, by rw [hl], hg, heap_sortWorldK hh m L'.toArray os, by rw [hl]; exact hn, hm, by unfold Go.Sort.putCells; simpa using hsz, ?_⟩⟩
    apply List.ext_getElem?
    intro i
    rw [List.getElem?_take]
    by_cases hi : i < L'.length * k
    · rw [if_pos hi]
      have hd : i = i / k * k + i % k := by rw [Nat.mul_comm]; exact (Nat.div_add_mod i k).symm
      have hlt : i / k < L'.length := Nat.div_lt_of_lt_mul (by rw [Nat.mul_comm]; exact hi)
      have hx : L'[i / k]? = some L'[i / k] := List.getElem?_eq_getElem hlt
      have hm2 := Nat.mod_lt i h0
      have e1 : (flat enc L')[i]? = (enc L'[i / k])[i % k]? := by
        conv => lhs; rw [hd]
        exact flat_at hs hx hm2
      have hi2 : i < cur.size := by
        rw [hsz]
        have : L'.length * k ≤ cap * k := Nat.mul_le_mul_right k (by rw [hl]; exact hn)
        omega
      have e2 : (Go.Sort.putCells id 0 (flatK enc k L'.toArray) cur).toList[i]? = (enc L'[i / k])[i % k]? := by
        unfold Go.Sort.putCells
        rw [Array.getElem?_toList, Array.getElem?_mapIdx, Array.getElem?_eq_getElem hi2]
        simp only [Option.map_some, Nat.zero_le, Nat.zero_add, true_and, Nat.sub_zero, id]
        rw [if_pos (by rw [size_flatK]; simpa using hi), get_flatK enc k _ i (by simpa using hi)]
        have e3 : (L'.toArray)[i / k]! = L'[i / k] := by simp [hlt]
        rw [e3]
        have hlen : i % k < (enc L'[i / k]).length := by rw [hs]; exact hm2
        rw [List.getElem?_eq_getElem hlen]
        simp [hlen]
      rw [e1]; exact e2
    · rw [if_neg hi, List.getElem?_eq_none (by rw [flat_len hs]; omega)]

theorem holdsK_own (hs : ∀ x, (enc x).length = k) (h0 : 0 < k) {w : World} {base g n cap : Nat} {L : List α} (h : OwnF enc k e w base (.slice (some ⟨g, 0, none⟩) n cap) L) : HoldsK enc k w g 0 L.toArray ∧ L.length = n ∧ base ≤ g ∧ g < w.heap.size := by
  have hlt := World.ownsRow.lt h g rfl
  obtain ⟨h1, h2⟩ := h
  have h2' := h2
  rcases h2' with ⟨hv, hn⟩ | ⟨g', cap', cur, hv, hg, hh, hn, hm, hsz, ht⟩
  · simp at hv
  · simp at hv
    obtain ⟨rfl, rfl, rfl⟩ := hv
    refine ⟨fun j hj => ?_, rfl, hlt.1, hlt.2⟩
    rw [size_flatK] at hj
    have hj' : j < L.length * k := by simpa using hj
    have ho : w.ownsRow base e k (.slice (some ⟨g, 0, none⟩) L.length cap) L.length (flat enc L) := ⟨h1, .inr ⟨g, cap, cur, rfl, hg, hh, hn, hm, hsz, ht⟩⟩
    refine ⟨?_, by rw [Nat.zero_add]; exact World.ownsRow.frozenAt ho j⟩
    rw [Nat.zero_add, World.ownsRow.cellAt ho j hj', get_flatK enc k _ j (by simpa using hj')]
    have hd : j = j / k * k + j % k := by rw [Nat.mul_comm]; exact (Nat.div_add_mod j k).symm
    have hlt2 : j / k < L.length := Nat.div_lt_of_lt_mul (by rw [Nat.mul_comm]; exact hj')
    have hm2 := Nat.mod_lt j h0
    have e1 : (flat enc L)[j]? = (enc L[j / k])[j % k]? := by
      conv => lhs; rw [hd]
      exact flat_at hs (List.getElem?_eq_getElem hlt2) hm2
    have e3 : (L.toArray)[j / k]! = L[j / k] := by simp [hlt2]
    have hlen : j % k < (enc L[j / k]).length := by rw [hs]; exact hm2
    rw [e1, e3, List.getElem?_eq_getElem hlen]
    simp [hlen]

/-- What a sort of an array tells of lists. -/
theorem perm_sorted {lt : α → α → Bool} {L : List α} {d' : Array α} (hp : Go.Sort.PermIn 0 L.toArray.size L.toArray d') (hs : Go.Sort.SortedIn lt 0 L.toArray.size d') : d'.toList.Perm L ∧ d'.toList.Pairwise (fun a b => lt b a = false) ∧ d'.toList.length = L.length := by
  obtain ⟨h1, _, h3⟩ := hp
  have e1 : (d'.extract 0 L.toArray.size) = d' := by
    rw [← h1]; simp
  have e2 : (L.toArray.extract 0 L.toArray.size) = L.toArray := by simp
  rw [e1, e2] at h3
  refine ⟨by simpa using h3, ?_, by simpa using h1⟩
  rw [List.pairwise_iff_getElem]
  intro i j hi hj hij
  have hi' : i < d'.size := by simpa using hi
  have hj' : j < d'.size := by simpa using hj
  have := hs i j (Nat.zero_le _) hij (by rw [← h1]; exact hj')
  rw [getElem!_pos d' j hj', getElem!_pos d' i hi'] at this
  simpa using this
end

end Go.Proofs.Yteoncpkfinheoaa
