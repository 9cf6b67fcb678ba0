/- One-rune keys; more on rows under keys. Plain lemmas. -/
import Derived.Test.YtjfpbhdcbjaahaaCFixed
namespace Go.Proofs.Ytjfpbhdcbjaahaa
open Go.RowKit
set_option linter.unusedVariables false

def keyOf (i : Nat) : ByteArray := Utf8.encode (i : Int)
def deK (b : ByteArray) : Nat := if b.size = 1 then (b.get! 0).toNat else ((b.get! 0).toNat - 192) * 64 + ((b.get! 1).toNat - 128)

set_option maxRecDepth 20000 in
theorem deK_keyOf : ∀ i < 512, deK (keyOf i) = i := by decide +kernel
set_option maxRecDepth 20000 in
theorem keyOf_size4 : ∀ i < 512, (keyOf i).size ≤ 4 := by decide +kernel

theorem keyOf_inj {i j : Nat} (hi : i < 512) (hj : j < 512) (h : keyOf i = keyOf j) : i = j := by
  rw [← deK_keyOf i hi, ← deK_keyOf j hj, h]
theorem keyOf_size {i : Nat} (hi : i < 512) : (keyOf i).size ≤ maxLen := by
  have := keyOf_size4 i hi
  unfold maxLen
  omega

theorem encode_keyOf (b k : Nat) : Utf8.encode ((b : Int) + (k : Int)) = keyOf (b + k) := by
  unfold keyOf
  rw [Int.natCast_add]

attribute [irreducible] keyOf

/-- The keys are apart. -/
def Apart (l : List Row) : Prop := (l.map (·.1)).Nodup

theorem Apart.eq {l : List Row} (h : Apart l) {p q : Row} (hp : p ∈ l) (hq : q ∈ l) (e : p.1 = q.1) : p = q := by
  induction l with
  | nil => simp at hp
  | cons x l ih =>
    unfold Apart at h
    rw [List.map_cons, List.nodup_cons] at h
    rcases List.mem_cons.1 hp with rfl | hp' <;> rcases List.mem_cons.1 hq with rfl | hq'
    · rfl
    · exact absurd (List.mem_map.2 ⟨q, hq', e.symm⟩) h.1
    · exact absurd (List.mem_map.2 ⟨p, hp', e⟩) h.1
    · exact ih h.2 hp' hq'

theorem CRep.apart {w : World} {base top cb mb : Nat} {no : Option Addr} {l : List Row} {room hits misses : Int} (h : CRep w base top cb mb no l room hits misses) : Apart l := by
  obtain ⟨m, cap, N, e, y, ord, sz, f, R, hc, hg, rfl⟩ := h
  unfold Apart
  rw [List.map_map]
  have hnd := hc.ch.nd
  have hin : ∀ i ∈ ord, ∀ j ∈ ord, (N i).key = (N j).key → i = j := fun i hi j hj e => hg.inj hi hj e
  clear hg hc
  induction ord with
  | nil => simp
  | cons i ord ih =>
    rw [List.map_cons, List.nodup_cons]
    refine ⟨?_, ih (List.nodup_cons.1 hnd).2 fun a ha b hb => hin a (by simp [ha]) b (by simp [hb])⟩
    intro hm
    obtain ⟨j, hj, e⟩ := List.mem_map.1 hm
    have := hin j (by simp [hj]) i (by simp) e
    exact (List.nodup_cons.1 hnd).1 (this ▸ hj)

theorem filter_len {l : List Row} (h : Apart l) {k : ByteArray} {A : List Int} (hm : (k, A) ∈ l) : (l.filter fun p => p.1 ≠ k).length + 1 = l.length := by
  induction l with
  | nil => simp at hm
  | cons x l ih =>
    have h' := h
    unfold Apart at h'
    rw [List.map_cons, List.nodup_cons] at h'
    rw [List.filter_cons]
    by_cases e : x.1 = k
    · rw [if_neg (by simpa using e)]
      have : l.filter (fun p => p.1 ≠ k) = l := by
        rw [List.filter_eq_self]
        intro p hp
        have : p.1 ≠ k := fun e2 => h'.1 (List.mem_map.2 ⟨p, hp, by rw [e2, e]⟩)
        simpa using this
      rw [this]; rfl
    · rw [if_pos (by simpa using e)]
      have hm' : (k, A) ∈ l := by
        rcases List.mem_cons.1 hm with rfl | h
        · exact absurd rfl e
        · exact h
      have := ih h'.2 hm'
      simp only [List.length_cons]
      omega

theorem young_len {l : List Row} (h : Apart l) {k : ByteArray} {A : List Int} (hm : (k, A) ∈ l) : (young l k A).length = l.length := by
  unfold young
  rw [List.length_append]
  exact filter_len h hm

theorem young_mem {l : List Row} (h : Apart l) {k : ByteArray} {A : List Int} (hm : (k, A) ∈ l) (p : Row) : p ∈ young l k A ↔ p ∈ l := by
  unfold young
  rw [List.mem_append, List.mem_filter, List.mem_singleton]
  constructor
  · rintro (⟨h1, _⟩ | rfl)
    · exact h1
    · exact hm
  · intro hp
    by_cases e : p.1 = k
    · right; exact h.eq hp hm e
    · left; exact ⟨hp, by simpa using e⟩

theorem young_fresh {l : List Row} {k : ByteArray} {A : List Int} (h : ∀ p ∈ l, p.1 ≠ k) : young l k A = l ++ [(k, A)] := by
  unfold young
  congr 1
  rw [List.filter_eq_self]
  intro p hp
  simpa using h p hp

/-- The last ones of k numbered rows, as many as there is room for. -/
def lastR (b R k : Nat) (A : Nat → List Int) : List Row := ((List.range k).map fun i => (keyOf (b + i), A i)).drop (k - R)

theorem lastR_len (b R k : Nat) (A : Nat → List Int) : (lastR b R k A).length = min k R := by
  unfold lastR; simp; omega

theorem lastR_mem (b R k : Nat) (A : Nat → List Int) (p : Row) : p ∈ lastR b R k A ↔ ∃ i, k - R ≤ i ∧ i < k ∧ p = (keyOf (b + i), A i) := by
  unfold lastR
  rw [List.mem_iff_getElem]
  constructor
  · rintro ⟨j, hj, rfl⟩
    simp at hj
    refine ⟨k - R + j, by omega, by omega, ?_⟩
    simp
  · rintro ⟨i, h1, h2, rfl⟩
    refine ⟨i - (k - R), by simp; omega, ?_⟩
    have : k - R + (i - (k - R)) = i := by omega
    simp [this]

theorem lastR_step (b R k : Nat) (A : Nat → List Int) (hb : b + k < 512) (hR : 0 < R) : putL (lastR b R k A) R (keyOf (b + k)) (A k) = lastR b R (k + 1) A := by
  have hfr : ∀ p ∈ lastR b R k A, p.1 ≠ keyOf (b + k) := by
    intro p hp e
    obtain ⟨i, h1, h2, rfl⟩ := (lastR_mem b R k A p).1 hp
    have e' : keyOf (b + i) = keyOf (b + k) := e
    have := keyOf_inj (by omega) (by omega) e'
    omega
  unfold putL
  rw [young_fresh hfr]
  have hl := lastR_len b R k A
  rw [List.length_append, hl]
  have hs : lastR b R k A ++ [(keyOf (b + k), A k)] = ((List.range (k + 1)).map fun i => (keyOf (b + i), A i)).drop (k - R) := by
    unfold lastR
    rw [List.range_succ, List.map_append, List.drop_append_of_le_length (by simp)]
    rfl
  rw [hs]
  by_cases h : R ≤ k
  · rw [if_pos (by simp; omega), List.drop_drop]
    unfold lastR
    congr 1
    omega
  · rw [if_neg (by simp; omega)]
    unfold lastR
    congr 1
    omega

theorem same_true {A B : List Int} {ao bo : Option Addr} {n m c d : Nat} (h : A = B) (w : World) (hA : SlI w ao n c A) (hB : SlI w bo m d B) :
    Calls Try.prog 11 #[.slice ao n c, .slice bo m d] w fun e w' => e = .returned (.bool true) ∧ Below w.heap.size w w' :=
  (same10 w hA hB).mono fun e w' ⟨k, he, hw⟩ => ⟨by rw [he, eqB_true h], by rw [hw]; exact below_drewN (Below.refl _ _) k⟩

theorem put_last {w : World} {base cb mb b R k : Nat} {no : Option Addr} {A : Nat → List Int} {hits misses : Int} (h : CRep w base w.heap.size cb mb no (lastR b R k A) R hits misses) (hR : R ≤ 1000) (hb : b + k < 512)
    {ao : Option Addr} {n c : Nat} (hA : SlI w ao n c (A k)) (hAo : ∀ ad, ao = some ad → ad.block < w.heap.size ∧ ¬ Ft cb mb no ad.block) (hlim : n ≤ 1048576) :
    Calls Try.prog 9 #[.pointer (some ⟨cb, 0, none⟩), .string (keyOf (b + k)), .slice ao n c] w fun en w' => en = .returned (.tuple #[]) ∧ ∃ no',
      CRep w' base w'.heap.size cb mb no' (lastR b R (k + 1) A) R hits misses ∧ Keeps (Ft cb mb no) w w' := by
  by_cases h0 : R = 0
  · subst h0
    refine (crep_zero h _ ao n c).mono ?_
    rintro en w' ⟨rfl, hb'⟩
    have e : lastR b 0 (k + 1) A = lastR b 0 k A := by
      have h1 := lastR_len b 0 (k + 1) A
      have h2 := lastR_len b 0 k A
      rw [List.eq_nil_of_length_eq_zero (l := lastR b 0 (k + 1) A) (by rw [h1]; omega), List.eq_nil_of_length_eq_zero (l := lastR b 0 k A) (by rw [h2]; omega)]
    rw [e]
    exact ⟨rfl, no, (h.below hb').up hb'.size, Keeps.of_below hb'⟩
  · have hl := lastR_len b R k A
    refine (crep_put h (keyOf (b + k)) (keyOf_size hb) (by omega) (by omega) (by omega) (by omega) hA (fun ad e _ => hAo ad e) hlim).mono ?_
    rintro en w' ⟨rfl, g, h1, h2, _⟩
    rw [lastR_step b R k A hb (by omega)] at h1
    exact ⟨rfl, _, h1, h2⟩

theorem SlI.two (w : World) (x y : Int) (t : TypeId) : SlI (w.alloc (.cells #[.int .i64 x, .int .i64 y] t)) (some ⟨w.heap.size, 0, .none⟩) 2 2 [x, y] := by
  refine ⟨rfl, Nat.le_refl _, by unfold maxLen; omega, by simp, fun i u hu => ?_⟩
  match i, hu with
  | 0, hu => simp at hu; subst hu; exact ⟨_, _, rfl, by simp⟩
  | 1, hu => simp at hu; subst hu; exact ⟨_, _, rfl, by simp⟩
  | i + 2, hu => simp at hu

end Go.Proofs.Ytjfpbhdcbjaahaa
