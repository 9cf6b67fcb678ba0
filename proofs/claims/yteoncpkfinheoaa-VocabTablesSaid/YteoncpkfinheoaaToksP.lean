/- Plain laws: the tokens of rows, one row after another; rows of strings that the call made. -/
import Derived.Test.YteoncpkfinheoaaMay
namespace Go.Proofs.Yteoncpkfinheoaa
open Go.RowKit
set_option linter.unusedVariables false

def Rw.enc (r : Rw) : List Value := [.string r.token, .int .i64 r.rank]
theorem Rw.enc_len (r : Rw) : r.enc.length = 2 := rfl
def rw' (R : List Rw) (i : Nat) : Rw := R.getD i ⟨ByteArray.empty, 0⟩
theorem rw_eq {R : List Rw} {i : Nat} (h : i < R.length) : R[i]? = some (rw' R i) := by simp [rw', List.getD, h]
theorem rw_get {R : List Rw} {i : Nat} (h : i < R.length) : R[i] = rw' R i := by simp [rw', List.getD, h]

/-- One more than the greatest number among the first k specials; and among the first k rows, too. -/
def topS (S : List Sp) (k : Nat) : Int := ((S.take k).map (·.id + 1)).foldl max 0
def topR (R : List Rw) (S : List Sp) (k : Nat) : Int := ((R.take k).map (·.rank + 1)).foldl max (topS S S.length)
theorem topS_zero (S : List Sp) : topS S 0 = 0 := rfl
theorem topS_succ {S : List Sp} {k : Nat} (h : k < S.length) : topS S (k + 1) = max (topS S k) ((sp S k).id + 1) := by
  unfold topS; rw [List.take_add_one, sp_eq h]; simp [List.foldl_append]
theorem topR_zero (R : List Rw) (S : List Sp) : topR R S 0 = topS S S.length := rfl
theorem topR_succ {R : List Rw} {S : List Sp} {k : Nat} (h : k < R.length) : topR R S (k + 1) = max (topR R S k) ((rw' R k).rank + 1) := by
  unfold topR; rw [List.take_add_one, rw_eq h]; simp [List.foldl_append]
theorem topR_all (R : List Rw) (S : List Sp) : topR R S R.length = top R S := by
  unfold topR topS top; rw [List.take_length, List.take_length]

def OkS (S : List Sp) (k : Nat) : Prop := ∀ j, j < k → 0 ≤ (sp S j).id ∧ (sp S j).id < 4096
def OkR (R : List Rw) (k : Nat) : Prop := ∀ j, j < k → 0 ≤ (rw' R j).rank ∧ (rw' R j).rank < 4096
def ApR (R : List Rw) (k : Nat) : Prop := ∀ i j, i < j → j < k → (rw' R i).rank ≠ (rw' R j).rank
theorem topS_bd {S : List Sp} {k : Nat} (h : OkS S k) (hk : k ≤ S.length) : 0 ≤ topS S k ∧ topS S k ≤ 4096 := by
  induction k with
  | zero => exact ⟨by rw [topS_zero]; omega, by rw [topS_zero]; omega⟩
  | succ k ih =>
    have := ih (fun j hj => h j (by omega)) (by omega)
    have h1 := h k (by omega)
    rw [topS_succ (by omega)]
    omega
theorem topR_bd {R : List Rw} {S : List Sp} {k : Nat} (hS : OkS S S.length) (h : OkR R k) (hk : k ≤ R.length) : 0 ≤ topR R S k ∧ topR R S k ≤ 4096 := by
  induction k with
  | zero => rw [topR_zero]; exact topS_bd hS (Nat.le_refl _)
  | succ k ih =>
    have := ih (fun j hj => h j (by omega)) (by omega)
    have h1 := h k (by omega)
    rw [topR_succ (by omega)]
    omega
theorem topR_lt {R : List Rw} {S : List Sp} {k j : Nat} (hk : k ≤ R.length) (hj : j < k) : (rw' R j).rank < topR R S k := by
  induction k with
  | zero => omega
  | succ k ih =>
    rw [topR_succ (by omega)]
    by_cases e : j = k
    · subst e; omega
    · have := ih (by omega) (by omega); omega

theorem OkRows.of {R : List Rw} {S : List Sp} (h1 : OkS S S.length) (h2 : OkR R R.length) (h3 : ApR R R.length) : OkRows R S := by
  refine ⟨fun s hs => ?_, fun r hr => ?_, ?_⟩
  · obtain ⟨j, hj, rfl⟩ := List.getElem_of_mem hs
    rw [sp_get hj]; exact h1 j hj
  · obtain ⟨j, hj, rfl⟩ := List.getElem_of_mem hr
    rw [rw_get hj]; exact h2 j hj
  · rw [List.pairwise_iff_getElem]
    intro i j hi hj hij
    rw [rw_get hi, rw_get hj]; exact h3 i j hij hj
theorem notOk_s {R : List Rw} {S : List Sp} {k : Nat} (hk : k < S.length) (h : ¬ (0 ≤ (sp S k).id ∧ (sp S k).id < 4096)) : ¬ OkRows R S := fun ho => h (by
  have := ho.1 _ (List.mem_of_getElem? (sp_eq hk)); exact this)
theorem notOk_r {R : List Rw} {S : List Sp} {k : Nat} (hk : k < R.length) (h : ¬ (0 ≤ (rw' R k).rank ∧ (rw' R k).rank < 4096)) : ¬ OkRows R S := fun ho => h (by
  have := ho.2.1 _ (List.mem_of_getElem? (rw_eq hk)); exact this)
theorem notOk_a {R : List Rw} {S : List Sp} {i k : Nat} (hi : i < k) (hk : k < R.length) (h : (rw' R i).rank = (rw' R k).rank) : ¬ OkRows R S := fun ho => by
  have := (List.pairwise_iff_getElem.1 ho.2.2) i k (by omega) hk hi
  rw [rw_get hk, rw_get (by omega)] at this
  exact this h

/-- The first k rows' tokens stand in L, and A tells where. -/
structure LaidR (R : List Rw) (k n : Nat) (L : List ByteArray) (A : List Int) : Prop where
  len : L.length = n
  alen : A.length = n
  tok : ∀ i, i < n → tk L i = tokAt (R.take k) i
  hit : ∀ i, i < n → (ix A i = 0 ∧ ∀ j, j < k → (rw' R j).rank ≠ (i : Int)) ∨ (ix A i = 1 ∧ ∃ j, j < k ∧ (rw' R j).rank = (i : Int))

theorem tokAt_none {R : List Rw} {i : Nat} (h : ∀ r ∈ R, r.rank ≠ (i : Int)) : tokAt R i = ByteArray.empty := by
  unfold tokAt
  have : R.find? (fun r => decide (r.rank = (i : Int))) = none := by
    rw [List.find?_eq_none]; intro r hr; simpa using h r hr
  rw [this]
theorem tokAt_snoc {R : List Rw} {i : Nat} (h : ∀ r ∈ R, r.rank ≠ (i : Int)) (r : Rw) : tokAt (R ++ [r]) i = if r.rank = (i : Int) then r.token else ByteArray.empty := by
  unfold tokAt
  have : R.find? (fun r => decide (r.rank = (i : Int))) = none := by
    rw [List.find?_eq_none]; intro r hr; simpa using h r hr
  rw [List.find?_append, this]
  by_cases e : r.rank = (i : Int)
  · simp [List.find?, e]
  · simp [List.find?, e]
theorem tokAt_snoc_other {R : List Rw} {i : Nat} {r : Rw} (h : r.rank ≠ (i : Int)) : tokAt (R ++ [r]) i = tokAt R i := by
  unfold tokAt
  rw [List.find?_append]
  cases R.find? (fun r => decide (r.rank = (i : Int))) with
  | some x => simp
  | none => simp [List.find?, h]

theorem mem_take_rw {R : List Rw} {k : Nat} {r : Rw} (h : r ∈ R.take k) : ∃ j, j < k ∧ j < R.length ∧ rw' R j = r := by
  obtain ⟨j, hj, rfl⟩ := List.getElem_of_mem h
  have h1 : j < k := by rw [List.length_take] at hj; omega
  have h2 : j < R.length := by rw [List.length_take] at hj; omega
  refine ⟨j, h1, h2, ?_⟩
  rw [List.getElem_take, rw_get h2]

theorem LaidR.zero (R : List Rw) (n : Nat) : LaidR R 0 n (List.replicate n ByteArray.empty) (List.replicate n 0) := by
  refine ⟨by simp, by simp, fun i hi => ?_, fun i hi => .inl ⟨by simp [ix, List.getD, hi], fun j hj => by omega⟩⟩
  have : tokAt (R.take 0) i = ByteArray.empty := tokAt_none (by simp)
  rw [this]
  simp [tk, List.getD, hi]

theorem LaidR.next {R : List Rw} {k n : Nat} {L : List ByteArray} {A : List Int} (h : LaidR R k n L A) (hk : k < R.length) {r : Nat} (hr : (rw' R k).rank = (r : Int)) (hrn : r < n) (h0 : ix A r = 0) :
    LaidR R (k + 1) n (L.set r (rw' R k).token) (A.set r 1) := by
  have hno : ∀ j, j < k → (rw' R j).rank ≠ (r : Int) := by
    rcases h.hit r hrn with ⟨_, h2⟩ | ⟨h1, _⟩
    · exact h2
    · omega
  have htk : R.take (k + 1) = R.take k ++ [rw' R k] := by rw [List.take_add_one, rw_eq hk]; rfl
  refine ⟨by rw [List.length_set]; exact h.len, by rw [List.length_set]; exact h.alen, fun i hi => ?_, fun i hi => ?_⟩
  · rw [htk]
    by_cases e : i = r
    · subst e
      rw [tokAt_snoc (fun x hx => by obtain ⟨j, hj, _, rfl⟩ := mem_take_rw hx; exact hno j hj), if_pos hr]
      simp [tk, List.getD, h.len, hi]
    · rw [tokAt_snoc_other (by rw [hr]; omega), ← h.tok i hi]
      simp [tk, List.getD, Ne.symm e]
  · by_cases e : i = r
    · subst e
      right
      exact ⟨by simp [ix, List.getD, h.alen, hi], k, by omega, hr⟩
    · have e1 : ix (A.set r 1) i = ix A i := by simp [ix, List.getD, Ne.symm e]
      rw [e1]
      rcases h.hit i hi with ⟨h1, h2⟩ | ⟨h1, j, hj, h2⟩
      · left
        refine ⟨h1, fun j hj => ?_⟩
        by_cases ej : j = k
        · subst ej; rw [hr]; omega
        · exact h2 j (by omega)
      · exact .inr ⟨h1, j, by omega, h2⟩

theorem LaidR.apart {R : List Rw} {k n : Nat} {L : List ByteArray} {A : List Int} (h : LaidR R k n L A) {r : Nat} (hr : (rw' R k).rank = (r : Int)) (hrn : r < n) (h0 : ix A r = 0) (ha : ApR R k) : ApR R (k + 1) := fun i j h1 h2 => by
  by_cases e : j = k
  · subst e
    rcases h.hit r hrn with ⟨_, h3⟩ | ⟨h3, _⟩
    · rw [hr]; exact h3 i h1
    · omega
  · exact ha i j h1 (by omega)

theorem LaidR.all {R : List Rw} {S : List Sp} {k n rn : Nat} {L : List ByteArray} {A : List Int} (h : LaidR R k n L A) (hl : R.length = rn) (hk : k ≤ rn) (hk2 : ¬ k < rn) (hn : (n : Int) = top R S) : L = toksOf R S := by
  obtain rfl : k = rn := by omega
  have hn2 : (top R S).toNat = n := by omega
  unfold toksOf
  rw [hn2]
  apply List.ext_getElem?
  intro i
  by_cases hi : i < n
  · rw [tk_eq (by rw [h.len]; exact hi), h.tok i hi, ← hl, List.take_length]
    simp [hi]
  · rw [List.getElem?_eq_none (by rw [h.len]; omega), List.getElem?_eq_none (by simp; omega)]

/-- A row that the call made stays where its block stays. -/
theorem own_stay {w w' : World} {base : Nat} {e : TypeId} {s n : Nat} {v : Value} {xs : List Value} (h : w.ownsRow base e s v n xs) (hb : ∀ g, v.ownBlock = some g → w'.heap[g]? = w.heap[g]?) : w'.ownsRow base e s v n xs := by
  obtain ⟨h1, h2⟩ := h
  refine ⟨h1, ?_⟩
  rcases h2 with h2 | ⟨g, cap, cur, hv, hg, hh, r⟩
  · exact .inl h2
  · exact .inr ⟨g, cap, cur, hv, hg, by rw [hb g (by rw [hv]; rfl)]; exact hh, r⟩

end Go.Proofs.Yteoncpkfinheoaa
