/- What the document says of vocabularies, in plain Lean: no program here. -/
import Derived.WalkKit
namespace Go.Proofs.Yteoncpkfinheoaa
open Go
set_option linter.unusedVariables false

structure Mg where
  left : Int
  right : Int
  out : Int
  order : Int
structure Sp where
  name : ByteArray
  id : Int
structure Rw where
  token : ByteArray
  rank : Int
structure Pr where
  left : ByteArray
  right : ByteArray
structure Vc where
  tokens : List ByteArray
  merges : List Mg
  specials : List Sp

instance : Inhabited Mg := ⟨⟨0, 0, 0, 0⟩⟩
instance : Inhabited Sp := ⟨⟨ByteArray.empty, 0⟩⟩

/-- The bytes of a token. -/
def tk (T : List ByteArray) (i : Nat) : ByteArray := T.getD i ByteArray.empty
theorem tk_eq {T : List ByteArray} {i : Nat} (h : i < T.length) : T[i]? = some (tk T i) := by simp [tk, List.getD, h]
theorem tk_mem {T : List ByteArray} {i : Nat} (h : i < T.length) : tk T i ∈ T := by
  have := tk_eq h
  exact List.mem_of_getElem? this
theorem mem_tk {T : List ByteArray} {s : ByteArray} (h : s ∈ T) : ∃ i, i < T.length ∧ tk T i = s := by
  obtain ⟨i, hi, rfl⟩ := List.getElem_of_mem h
  exact ⟨i, hi, by simp [tk, List.getD, hi]⟩

theorem size_zero {s : ByteArray} : s.size = 0 ↔ s = ByteArray.empty := by
  constructor
  · intro h
    apply ByteArray.ext
    exact Array.eq_empty_of_size_eq_zero h
  · intro h; subst h; rfl

/-- The least number of a token of such bytes. -/
def ofT (T : List ByteArray) (s : ByteArray) : Int := if s.size = 0 then -1 else match T.findIdx? (fun x => decide (x = s)) with | some i => (i : Int) | none => -1

theorem ofT_empty (T : List ByteArray) {s : ByteArray} (h : s.size = 0) : ofT T s = -1 := by unfold ofT; rw [if_pos h]
theorem ofT_some {T : List ByteArray} {s : ByteArray} {i : Nat} (h0 : s.size ≠ 0) (hi : i < T.length) (he : tk T i = s) (hn : ∀ j, j < i → tk T j ≠ s) : ofT T s = i := by
  unfold ofT
  rw [if_neg h0]
  have : T.findIdx? (fun x => decide (x = s)) = some i := by
    rw [List.findIdx?_eq_some_iff_getElem]
    have ht : ∀ j (hj : j < T.length), T[j] = tk T j := fun j hj => by simp [tk, List.getD, hj]
    exact ⟨hi, by rw [ht i hi]; simpa using he, fun j hj => by rw [ht j (by omega)]; simpa using hn j hj⟩
  rw [this]
theorem ofT_none {T : List ByteArray} {s : ByteArray} (hn : ∀ j, j < T.length → tk T j ≠ s) : ofT T s = -1 := by
  unfold ofT
  split
  · rfl
  · have : T.findIdx? (fun x => decide (x = s)) = none := by
      rw [List.findIdx?_eq_none_iff]
      intro x hx
      obtain ⟨j, hj, rfl⟩ := mem_tk hx
      simpa using hn j hj
    rw [this]
theorem ofT_cases (T : List ByteArray) (s : ByteArray) : (s.size = 0 ∧ ofT T s = -1) ∨ (s.size ≠ 0 ∧ (∃ i : Nat, i < T.length ∧ tk T i = s ∧ (∀ j, j < i → tk T j ≠ s) ∧ ofT T s = i)) ∨ (s.size ≠ 0 ∧ (∀ j, j < T.length → tk T j ≠ s) ∧ ofT T s = -1) := by
  by_cases h0 : s.size = 0
  · exact .inl ⟨h0, ofT_empty T h0⟩
  · right
    cases h : T.findIdx? (fun x => decide (x = s)) with
    | none =>
      right
      rw [List.findIdx?_eq_none_iff] at h
      have hn : ∀ j, j < T.length → tk T j ≠ s := fun j hj => by simpa using h _ (tk_mem hj)
      exact ⟨h0, hn, ofT_none hn⟩
    | some i =>
      left
      obtain ⟨h1, h2, h3⟩ := List.findIdx?_eq_some_iff_getElem.1 h
      have ht : ∀ j (hj : j < T.length), T[j] = tk T j := fun j hj => by simp [tk, List.getD, hj]
      have e1 : tk T i = s := by rw [ht i h1] at h2; simpa using h2
      have e2 : ∀ j, j < i → tk T j ≠ s := fun j hj => by have := h3 j hj; rw [ht j (by omega)] at this; simpa using this
      exact ⟨h0, i, h1, e1, e2, ofT_some h0 h1 e1 e2⟩

/-- A number of a token that isn't empty. -/
def isTk (T : List ByteArray) (i : Int) : Bool := decide (0 ≤ i) && decide (i < T.length) && decide ((tk T i.toNat).size ≠ 0)
theorem isTk_iff {T : List ByteArray} {i : Int} : isTk T i = true ↔ 0 ≤ i ∧ i < T.length ∧ (tk T i.toNat).size ≠ 0 := by
  unfold isTk; simp [and_assoc]

/-- A byte, alone. -/
def one (b : Nat) : ByteArray := ⟨#[UInt8.ofNat b]⟩

/-- No two that aren't empty are the same. -/
def Uniq (T : List ByteArray) : Prop := ∀ i j, i < j → j < T.length → tk T i = tk T j → (tk T i).size = 0
def MayTok (T : List ByteArray) : Prop := T.length ≤ 4096 ∧ (∀ s ∈ T, s.size ≤ 64) ∧ Uniq T ∧ ∀ b, b < 256 → one b ∈ T

theorem Uniq.of {T : List ByteArray} (h : Uniq T) {i : Nat} (hi : i < T.length) (h0 : (tk T i).size ≠ 0) : ofT T (tk T i) = i :=
  ofT_some h0 hi rfl fun j hj e => h0 (by rw [← e]; exact h j i hj hi e)

/-- Does a merge stand ahead of another one? -/
def ahead (a b : Mg) : Bool := decide (a.order < b.order ∨ (a.order = b.order ∧ (a.left < b.left ∨ (a.left = b.left ∧ a.right < b.right))))
theorem ahead_iff {a b : Mg} : ahead a b = true ↔ a.order < b.order ∨ (a.order = b.order ∧ (a.left < b.left ∨ (a.left = b.left ∧ a.right < b.right))) := by unfold ahead; simp
theorem ahead_trans {a b c : Mg} (h1 : ahead a b = true) (h2 : ahead b c = true) : ahead a c = true := by rw [ahead_iff] at *; omega
theorem ahead_irrefl (a : Mg) : ahead a a = false := by
  cases h : ahead a a with
  | false => rfl
  | true => rw [ahead_iff] at h; omega

def OkMg (T : List ByteArray) (m : Mg) : Prop := isTk T m.left = true ∧ isTk T m.right = true ∧ isTk T m.out = true ∧ tk T m.out.toNat = tk T m.left.toNat ++ tk T m.right.toNat ∧ 0 ≤ m.order ∧ m.order ≤ 1048576
/-- Of two merges, the first one ahead. -/
def Rise (a b : Mg) : Prop := ahead a b = true ∧ (a.order = b.order → a.out = b.out)
def Parts (a b : Mg) : Prop := ¬ (a.left = b.left ∧ a.right = b.right)
theorem Rise.trans {a b c : Mg} (h1 : Rise a b) (h2 : Rise b c) : Rise a c := by
  refine ⟨ahead_trans h1.1 h2.1, fun e => ?_⟩
  have a1 := ahead_iff.1 h1.1
  have a2 := ahead_iff.1 h2.1
  have e1 := h1.2 (by omega)
  have e2 := h2.2 (by omega)
  rw [e1, e2]
def MayMg (T : List ByteArray) (M : List Mg) : Prop := M.length ≤ 16384 ∧ (∀ m ∈ M, OkMg T m) ∧ M.Pairwise (fun a b => Rise a b ∧ Parts a b)

def MayMade (T : List ByteArray) (M : List Mg) : Prop := ∀ i, i < T.length → 1 < (tk T i).size → ∃ m ∈ M, m.out = (i : Int)

/-- A sign of a name. -/
def sign (c : UInt8) : Bool := (decide (97 ≤ c.toNat) && decide (c.toNat ≤ 122)) || (decide (48 ≤ c.toNat) && decide (c.toNat ≤ 57)) || decide (c.toNat = 95)
def MayName (s : ByteArray) : Prop := s.data.toList.all sign = true ∧ 1 ≤ s.size ∧ s.size ≤ 24

/-- Strings by their bytes. -/
def sless (a b : ByteArray) : Bool := Op.bytesLess a.toList b.toList

def OkSp (T : List ByteArray) (s : Sp) : Prop := MayName s.name ∧ 0 ≤ s.id ∧ s.id < T.length ∧ (tk T s.id.toNat).size = 0
def MaySp (T : List ByteArray) (S : List Sp) : Prop := S.length ≤ 16 ∧ (∀ s ∈ S, OkSp T s) ∧ S.Pairwise (fun a b => sless a.name b.name = true ∧ a.id ≠ b.id)

def May (v : Vc) : Prop := MayTok v.tokens ∧ MayMg v.tokens v.merges ∧ MayMade v.tokens v.merges ∧ MaySp v.tokens v.specials

/-- Numbers that may be. -/
def OkRows (R : List Rw) (S : List Sp) : Prop := (∀ s ∈ S, 0 ≤ s.id ∧ s.id < 4096) ∧ (∀ r ∈ R, 0 ≤ r.rank ∧ r.rank < 4096) ∧ R.Pairwise (fun a b => a.rank ≠ b.rank)
/-- One more than the greatest number. -/
def top (R : List Rw) (S : List Sp) : Int := (R.map (·.rank + 1)).foldl max ((S.map (·.id + 1)).foldl max 0)
/-- The token at a number. -/
def tokAt (R : List Rw) (i : Nat) : ByteArray := match R.find? (fun r => decide (r.rank = (i : Int))) with | some r => r.token | none => ByteArray.empty
def toksOf (R : List Rw) (S : List Sp) : List ByteArray := (List.range (top R S).toNat).map (tokAt R)

/-- The merges of one token, by its cuts. -/
def cutsOf (T : List ByteArray) (i : Nat) : List Mg :=
  (List.range ((tk T i).size - 1)).filterMap fun k =>
    let a := ofT T ((tk T i).extract 0 (k + 1))
    let b := ofT T ((tk T i).extract (k + 1) (tk T i).size)
    if 0 ≤ a ∧ 0 ≤ b then some ⟨a, b, i, i⟩ else none
def mergesOf (T : List ByteArray) : List Mg := (List.range T.length).flatMap (cutsOf T)

def sortMg (M : List Mg) : List Mg := M.mergeSort (fun a b => !ahead b a)
def sortSp (S : List Sp) : List Sp := S.mergeSort (fun a b => !sless b.name a.name)

end Go.Proofs.Yteoncpkfinheoaa
