/- What the document says of coders of texts, in plain Lean: no program here. -/
import Derived.Test.YtimkkkdabmhedaaGreatDoorB8
import Derived.Test.YtimkkkdabmhedaaGreatDoorB1
import Derived.RegionTactic
import Derived.Deep.DeepCutAuto
import Derived.Laws.ResultCell
namespace Go.Proofs.YtimkkkdabmhedaaGreatDoor
open Go
set_option linter.unusedVariables false

structure Rg where
  lo : Int
  hi : Int
  cls : Int
instance : Inhabited Rg := ⟨⟨0, 0, 0⟩⟩
def Rg.enc (r : Rg) : List Value := [.int .i64 r.lo, .int .i64 r.hi, .int .i64 r.cls]
theorem Rg.enc_len (r : Rg) : r.enc.length = 3 := rfl
theorem Rg.enc_one (x : Rg) : ∀ v ∈ x.enc, v.oneCell' = true := by
  intro v hv
  simp [Rg.enc] at hv
  rcases hv with rfl | rfl | rfl <;> rfl
def rg (t : List Rg) (i : Nat) : Rg := t.getD i ⟨0, 0, 0⟩
theorem rg_eq {t : List Rg} {i : Nat} (h : i < t.length) : t[i]? = some (rg t i) := by simp [rg, List.getD, h]
theorem rg_get {t : List Rg} {i : Nat} (h : i < t.length) : t[i] = rg t i := by simp [rg, List.getD, h]

/-- May names be? -/
def MayNames (N : List ByteArray) : Prop := N.length ≤ 16 ∧ (∀ s ∈ N, MayName s) ∧ N.Pairwise (fun a b => sless a b = true)
structure NamesTo (N : List ByteArray) (k : Nat) : Prop where
  ok : ∀ j, j < k → MayName (tk N j)
  rise : ∀ j, j + 1 < k → sless (tk N j) (tk N (j + 1)) = true
theorem NamesTo.zero (N : List ByteArray) : NamesTo N 0 := ⟨fun j h => by omega, fun j h => by omega⟩
theorem NamesTo.next {N : List ByteArray} {k : Nat} (h : NamesTo N k) (h1 : MayName (tk N k)) (h2 : 0 < k → sless (tk N (k - 1)) (tk N k) = true) : NamesTo N (k + 1) := by
  refine ⟨fun j hj => ?_, fun j hj => ?_⟩
  · by_cases e : j = k
    · subst e; exact h1
    · exact h.ok j (by omega)
  · by_cases e : j + 1 = k
    · subst e; exact h2 (by omega)
    · exact h.rise j (by omega)
theorem NamesTo.all {N : List ByteArray} {k : Nat} (h : NamesTo N k) (hk : N.length = k) (h16 : N.length ≤ 16) : MayNames N := by
  refine ⟨h16, fun s hs => ?_, ?_⟩
  · obtain ⟨j, hj, rfl⟩ := mem_tk hs
    exact h.ok j (by omega)
  · refine pairwise_of_next (R := fun a b => sless a b = true) (fun a b c h1 h2 => sless_trans h1 h2) (fun i a b ha hb => ?_)
    have hi := (List.getElem?_eq_some_iff.1 hb).1
    rw [tk_eq (by omega)] at ha
    rw [tk_eq hi] at hb
    simp only [Option.some.injEq] at ha hb
    subst ha hb
    exact h.rise i (by omega)
theorem notNames_name {N : List ByteArray} {k : Nat} (hk : k < N.length) (h : ¬ MayName (tk N k)) : (false = true ↔ MayNames N) := ⟨(fun h => by cases h), fun h2 => absurd (h2.2.1 _ (tk_mem hk)) h⟩
theorem notNames_rise {N : List ByteArray} {k : Nat} (h0 : 0 < k) (hk : k < N.length) (h : sless (tk N (k - 1)) (tk N k) = false) : (false = true ↔ MayNames N) := ⟨(fun h => by cases h), fun h2 => by
  have h3 := (List.pairwise_iff_getElem.1 h2.2.2) (k - 1) k (by omega) hk (by omega)
  have e1 : N[k - 1]'(by omega) = tk N (k - 1) := by simp [tk, List.getD, show k - 1 < N.length by omega]
  have e2 : N[k] = tk N k := by simp [tk, List.getD, hk]
  rw [e1, e2, h] at h3
  cases h3⟩
/-- May a table of classes be? -/
def OkRg (r : Rg) : Prop := 0 ≤ r.lo ∧ r.lo ≤ r.hi ∧ r.hi ≤ 1114111 ∧ 1 ≤ r.cls ∧ r.cls ≤ 4
def MayTab (t : List Rg) : Prop := t.length ≤ 200 ∧ (∀ r ∈ t, OkRg r) ∧ t.Pairwise (fun a b => a.hi < b.lo)
structure TabTo (t : List Rg) (k : Nat) : Prop where
  ok : ∀ j, j < k → OkRg (rg t j)
  rise : ∀ j, j + 1 < k → (rg t j).hi < (rg t (j + 1)).lo
theorem TabTo.zero (t : List Rg) : TabTo t 0 := ⟨fun j h => by omega, fun j h => by omega⟩
theorem TabTo.next {t : List Rg} {k : Nat} (h : TabTo t k) (h1 : OkRg (rg t k)) (h2 : 0 < k → (rg t (k - 1)).hi < (rg t k).lo) : TabTo t (k + 1) := by
  refine ⟨fun j hj => ?_, fun j hj => ?_⟩
  · by_cases e : j = k
    · subst e; exact h1
    · exact h.ok j (by omega)
  · by_cases e : j + 1 = k
    · subst e; exact h2 (by omega)
    · exact h.rise j (by omega)
theorem TabTo.all {t : List Rg} {k : Nat} (h : TabTo t k) (hk : t.length = k) (h2 : t.length ≤ 200) : MayTab t := by
  refine ⟨h2, fun r hr => ?_, ?_⟩
  · obtain ⟨j, hj, rfl⟩ := List.getElem_of_mem hr
    rw [rg_get hj]; exact h.ok j (by omega)
  · rw [List.pairwise_iff_getElem]
    intro i j hi hj hij
    rw [rg_get hi, rg_get hj]
    have key : ∀ d, i + 1 + d < t.length → (rg t i).hi < (rg t (i + 1 + d)).lo := by
      intro d
      induction d with
      | zero => intro hd; exact h.rise i (by omega)
      | succ d ih =>
        intro hd
        have h3 := ih (by omega)
        have h4 := h.rise (i + 1 + d) (by omega)
        have h5 := (h.ok (i + 1 + d) (by omega)).2.1
        rw [show i + 1 + (d + 1) = i + 1 + d + 1 by omega]
        omega
    have := key (j - i - 1) (by omega)
    rwa [show i + 1 + (j - i - 1) = j by omega] at this
theorem notTab_ok {t : List Rg} {k : Nat} (hk : k < t.length) (h : ¬ OkRg (rg t k)) : (false = true ↔ MayTab t) := ⟨(fun h => by cases h), fun h2 => absurd (h2.2.1 _ (List.mem_of_getElem? (rg_eq hk))) h⟩
theorem notTab_rise {t : List Rg} {k : Nat} (h0 : 0 < k) (hk : k < t.length) (h : ¬ (rg t (k - 1)).hi < (rg t k).lo) : (false = true ↔ MayTab t) := ⟨(fun h => by cases h), fun h2 => by
  have h3 := (List.pairwise_iff_getElem.1 h2.2.2) (k - 1) k (by omega) hk (by omega)
  rw [rg_get (by omega), rg_get hk] at h3
  exact absurd h3 h⟩
theorem notTab_len {t : List Rg} (h : ¬ t.length ≤ 200) : (false = true ↔ MayTab t) := ⟨(fun h => by cases h), fun h2 => absurd h2.1 h⟩

/-- The error of a coder's kit; zero: there is a coder. -/
def OkKit (N : List ByteArray) (kind : Int) (t : List Rg) (room : Int) : Prop := MayNames N ∧ 0 ≤ kind ∧ kind ≤ 3 ∧ MayTab t ∧ 0 ≤ room ∧ room ≤ 1048576
/-- The marks: the numbers of the names' specials; -1. -/
def marksOf (S : List Sp) (N : List ByteArray) : List Int := N.map (fun s => idOf (spNamed S s))

end Go.Proofs.YtimkkkdabmhedaaGreatDoor

/- What the document says of tokens' symbols, in plain Lean. -/
namespace Go.Proofs.YtimkkkdabmhedaaGreatDoor
open Go
set_option linter.unusedVariables false

def bytesI (s : ByteArray) : List Int := s.data.toList.map (fun b => (b.toNat : Int))
theorem bytesI_len (s : ByteArray) : (bytesI s).length = s.size := by simp [bytesI]
end Go.Proofs.YtimkkkdabmhedaaGreatDoor

/- How bytes become tokens, in plain Lean: no program here. -/
namespace Go.Proofs.YtimkkkdabmhedaaGreatDoor
open Go
set_option linter.unusedVariables false

def findM (M : List Mg) (a b : Int) : Option Mg := M.find? (fun m => decide (m.left = a) && decide (m.right = b))
/-- The first place of the least order at which two tokens merge. -/
structure IsBest (M : List Mg) (row : List Int) (i : Nat) (m : Mg) : Prop where
  at_ : ∃ a b, row[i]? = some a ∧ row[i + 1]? = some b ∧ findM M a b = some m
  least : ∀ j a b m', row[j]? = some a → row[j + 1]? = some b → findM M a b = some m' → m.order < m'.order ∨ (m.order = m'.order ∧ i ≤ j)
def NoBest (M : List Mg) (row : List Int) : Prop := ∀ j a b, row[j]? = some a → row[j + 1]? = some b → findM M a b = none
theorem IsBest.uniq {M : List Mg} {row : List Int} {i j : Nat} {m n : Mg} (h : IsBest M row i m) (k : IsBest M row j n) : i = j ∧ m = n := by
  obtain ⟨a, b, h1, h2, h3⟩ := h.at_
  obtain ⟨c, d, k1, k2, k3⟩ := k.at_
  have e1 := h.least j c d n k1 k2 k3
  have e2 := k.least i a b m h1 h2 h3
  have e : i = j := by omega
  subst e
  rw [h1] at k1
  rw [h2] at k2
  simp only [Option.some.injEq] at k1 k2
  subst k1 k2
  rw [h3] at k3
  exact ⟨rfl, by simpa using k3⟩
theorem IsBest.not {M : List Mg} {row : List Int} {i : Nat} {m : Mg} (h : IsBest M row i m) (k : NoBest M row) : False := by
  obtain ⟨a, b, h1, h2, h3⟩ := h.at_
  rw [k i a b h1 h2] at h3
  cases h3
def mergeAt (row : List Int) (i : Nat) (o : Int) : List Int := row.take i ++ o :: row.drop (i + 2)
open Classical in
noncomputable def stepF (M : List Mg) (row : List Int) : Option (List Int) := if h : ∃ p : Nat × Mg, IsBest M row p.1 p.2 then some (mergeAt row h.choose.1 h.choose.2.out) else none
theorem stepF_some {M : List Mg} {row : List Int} {i : Nat} {m : Mg} (h : IsBest M row i m) : stepF M row = some (mergeAt row i m.out) := by
  have he : ∃ p : Nat × Mg, IsBest M row p.1 p.2 := ⟨(i, m), h⟩
  unfold stepF
  rw [dif_pos he]
  obtain ⟨e1, e2⟩ := he.choose_spec.uniq h
  rw [e1, e2]
theorem stepF_none {M : List Mg} {row : List Int} (h : NoBest M row) : stepF M row = none := by
  unfold stepF
  rw [dif_neg]
  rintro ⟨p, hp⟩
  exact hp.not h
theorem stepF_len {M : List Mg} {row r : List Int} (h : stepF M row = some r) : r.length + 1 = row.length := by
  unfold stepF at h
  split at h
  · next he =>
    simp only [Option.some.injEq] at h
    obtain ⟨a, b, h1, h2, h3⟩ := he.choose_spec.at_
    have := (List.getElem?_eq_some_iff.1 h2).1
    rw [← h]
    unfold mergeAt
    simp
    omega
  · cases h
noncomputable def runF (M : List Mg) : Nat → List Int → List Int
  | 0, r => r
  | k + 1, r => match stepF M r with
    | none => r
    | some r' => runF M k r'
theorem runF_end {M : List Mg} {r : List Int} (h : stepF M r = none) : ∀ k, runF M k r = r
  | 0 => rfl
  | k + 1 => by simp only [runF, h]
theorem runF_step {M : List Mg} {r r' : List Int} (h : stepF M r = some r') : runF M r.length r = runF M r'.length r' := by
  have hl := stepF_len h
  rw [← hl]
  simp only [runF, h]
/-- The tokens of bytes. -/
def rowOf (V : Vc) (b : List Int) : List Int := b.map (fun x => ofT V.tokens (one x.toNat))
theorem rowOf_len (V : Vc) (b : List Int) : (rowOf V b).length = b.length := by simp [rowOf]
noncomputable def encF (V : Vc) (b : List Int) : List Int := runF V.merges b.length (rowOf V b)
theorem encF_one (V : Vc) (x : Int) : encF V [x] = [ofT V.tokens (one x.toNat)] := by
  unfold encF
  exact runF_end (stepF_none fun j a b h1 h2 => by
    have := (List.getElem?_eq_some_iff.1 h2).1
    simp [rowOf] at this) _

/-- A chain: places and their tokens, by rising places. -/
abbrev Ch := List (Nat × Int)
def ChOK (C : Ch) : Prop := C.Pairwise (fun a b => a.1 < b.1)
/-- What waits: at each place that may merge with the next one, the order and the token. -/
def agF (M : List Mg) : Ch → Nat → Option (Int × Int)
  | (p, a) :: (q, b) :: l, x => if x = p then (findM M a b).map (fun m => (m.order, m.out)) else agF M ((q, b) :: l) x
  | _, _ => none
theorem agF_cons2 (M : List Mg) (p q : Nat) (a b : Int) (l : Ch) (x : Nat) : agF M ((p, a) :: (q, b) :: l) x = if x = p then (findM M a b).map (fun m => (m.order, m.out)) else agF M ((q, b) :: l) x := rfl
theorem agF_mem {M : List Mg} : ∀ {C : Ch} {x : Nat} {o}, agF M C x = some o → ∃ i a q b m, C[i]? = some (x, a) ∧ C[i + 1]? = some (q, b) ∧ findM M a b = some m ∧ o = (m.order, m.out)
  | [], x, o, h => by simp [agF] at h
  | [_], x, o, h => by simp [agF] at h
  | (p, a) :: (q, b) :: l, x, o, h => by
    rw [agF_cons2] at h
    split at h
    · next e =>
      subst e
      cases hf : findM M a b with
      | none => rw [hf] at h; simp at h
      | some m => rw [hf] at h; exact ⟨0, a, q, b, m, rfl, rfl, hf, by simpa using h.symm⟩
    · obtain ⟨i, a', q', b', m, h1, h2, h3, h4⟩ := agF_mem h
      exact ⟨i + 1, a', q', b', m, by simpa using h1, by simpa using h2, h3, h4⟩
theorem agF_at {M : List Mg} : ∀ {C : Ch}, ChOK C → ∀ {i p q : Nat} {a b : Int}, C[i]? = some (p, a) → C[i + 1]? = some (q, b) → agF M C p = (findM M a b).map (fun m => (m.order, m.out))
  | [], _, i, p, q, a, b, h, _ => by simp at h
  | [_], _, i, p, q, a, b, _, h => by simp at h
  | (p0, a0) :: (q0, b0) :: l, hc, i, p, q, a, b, h1, h2 => by
    rw [agF_cons2]
    cases i with
    | zero =>
      simp at h1 h2
      obtain ⟨rfl, rfl⟩ := h1
      obtain ⟨rfl, rfl⟩ := h2
      simp
    | succ i =>
      have hc' := List.pairwise_cons.1 hc
      have hm : (p, a) ∈ (q0, b0) :: l := List.mem_of_getElem? (by simpa using h1)
      have := hc'.1 _ hm
      simp only at this
      rw [if_neg (by omega)]
      exact agF_at hc'.2 (i := i) (by simpa using h1) (by simpa using h2)
theorem agF_no {M : List Mg} {C : Ch} {x : Nat} (h : ∀ c ∈ C, c.1 ≠ x) : agF M C x = none := by
  cases hf : agF M C x with
  | none => rfl
  | some o =>
    obtain ⟨i, a, q, b, m, h1, _⟩ := agF_mem hf
    exact absurd rfl (h _ (List.mem_of_getElem? h1))
theorem agF_last {M : List Mg} : ∀ {C : Ch}, ChOK C → ∀ {i p : Nat} {a : Int}, C[i]? = some (p, a) → C[i + 1]? = none → agF M C p = none := by
  intro C hc i p a h1 h2
  cases hf : agF M C p with
  | none => rfl
  | some o =>
    obtain ⟨j, a', q, b, m, k1, k2, _⟩ := agF_mem hf
    exfalso
    have hi := (List.getElem?_eq_some_iff.1 h1).1
    have hj := (List.getElem?_eq_some_iff.1 k1).1
    have hj2 := (List.getElem?_eq_some_iff.1 k2).1
    have hi2 : C.length ≤ i + 1 := by simpa using h2
    have hp := List.pairwise_iff_getElem.1 hc j i hj hi (by omega)
    rw [List.getElem?_eq_getElem hi] at h1
    rw [List.getElem?_eq_getElem hj] at k1
    simp only [Option.some.injEq] at h1 k1
    rw [h1, k1] at hp
    simp at hp

/-- The least of what waits is the best. -/
theorem agF_best {M : List Mg} {C : Ch} (hc : ChOK C) {p : Nat} {o d : Int} (h : agF M C p = some (o, d)) (hm : ∀ q o' d', agF M C q = some (o', d') → o < o' ∨ (o = o' ∧ p ≤ q)) :
    ∃ i a q b m, C[i]? = some (p, a) ∧ C[i + 1]? = some (q, b) ∧ findM M a b = some m ∧ m.order = o ∧ m.out = d ∧ IsBest M (C.map (·.2)) i m := by
  obtain ⟨i, a, q, b, m, h1, h2, h3, h4⟩ := agF_mem h
  simp only [Prod.mk.injEq] at h4
  refine ⟨i, a, q, b, m, h1, h2, h3, h4.1.symm, h4.2.symm, ⟨⟨a, b, by simp [h1], by simp [h2], h3⟩, fun j a' b' m' k1 k2 k3 => ?_⟩⟩
  simp only [List.getElem?_map, Option.map_eq_some_iff] at k1 k2
  obtain ⟨⟨pj, a1⟩, g1, rfl⟩ := k1
  obtain ⟨⟨qj, b1⟩, g2, rfl⟩ := k2
  have := hm pj m'.order m'.out (by rw [agF_at hc g1 g2]; simp only at k3; rw [k3]; rfl)
  rw [h4.1] at this
  rcases this with e | ⟨e1, e2⟩
  · exact .inl e
  · refine .inr ⟨e1, ?_⟩
    rcases Nat.lt_or_ge j i with hji | hji
    · exfalso
      have hj := (List.getElem?_eq_some_iff.1 g1).1
      have hi := (List.getElem?_eq_some_iff.1 h1).1
      have hp := List.pairwise_iff_getElem.1 hc j i hj hi hji
      rw [List.getElem?_eq_getElem hj] at g1
      rw [List.getElem?_eq_getElem hi] at h1
      simp only [Option.some.injEq] at g1 h1
      rw [g1, h1] at hp
      simp only at hp
      omega
    · exact hji
theorem agF_noBest {M : List Mg} {C : Ch} (hc : ChOK C) (h : ∀ p, agF M C p = none) : NoBest M (C.map (·.2)) := by
  intro j a b k1 k2
  simp only [List.getElem?_map, Option.map_eq_some_iff] at k1 k2
  obtain ⟨⟨pj, a1⟩, g1, rfl⟩ := k1
  obtain ⟨⟨qj, b1⟩, g2, rfl⟩ := k2
  have := h pj
  rw [agF_at hc g1 g2] at this
  simpa using this

theorem mergeC_ok {pre post : Ch} {p q : Nat} {a b o : Int} (h : ChOK (pre ++ (p, a) :: (q, b) :: post)) : ChOK (pre ++ (p, o) :: post) := by
  unfold ChOK at *
  rw [List.pairwise_append] at h ⊢
  obtain ⟨h1, h2, h3⟩ := h
  rw [List.pairwise_cons, List.pairwise_cons] at h2
  refine ⟨h1, List.pairwise_cons.2 ⟨fun c hc => h2.1 c (by simp [hc]), h2.2.2⟩, fun x hx y hy => ?_⟩
  rcases List.mem_cons.1 hy with rfl | hy
  · exact h3 x hx (p, a) (by simp)
  · exact h3 x hx y (by simp [hy])
theorem merge_map {pre post : Ch} {p q : Nat} {a b o : Int} : (pre ++ (p, o) :: post).map (·.2) = mergeAt ((pre ++ (p, a) :: (q, b) :: post).map (·.2)) pre.length o := by
  unfold mergeAt
  simp [List.drop_append]
/-- What waits behind it. -/
theorem agF_pre {M : List Mg} : ∀ {pre l l' : Ch} {x p : Nat} {a a' : Int}, ChOK (pre ++ (p, a) :: l) → (∀ c, pre.getLast? = some c → c.1 ≠ x) → (∃ c ∈ pre, c.1 = x) → agF M (pre ++ (p, a) :: l) x = agF M (pre ++ (p, a') :: l') x
  | [], l, l', x, p, a, a', _, _, h => by simp at h
  | [c], l, l', x, p, a, a', _, h1, h2 => by
    obtain ⟨d, hd, e⟩ := h2
    simp at hd
    subst hd
    exact absurd e (h1 _ rfl)
  | (r, u) :: (s, v) :: pre, l, l', x, p, a, a', hc, h1, h2 => by
    simp only [List.cons_append]
    rw [agF_cons2, agF_cons2]
    by_cases e : x = r
    · rw [if_pos e, if_pos e]
    · rw [if_neg e, if_neg e]
      have := agF_pre (M := M) (pre := (s, v) :: pre) (l := l) (l' := l') (x := x) (p := p) (a := a) (a' := a') (List.pairwise_cons.1 hc).2 (fun c h => h1 c (by simpa using h)) (by
        obtain ⟨d, hd, e2⟩ := h2
        rcases List.mem_cons.1 hd with rfl | h
        · exact absurd e2.symm e
        · exact ⟨d, h, e2⟩)
      simpa using this
theorem agF_skip {M : List Mg} : ∀ {pre l : Ch} {x : Nat}, (∀ c ∈ pre, c.1 ≠ x) → l ≠ [] → agF M (pre ++ l) x = agF M l x
  | [], l, x, _, _ => rfl
  | [(r, u)], (p, a) :: l, x, h, _ => by
    simp only [List.cons_append, List.nil_append]
    rw [agF_cons2, if_neg (fun e => h (r, u) (by simp) e.symm)]
  | (r, u) :: (s, v) :: pre, l, x, h, hl => by
    simp only [List.cons_append]
    rw [agF_cons2, if_neg (fun e => h (r, u) (by simp) e.symm)]
    have := agF_skip (M := M) (pre := (s, v) :: pre) (l := l) (x := x) (fun c hc => h c (by simp [hc])) hl
    simpa using this
  | [(r, u)], [], x, _, hl => absurd rfl hl

/-- The bytes' chain. -/
def chOf (row : List Int) : Ch := (List.range row.length).zip row
theorem chOf_at {row : List Int} {i : Nat} {a : Int} (h : row[i]? = some a) : (chOf row)[i]? = some (i, a) := by
  have hi := (List.getElem?_eq_some_iff.1 h).1
  unfold chOf
  rw [List.getElem?_zip_eq_some]
  exact ⟨by simp [hi], h⟩
theorem chOf_len (row : List Int) : (chOf row).length = row.length := by simp [chOf]
theorem chOf_map (row : List Int) : (chOf row).map (·.2) = row := by
  unfold chOf
  rw [List.map_snd_zip]
  simp
theorem chOf_ok (row : List Int) : ChOK (chOf row) := by
  unfold ChOK
  rw [List.pairwise_iff_getElem]
  intro i j hi hj hij
  simp only [chOf, List.getElem_zip, List.getElem_range]
  exact hij

end Go.Proofs.YtimkkkdabmhedaaGreatDoor

/- Plain law: the heap of entries (container/heap over queue's pile). No program here. -/
namespace Go.Proofs.YtimkkkdabmhedaaGreatDoor
open Go
set_option linter.unusedVariables false

/-- An entry that waits. -/
structure Ent where
  place : Int
  order : Int
  out : Int
deriving DecidableEq
instance : Inhabited Ent := ⟨⟨0, 0, 0⟩⟩
def Ent.less (a b : Ent) : Bool := decide (a.order < b.order) || (decide (a.order = b.order) && decide (a.place < b.place))
theorem Ent.less_iff {a b : Ent} : a.less b = true ↔ a.order < b.order ∨ (a.order = b.order ∧ a.place < b.place) := by
  simp [Ent.less]
theorem Ent.ge_trans {a b c : Ent} (h1 : ¬ a.less b = true) (h2 : ¬ b.less c = true) : ¬ a.less c = true := by
  rw [Ent.less_iff] at *
  omega
theorem Ent.less_asymm {a b : Ent} (h1 : a.less b = true) : ¬ b.less a = true := by
  rw [Ent.less_iff] at *
  omega
theorem Ent.not_self (a : Ent) : ¬ a.less a = true := by
  rw [Ent.less_iff]; omega

def en (L : List Ent) (i : Nat) : Ent := L.getD i default
theorem en_eq {L : List Ent} {i : Nat} (h : i < L.length) : L[i]? = some (en L i) := by simp [en, List.getD, h]
theorem en_get {L : List Ent} {i : Nat} (h : i < L.length) : L[i] = en L i := by simp [en, List.getD, h]
/-- Two change places. -/
def swp (L : List Ent) (i j : Nat) : List Ent := (L.set i (en L j)).set j (en L i)
theorem swp_len (L : List Ent) (i j : Nat) : (swp L i j).length = L.length := by simp [swp]
theorem en_set {L : List Ent} {i : Nat} {x : Ent} (k : Nat) (h : i < L.length) : en (L.set i x) k = if k = i then x else en L k := by
  unfold en
  simp only [List.getD, List.getElem?_set]
  by_cases hk : i = k
  · subst hk; simp [h]
  · rw [if_neg hk, if_neg (fun e => hk e.symm)]
theorem en_swp {L : List Ent} {i j : Nat} (k : Nat) (hi : i < L.length) (hj : j < L.length) : en (swp L i j) k = if k = j then en L i else if k = i then en L j else en L k := by
  unfold swp
  rw [en_set k (by simpa using hj), en_set k hi]

def par (i : Nat) : Nat := (i - 1) / 2
def Heap (L : List Ent) (n : Nat) : Prop := ∀ i, 0 < i → i < n → ¬ (en L i).less (en L (par i)) = true
/-- A heap but for j and what stands above it. -/
structure HeapU (L : List Ent) (n j : Nat) : Prop where
  ok : ∀ i, 0 < i → i < n → i ≠ j → ¬ (en L i).less (en L (par i)) = true
  kid : ∀ c, 0 < c → c < n → par c = j → 0 < j → ¬ (en L c).less (en L (par j)) = true
theorem up_stop {L : List Ent} {n j : Nat} (h : HeapU L n j) (hs : j = 0 ∨ ¬ (en L j).less (en L (par j)) = true) : Heap L n := fun i h0 hn => by
  by_cases e : i = j
  · subst e
    rcases hs with h1 | h1
    · omega
    · exact h1
  · exact h.ok i h0 hn e
theorem par_lt {i : Nat} (h : 0 < i) : par i < i := by unfold par; omega
theorem up_step {L : List Ent} {n j : Nat} (h : HeapU L n j) (h0 : 0 < j) (hj : j < n) (hl : n ≤ L.length) (hs : (en L j).less (en L (par j)) = true) : HeapU (swp L (par j) j) n (par j) := by
  have hp := par_lt h0
  have hE := fun k => en_swp (L := L) (i := par j) (j := j) k (by omega) (by omega)
  refine ⟨fun i i0 hi hne => ?_, fun c c0 hc hcp hp0 => ?_⟩
  · rw [hE i, hE (par i)]
    by_cases e1 : i = j
    · subst e1
      rw [if_pos rfl, if_neg (by omega), if_pos rfl]
      exact Ent.less_asymm hs
    · rw [if_neg e1, if_neg hne]
      by_cases e2 : par i = j
      · rw [if_pos e2]
        exact h.kid i i0 hi e2 h0
      · rw [if_neg e2]
        by_cases e3 : par i = par j
        · rw [if_pos e3]
          have h1 := h.ok i i0 hi e1
          rw [e3] at h1
          -- i is a child of par j beside j: it is no less than par j, and par j is no less than j
          exact Ent.ge_trans h1 (Ent.less_asymm hs)
        · rw [if_neg e3]
          exact h.ok i i0 hi e1
  · rw [hE c, hE (par (par j))]
    have hpp := par_lt hp0
    rw [if_neg (show par (par j) ≠ j by omega), if_neg (show par (par j) ≠ par j by omega)]
    have hq : ¬ (en L (par j)).less (en L (par (par j))) = true := h.ok (par j) hp0 (by omega) (by omega)
    by_cases e1 : c = j
    · rw [if_pos e1]; exact hq
    · have e2 : c ≠ par j := fun e => by have := par_lt c0; rw [hcp, e] at this; omega
      rw [if_neg e1, if_neg e2]
      have h1 := h.ok c c0 hc e1
      rw [hcp] at h1
      exact Ent.ge_trans h1 hq

/-- A heap but for i and what stands below it; g: what stands above it is well. -/
structure HeapD (L : List Ent) (n i : Nat) (g : Prop) : Prop where
  ok : ∀ k, 0 < k → k < n → par k ≠ i → (k = i → g) → ¬ (en L k).less (en L (par k)) = true
  kid : ∀ c, 0 < c → c < n → par c = i → 0 < i → ¬ (en L c).less (en L (par i)) = true
theorem down_stop {L : List Ent} {n i : Nat} {g : Prop} (h : HeapD L n i g) (hs : ∀ c, 0 < c → c < n → par c = i → ¬ (en L c).less (en L i) = true) : (g → Heap L n) ∧ HeapU L n i := by
  have key : ∀ k, 0 < k → k < n → (k = i → g) → ¬ (en L k).less (en L (par k)) = true := fun k k0 hk hg => by
    by_cases e : par k = i
    · have := hs k k0 hk e
      rw [e]; exact this
    · exact h.ok k k0 hk e hg
  exact ⟨fun hg k k0 hk => key k k0 hk (fun _ => hg), fun k k0 hk e => key k k0 hk (fun e2 => absurd e2 e), h.kid⟩
theorem down_step {L : List Ent} {n i j : Nat} {g : Prop} (h : HeapD L n i g) (hj : j < n) (hl : n ≤ L.length) (hj0 : 0 < j) (hp : par j = i) (hm : ∀ c, 0 < c → c < n → par c = i → ¬ (en L c).less (en L j) = true) (hs : (en L j).less (en L i) = true) : HeapD (swp L i j) n j True := by
  have hij : i < j := by have := par_lt hj0; omega
  have hE := fun k => en_swp (L := L) (i := i) (j := j) k (by omega) (by omega)
  refine ⟨fun k k0 hk hne _ => ?_, fun c c0 hc hcp _ => ?_⟩
  · rw [hE k, hE (par k), if_neg hne]
    have hpk := par_lt k0
    by_cases e1 : k = j
    · subst e1
      rw [if_pos rfl, if_pos hp]
      exact Ent.less_asymm hs
    · rw [if_neg e1]
      by_cases e2 : k = i
      · subst e2
        rw [if_pos rfl, if_neg (by omega)]
        exact h.kid j hj0 hj hp k0
      · rw [if_neg e2]
        by_cases e3 : par k = i
        · rw [if_pos e3]
          exact hm k k0 hk e3
        · rw [if_neg e3]
          exact h.ok k k0 hk e3 (fun e => absurd e e2)
  · have hcj : j < c := by have := par_lt c0; omega
    have e1 : en (swp L i j) c = en L c := by rw [hE c, if_neg (by omega), if_neg (by omega)]
    have e2 : en (swp L i j) (par j) = en L j := by rw [hE (par j), if_neg (by omega), if_pos hp]
    rw [e1, e2]
    have := h.ok c c0 hc (by rw [hcp]; omega) (fun e => by omega)
    rw [hcp] at this
    exact this

/-- One entry is another one's. -/
theorem heap_set {L : List Ent} {n i : Nat} {x : Ent} (h : Heap L n) (hi : i < n) (hl : n ≤ L.length) : HeapD (L.set i x) n i False := by
  have hE := fun k => en_set (L := L) (i := i) (x := x) k (by omega)
  refine ⟨fun k k0 hk hne hg => ?_, fun c c0 hc hcp hi0 => ?_⟩
  · rw [hE k, hE (par k), if_neg hne, if_neg (fun e => hg e)]
    exact h k k0 hk
  · have hci : c ≠ i := by have := par_lt c0; omega
    have hpi : par i ≠ i := by have := par_lt hi0; omega
    rw [hE c, hE (par i), if_neg hci, if_neg hpi]
    have h1 := h c c0 hc
    rw [hcp] at h1
    exact Ent.ge_trans h1 (h i hi0 hi)
/-- The last one comes into a place. -/
theorem heap_last {L : List Ent} {n i : Nat} (h : Heap L (n + 1)) (hi : i < n) (hl : n + 1 ≤ L.length) : HeapD (swp L i n) n i False := by
  have h2 : Heap L n := fun k k0 hk => h k k0 (by omega)
  have h3 := heap_set (x := en L n) h2 hi (by omega)
  have hE := fun k => en_set (L := L) (i := i) (x := en L n) k (by omega)
  have hS := fun k => en_swp (L := L) (i := i) (j := n) k (by omega) (by omega)
  have same : ∀ k, k < n → en (swp L i n) k = en (L.set i (en L n)) k := fun k hk => by
    rw [hS k, hE k, if_neg (by omega)]
  refine ⟨fun k k0 hk hne hg => ?_, fun c c0 hc hcp hi0 => ?_⟩
  · rw [same k hk, same (par k) (by have := par_lt k0; omega)]
    exact h3.ok k k0 hk hne hg
  · rw [same c hc, same (par i) (by have := par_lt hi0; omega)]
    exact h3.kid c c0 hc hcp hi0
theorem heap_push {L : List Ent} {x : Ent} (h : Heap L L.length) : HeapU (L ++ [x]) (L.length + 1) L.length := by
  have hE : ∀ k, k < L.length → en (L ++ [x]) k = en L k := fun k hk => by simp [en, List.getD, List.getElem?_append, hk]
  refine ⟨fun i i0 hi hne => ?_, fun c c0 hc hcp _ => ?_⟩
  · rw [hE i (by omega), hE (par i) (by have := par_lt i0; omega)]
    exact h i i0 (by omega)
  · have := par_lt c0; unfold par at *; omega
theorem Heap.min {L : List Ent} {n : Nat} (h : Heap L n) : ∀ i, i < n → ¬ (en L i).less (en L 0) = true := by
  intro i
  induction i using Nat.strongRecOn with
  | _ i ih =>
    intro hi
    rcases Nat.eq_zero_or_pos i with h0 | h0
    · subst h0; exact Ent.not_self _
    · have hp := par_lt h0
      exact Ent.ge_trans (h i h0 hi) (ih (par i) hp (by omega))
theorem Heap.zero (L : List Ent) : Heap L 0 := fun i _ h => by omega
theorem Heap.less {L : List Ent} {n m : Nat} (h : Heap L n) (hm : m ≤ n) : Heap L m := fun i i0 hi => h i i0 (by omega)

/-- Places are told once. -/
def Once (L : List Ent) : Prop := ∀ i j, i < L.length → j < L.length → (en L i).place = (en L j).place → i = j
/-- What waits at a place. -/
def agL (L : List Ent) (p : Int) : Option (Int × Int) := (L.find? (fun e => decide (e.place = p))).map (fun e => (e.order, e.out))
theorem agL_some {L : List Ent} (h : Once L) {p o d : Int} : agL L p = some (o, d) ↔ ∃ i, i < L.length ∧ en L i = ⟨p, o, d⟩ := by
  unfold agL
  rw [Option.map_eq_some_iff]
  constructor
  · rintro ⟨e, he, h1⟩
    obtain ⟨h2, i, hi, h3, _⟩ := List.find?_eq_some_iff_getElem.1 he
    refine ⟨i, hi, ?_⟩
    rw [← en_get hi, h3]
    obtain ⟨a, b, c⟩ := e
    simp at h2 h1
    rw [h2, h1.1, h1.2]
  · rintro ⟨i, hi, h1⟩
    refine ⟨⟨p, o, d⟩, List.find?_eq_some_iff_getElem.2 ⟨by simp, i, hi, by rw [en_get hi, h1], fun j hj => ?_⟩, rfl⟩
    rw [en_get (by omega)]
    simp only [Bool.not_eq_true', decide_eq_false_iff_not]
    intro e
    have := h j i (by omega) hi (by rw [h1]; exact e)
    omega
theorem agL_none {L : List Ent} {p : Int} : agL L p = none ↔ ∀ i, i < L.length → (en L i).place ≠ p := by
  unfold agL
  rw [Option.map_eq_none_iff, List.find?_eq_none]
  constructor
  · intro h i hi e
    have := h (en L i) (List.mem_of_getElem? (en_eq hi))
    simp at this
    exact this e
  · intro h x hx
    obtain ⟨i, hi, rfl⟩ := List.getElem_of_mem hx
    rw [en_get hi]
    simpa using h i hi
/-- The place of a place's entry. -/
def atL (L : List Ent) (p : Int) : Option Int := (L.findIdx? (fun e => decide (e.place = p))).map (fun (i : Nat) => (i : Int))
theorem atL_some {L : List Ent} (h : Once L) {p : Int} {i : Nat} : atL L p = some (i : Int) ↔ i < L.length ∧ (en L i).place = p := by
  unfold atL
  rw [Option.map_eq_some_iff]
  constructor
  · rintro ⟨k, hk, e⟩
    obtain rfl : k = i := by omega
    obtain ⟨h1, h2, _⟩ := List.findIdx?_eq_some_iff_getElem.1 hk
    rw [en_get h1] at h2
    exact ⟨h1, by simpa using h2⟩
  · rintro ⟨h1, h2⟩
    refine ⟨i, List.findIdx?_eq_some_iff_getElem.2 ⟨h1, by rw [en_get h1]; simpa using h2, fun j hj => ?_⟩, rfl⟩
    rw [en_get (by omega)]
    simp only [decide_eq_true_eq]
    intro e
    have := h j i (by omega) h1 (by rw [h2]; exact e)
    omega
theorem atL_none {L : List Ent} {p : Int} : atL L p = none ↔ ∀ i, i < L.length → (en L i).place ≠ p := by
  unfold atL
  rw [Option.map_eq_none_iff, List.findIdx?_eq_none_iff]
  constructor
  · intro h i hi e
    have := h (en L i) (List.mem_of_getElem? (en_eq hi))
    simp at this
    exact this e
  · intro h x hx
    obtain ⟨i, hi, rfl⟩ := List.getElem_of_mem hx
    rw [en_get hi]
    simpa using h i hi

end Go.Proofs.YtimkkkdabmhedaaGreatDoor

/- A map to ints: what 'm[a], m[b] = x, y' does where both keys are there; and 'delete'. Plain lemmas. -/
namespace Go.Proofs.YtimkkkdabmhedaaGreatDoor
open Go.RowKit Go.Maps Go.ChangeMaps Go.WideMaps
set_option linter.unusedVariables false
set_option linter.unusedSimpArgs false

section
variable {P : Program} {k t e : TypeId} {α : Type} {V : KeyView P k α}

/-- .. and each key that is there has its stamp. -/
def MapKS (V : KeyView P k α) (e : TypeId) (w : World) (mb sz : Nat) (f : α → Option Int) (st : α → Nat) : Prop :=
  ∃ es clock, w.heap[mb]? = some (.map es clock) ∧ MapK V e w mb sz f ∧ ∀ s, V.ok s → (f s).isSome = true → ∃ x ∈ es.toList, x.key = V.val s ∧ st s = x.born

theorem MapKS.rep {w : World} {mb sz : Nat} {f : α → Option Int} {st : α → Nat} (h : MapKS V e w mb sz f st) : MapK V e w mb sz f := let ⟨_, _, _, h1, _⟩ := h; h1

theorem MapK.stamped (ht : P.underlying t = some (.map k e)) (he : P.underlying e = some (.int .i64)) (hz : ∀ w : World, (zeroValue e).run P w = .ok (.int .i64 0) w) {w : World} {mb sz : Nat} {f : α → Option Int} (h : MapK V e w mb sz f) : ∃ st, MapKS V e w mb sz f st := by
  have hm := h
  obtain ⟨D, h1, h2, h3, h4⟩ := h
  have h1' := h1
  obtain ⟨es, clock, hb, F, hsz, hD⟩ := h1
  have key : ∀ s, V.ok s → (f s).isSome = true → ∃ x ∈ es.toList, x.key = V.val s := fun s hs hf => by
    rcases V.keyed.find w (V.key s hs) es.toList F.keys with ⟨hn, _⟩ | ⟨j, e0, h5, h6, h7⟩
    · obtain ⟨v, ps, hrun, _⟩ := h1'.look_ok V.keyed ht (hz w) (plainElem_int he (by decide)) (V.key s hs)
      rw [(h4 s hs).1, hf] at hrun
      simp [Instr.lookup, run_underlying ht, MapKept.run_getObj_map hb, V.keyed.check w _ (V.key s hs), hn, hz w, Result.andThen] at hrun
    · exact ⟨e0, List.mem_of_getElem? (show es.toList[j]? = some e0 from h6), h7⟩
  refine ⟨fun s => open Classical in if h : ∃ x ∈ es.toList, x.key = V.val s then h.choose.born else 0, es, clock, hb, hm, fun s hs hf => ?_⟩
  have h8 := key s hs hf
  refine ⟨h8.choose, h8.choose_spec.1, h8.choose_spec.2, ?_⟩
  simp only [dif_pos h8]

theorem MapKS.find {w : World} {mb sz : Nat} {f : α → Option Int} {es : Array MapEntry} {clock : Nat} (hb : w.heap[mb]? = some (.map es clock)) (h : MapK V e w mb sz f) {s : α} (hs : V.ok s) {x : MapEntry} (hxm : x ∈ es.toList) (hxk : x.key = V.val s) :
    (es.toList.map (·.born)).Nodup ∧ ∃ j, es[j]? = some x ∧ ∀ W : World, (Instr.findKey k (V.val s) es.toList).run P W = .ok (some (j, x.val)) W := by
  obtain ⟨D, ⟨es', clock', hb', F, hsz, hD⟩, _⟩ := h
  rw [hb] at hb'
  cases hb'
  obtain ⟨j, hj⟩ : ∃ j, es[j]? = some x := by
    obtain ⟨j, hj, rfl⟩ := List.getElem_of_mem hxm
    exact ⟨j, by simp at hj; exact Array.getElem?_eq_getElem hj⟩
  have hjl := (Array.getElem?_eq_some_iff.1 hj).1
  have hnd := F.stamped.2.2
  refine ⟨F.stamped.2.1, j, hj, fun W => ?_⟩
  rcases V.keyed.find W (V.key s hs) es.toList F.keys with ⟨_, h2⟩ | ⟨j', e0, h1, h2, h3⟩
  · exact absurd hxk (h2 x hxm)
  · have hjj : j' = j := by
      have hj' : es[j']? = some e0 := by simpa using h2
      have hjl' := (Array.getElem?_eq_some_iff.1 hj').1
      rcases Nat.lt_trichotomy j' j with h4 | h4 | h4
      · have := (List.pairwise_iff_getElem.1 hnd) j' j (by simpa using hjl') (by simpa using hjl) h4
        simp only [List.getElem_map, Array.getElem_toList] at this
        rw [(Array.getElem?_eq_some_iff.1 hj).2, (Array.getElem?_eq_some_iff.1 hj').2, hxk, h3] at this
        exact absurd rfl this
      · exact h4
      · have := (List.pairwise_iff_getElem.1 hnd) j j' (by simpa using hjl) (by simpa using hjl') h4
        simp only [List.getElem_map, Array.getElem_toList] at this
        rw [(Array.getElem?_eq_some_iff.1 hj).2, (Array.getElem?_eq_some_iff.1 hj').2, hxk, h3] at this
        exact absurd rfl this
    subst hjj
    have hj' : es[j']? = some e0 := by simpa using h2
    rw [hj] at hj'
    cases hj'
    exact h1

theorem setBlock_same {W : World} {mb : Nat} {o : Obj} (h : W.heap[mb]? = some o) : ChangeMaps.setBlock W mb o = W := by
  have e : W.heap.setIfInBounds mb o = W.heap := by
    apply Array.ext_getElem?
    intro i
    rw [Array.getElem?_setIfInBounds]
    split
    · rename_i h1
      subst h1
      rw [if_pos (Array.getElem?_eq_some_iff.1 h).1, h]
    · rfl
  unfold ChangeMaps.setBlock
  rw [e]

/-- 'mapEntry' at a key that is there. -/
theorem MapKS.entry (ht : P.underlying t = some (.map k e)) (he : P.underlying e = some (.int .i64)) (hz : ∀ w : World, (zeroValue e).run P w = .ok (.int .i64 0) w) {w : World} {mb sz : Nat} {f : α → Option Int} {st : α → Nat} (h : MapKS V e w mb sz f st) {s : α} (hs : V.ok s) {c : Int} (hf : f s = some c) :
    (Instr.mapEntry t (.map (some mb)) (V.val s)).run P w = .ok (.tuple #[.int .i64 c, goInt (st s)]) w := by
  obtain ⟨es, clock, hb, hm, hst⟩ := h
  obtain ⟨x, hxm, hxk, hxs⟩ := hst s hs (by rw [hf]; rfl)
  obtain ⟨hnd, j, hj, hfind⟩ := MapKS.find hb hm hs hxm hxk
  have hjl := (Array.getElem?_eq_some_iff.1 hj).1
  have hkey := V.key s hs
  have hmod : es.modify j (fun e => { e with key := V.val s }) = es := by
    apply Array.ext
    · simp
    · intro i h1 h2
      rw [Array.getElem_modify]
      split
      · subst i
        have : es[j] = x := (Array.getElem?_eq_some_iff.1 hj).2
        rw [this, ← hxk]
      · rfl
  have hstay : ∀ W : World, (Instr.keyThatStays x.key (V.val s)).run P W = .ok (V.val s) W := fun W => by
    rw [hxk]
    exact V.keyed.stays W hkey
  have hg := MapK.get (s := s) ht he hz hm hs
  have hv : x.val = .int .i64 c := by
    rw [hf] at hg
    simp [Instr.lookup, run_underlying ht, MapKept.run_getObj_map hb, V.keyed.check w _ hkey, hfind, Result.andThen] at hg
    exact hg
  have hsame : ({ w with heap := w.heap.setIfInBounds mb (.map es clock) } : World) = w := setBlock_same hb
  simp [Instr.mapEntry, run_underlying ht, MapKept.run_getObj_map hb, V.keyed.check w false hkey, hfind w, hstay w, hmod, MapKept.run_setObj_map _ hb, Result.andThen, hj, hsame, hv, hxs, ChangeMaps.setBlock]

/-- 'entryStore' there. -/
theorem MapKS.store [DecidableEq α] (ht : P.underlying t = some (.map k e)) (he : P.underlying e = some (.int .i64)) {w : World} {mb sz : Nat} {f : α → Option Int} {st : α → Nat} (h : MapKS V e w mb sz f st) {s : α} (hs : V.ok s) (hf : (f s).isSome = true) {c : Int} (hc : (Lit.int .i64 c).wf = true) (hn : sz < maxLen) :
    ∃ o, (Instr.entryStore t (.map (some mb)) (goInt (st s)) (.int .i64 c)).run P w = .ok () (ChangeMaps.setBlock w mb o) ∧ MapKS V e (ChangeMaps.setBlock w mb o) mb sz (fun t => if t = s then some c else f t) st := by
  obtain ⟨es, clock, hb, hm, hst⟩ := h
  obtain ⟨x, hxm, hxk, hxs⟩ := hst s hs hf
  obtain ⟨hnd, j, hj, hfind⟩ := MapKS.find hb hm hs hxm hxk
  have hjl := (Array.getElem?_eq_some_iff.1 hj).1
  have hkey := V.key s hs
  have hstay : ∀ W : World, (Instr.keyThatStays x.key (V.val s)).run P W = .ok (V.val s) W := fun W => by
    rw [hxk]
    exact V.keyed.stays W hkey
  have hmod2 : (es.modify j fun e => { e with key := V.val s, val := .int .i64 c }) = es.modify j (fun e => { e with val := .int .i64 c }) := by
    apply Array.ext
    · simp
    · intro i h1 h2
      rw [Array.getElem_modify, Array.getElem_modify]
      split
      · subst i
        have : es[j] = x := (Array.getElem?_eq_some_iff.1 hj).2
        rw [this, ← hxk]
      · rfl
  obtain ⟨w', hrun, hm', hg'⟩ := MapK.update (s := s) ht he hm hs hc hn
  have hrun2 : (Instr.mapUpdate t (.map (some mb)) (V.val s) (.int .i64 c)).run P w = .ok () (ChangeMaps.setBlock w mb (.map (es.modify j (fun e => { e with val := .int .i64 c })) clock)) := by
    simp [Instr.mapUpdate, run_underlying ht, MapKept.run_getObj_map hb, V.keyed.check w false hkey, hfind w, hj, hstay w, hmod2, MapKept.run_setObj_map _ hb, Result.andThen, ChangeMaps.setBlock]
  rw [hrun] at hrun2
  have hw' : w' = _ := (Result.ok.inj hrun2).2
  subst hw'
  refine ⟨.map (es.modify j (fun e => { e with val := .int .i64 c })) clock, ?_, _, _, heap_setBlock_same hb _, by rw [hf] at hm'; exact hm', fun s' hs' hf' => ?_⟩
  · rw [hxs]
    simp [Instr.entryStore, MapKept.run_getObj_map hb, MapKept.run_setObj_map _ hb, Result.andThen, ChangeMaps.setBlock, goInt, asInt, asIntOf, findIdx_nodup hnd hj]
  · have hf2 : (f s').isSome = true := by
      by_cases e1 : s' = s
      · subst e1; exact hf
      · simpa [e1] using hf'
    obtain ⟨x', hxm', hxk', hxs'⟩ := hst s' hs' hf2
    obtain ⟨i, hi, rfl⟩ := List.getElem_of_mem hxm'
    simp only [Array.length_toList] at hi
    refine ⟨(es.modify j (fun e => { e with val := .int .i64 c }))[i]'(by simpa using hi), Array.getElem_mem_toList _, ?_, ?_⟩
    · rw [Array.getElem_modify]
      split <;> simpa using hxk'
    · rw [Array.getElem_modify]
      split <;> simpa using hxs'

/-- 'delete(m, k)', run. -/
theorem MapK.del [DecidableEq α] (ht : P.underlying t = some (.map k e)) {w : World} {mb sz : Nat} {f : α → Option Int} (h : MapK V e w mb sz f) {s : α} (hs : V.ok s) (ty : TypeId) :
    ∃ w', (Builtin.delete_ #[t, k] ty #[.map (some mb), V.val s]).run P w = .ok (.tuple #[]) w' ∧ MapK V e w' mb (if (f s).isSome then sz - 1 else sz) (fun t => if t = s then none else f t) ∧ w.mapTurned w' mb := by
  obtain ⟨D, h1, h2, h3, h4⟩ := h
  obtain ⟨w', hrun, hown, hturn⟩ := h1.drop V.keyed ht (V.key s hs) ty
  have e1 : size (D.del (V.lit s)) = if (f s).isSome then sz - 1 else sz := by
    have := size_del (k := V.lit s) h2
    rw [(h4 s hs).1, h3] at this
    split at this <;> simp_all <;> omega
  refine ⟨w', hrun, ⟨D.del (V.lit s), ?_, h2.del _, e1, fun t ht' => ?_⟩, hturn⟩
  · have := ownsMapK_size hown
    rw [e1] at this
    exact this
  · by_cases e2 : t = s
    · subst e2
      simp only [if_true, Option.isSome_none]
      exact ⟨has_del_same, fun c' hc' => by cases hc'⟩
    · have hne : V.lit t ≠ V.lit s := fun h => e2 (V.inj t s ht' hs h)
      simp only [e2, if_false]
      rw [has_del_other hne]
      exact ⟨(h4 t ht').1, fun c' hc' => by rw [atKey_del_other hne]; exact (h4 t ht').2 c' hc'⟩

/-- 'v, ok := m[k]', run. -/
theorem MapK.getOk (ht : P.underlying t = some (.map k e)) (he : P.underlying e = some (.int .i64)) (hz : ∀ w : World, (zeroValue e).run P w = .ok (.int .i64 0) w) {w : World} {mb sz : Nat} {f : α → Option Int} (h : MapK V e w mb sz f)
    {s : α} (hs : V.ok s) : (Instr.lookup t (.map (some mb)) (V.val s) true).run P w = .ok (.tuple #[.int .i64 ((f s).getD 0), .bool (f s).isSome]) w := by
  obtain ⟨D, h1, h2, h3, h4⟩ := h
  obtain ⟨v, ps, hrun, hv⟩ := h1.look_ok V.keyed ht (hz w) (plainElem_int he (by decide)) (V.key s hs)
  obtain ⟨c, rfl, hc, _⟩ := plainElem_int_inv he hv
  have hat := congrArg Prod.fst hc
  have hh := h4 s hs
  rw [hh.1] at hrun
  have hcc : c = (f s).getD 0 := by
    cases hf : f s with
    | none =>
      rw [hf] at hh
      rw [atKey_of_not_has (by simpa using hh.1)] at hat
      simpa using hat.symm
    | some c' =>
      have := hh.2 c' hf
      rw [this] at hat
      simpa using hat.symm
  rw [← hcc]
  exact hrun

end
end Go.Proofs.YtimkkkdabmhedaaGreatDoor

/- Small words on vocabularies' boxes and rows; values of what makes a vocabulary of rows. Walks nothing. -/
namespace Go.Proofs.YtimkkkdabmhedaaGreatDoor
open Go.RowKit
set_option linter.unusedVariables false

theorem infoStr9 : (Tryz.prog.info? 9).map (fun i => (i.zero, i.size, i.bytes)) = some (some (.string ByteArray.empty), 1, 16) := by kernel_rfl
theorem infoInt3 : (Tryz.prog.info? 3).map (fun i => (i.zero, i.size, i.bytes)) = some (some (.int .i64 0), 1, 8) := by kernel_rfl
abbrev OwnT (w : World) (base : Nat) (v : Value) (T : List ByteArray) : Prop := w.ownsRow base 9 1 v T.length (T.map .string)
theorem run_makeN {P : Program} (t e : TypeId) (i : TypeInfo) (z : Value) (ht : P.underlying t = some (.slice e)) (hi : P.info? e = some i) (hz : i.zero = some z) (hs : i.size = 1)
    (n : Nat) (hbytes : i.bytes * n ≤ 281474976710656) (h63 : n ≤ 9223372036854775807) (w : World) :
    (Instr.makeSlice t (.int .i64 (n : Int)) (.int .i64 (n : Int))).run P w = .ok (.slice (some ⟨w.heap.size, 0, none⟩) n n) (w.alloc (.cells (madeCells z.cells n) e)) := by
  have hb : (i.bytes : Int) * (n : Int) ≤ 281474976710656 := by
    have h : ((i.bytes * n : Nat) : Int) ≤ 281474976710656 := by omega
    rwa [Int.natCast_mul] at h
  have hr := run_make (P := P) w t e i z ht hi hz .i64 .i64 n n (by omega) (by omega) hb (by omega)
  simp only [Int.toNat_natCast, hs, Nat.mul_one] at hr
  exact hr
theorem ownT_made (w : World) (n : Nat) (hm : n ≤ maxLen) : OwnT (w.alloc (.cells (madeCells (Value.string ByteArray.empty).cells n) 9)) w.heap.size (.slice (some ⟨w.heap.size, 0, none⟩) n n) (List.replicate n ByteArray.empty) := by
  have e : (madeCells (Value.string ByteArray.empty).cells n) = (List.replicate n (Value.string ByteArray.empty)).toArray := by
    apply Array.ext'
    exact toList_madeCells_one _ n
  rw [e]
  refine ⟨by simp, .inr ⟨w.heap.size, n, _, by simp, Nat.le_refl _, heap_alloc_new w _, by simp, hm, by simp, ?_⟩⟩
  simp
theorem OwnT.mono {w : World} {base base' : Nat} {v : Value} {L : List ByteArray} (h : OwnT w base v L) (hb : base' ≤ base) : OwnT w base' v L := by
  obtain ⟨h1, h2⟩ := h
  refine ⟨h1, ?_⟩
  rcases h2 with h2 | ⟨g, cap, cur, hv, hg, r⟩
  · exact .inl h2
  · exact .inr ⟨g, cap, cur, hv, by omega, r⟩
theorem OwnT.below {w w' : World} {base : Nat} {v : Value} {L : List ByteArray} (h : OwnT w base v L) (hb : Below w.heap.size w w') : OwnT w' base v L :=
  own_stay h fun g hg => hb.block g (World.ownsRow.lt h g hg).2
theorem Mg.enc_one (x : Mg) : ∀ v ∈ x.enc, v.oneCell' = true := by
  intro v hv
  simp [Mg.enc] at hv
  rcases hv with rfl | rfl | rfl | rfl <;> rfl
theorem Sp.enc_one (x : Sp) : ∀ v ∈ x.enc, v.oneCell' = true := by
  intro v hv
  simp [Sp.enc] at hv
  rcases hv with rfl | rfl <;> rfl
theorem infoSp : (Tryz.prog.info? 58).map (fun i => (i.zero.map (·.cells.size), i.size, i.bytes)) = some (some 2, 2, 24) := by kernel_rfl
theorem infoMg : (Tryz.prog.info? 165).map (fun i => (i.zero.map (·.cells.size), i.size, i.bytes)) = some (some 4, 4, 32) := by kernel_rfl
theorem info_row {t : TypeId} {k m b : Nat} (h : (Tryz.prog.info? t).map (fun i => (i.zero.map (·.cells.size), i.size, i.bytes)) = some (some k, m, b)) : ∃ i z, Tryz.prog.info? t = some i ∧ i.zero = some z ∧ i.size = m ∧ i.bytes = b ∧ z.cells.size = k := by
  cases hi : Tryz.prog.info? t with
  | none => rw [hi] at h; cases h
  | some i =>
    rw [hi] at h
    simp only [Option.map_some, Option.some.injEq, Prod.mk.injEq] at h
    obtain ⟨h1, h2, h3⟩ := h
    cases hz : i.zero with
    | none => rw [hz] at h1; cases h1
    | some z => rw [hz] at h1; exact ⟨i, z, rfl, hz, h2, h3, by simpa using h1⟩
theorem ownF_slice {α : Type} {enc : α → List Value} {s : Nat} {t : TypeId} {w : World} {base n cap : Nat} {ao : Option Addr} {L : List α} (h : OwnF enc s t w base (.slice ao n cap) L) : SlF s w ao n cap (flat enc L) := by
  obtain ⟨a, c, e, hs⟩ := h.sl
  simp only [Value.slice.injEq] at e
  obtain ⟨rfl, h1, rfl⟩ := e
  rw [h1]; exact hs
theorem boxf {w : World} {g : Nat} {x y z : Value} {t : TypeId} (h : w.heap[g]? = some (.cells #[x, y, z] t)) : (∀ o, w.frozen? ⟨g, o, none⟩ = false) := by
  intro o
  simp [World.frozen?, h]
theorem heap_set3 (w : World) (g : Nat) (x y z : Value) {q : Nat} (h : q ≠ g) : (((w.setCell ⟨g, 0, none⟩ x).setCell ⟨g, 1, none⟩ y).setCell ⟨g, 2, none⟩ z).heap[q]? = w.heap[q]? := by
  simp [World.setCell, Array.getElem?_modify, Ne.symm h]
def noVd : Vd := ⟨none, 0, 0, none, 0, 0, none, 0, 0⟩
theorem ownT_slice {w : World} {base : Nat} {v : Value} {T : List ByteArray} (h : OwnT w base v T) : ∃ ao cap, v = .slice ao T.length cap ∧ SlS w ao T.length cap T := Sl.of_own h
def GoodVoc (R : List Rw) (S : List Sp) : Prop := OkRows R S ∧ May (vocOf R S)
end Go.Proofs.YtimkkkdabmhedaaGreatDoor

/- Walk: the document's put: one more merge in a sorted row. -/
namespace Go.Proofs.YtimkkkdabmhedaaGreatDoor
open Go.RowKit Go.Sort
set_option linter.unusedVariables false

theorem flat_take {α : Type} {enc : α → List Value} {s : Nat} (hs : ∀ x, (enc x).length = s) : ∀ (L : List α) (k : Nat), flat enc (L.take k) = (flat enc L).take (k * s)
  | [], k => by simp [flat]
  | y :: L, 0 => by simp [flat]
  | y :: L, k + 1 => by
    rw [flat_cons, List.take_succ_cons, flat_cons, flat_take hs L k]
    have e : (k + 1) * s = (enc y).length + k * s := by rw [hs, Nat.add_mul]; omega
    rw [e, List.take_length_add_append]
theorem SlF.take {s : Nat} {w : World} {ao : Option Addr} {n cap : Nat} {xs : List Value} (h : SlF s w ao n cap xs) {k : Nat} (hk : k ≤ n) : SlF s w ao k cap (xs.take (k * s)) := by
  have hl := h.len
  refine ⟨by rw [List.length_take, hl]; exact Nat.min_eq_left (Nat.mul_le_mul_right s hk), by have := h.le; omega, h.max, h.nil, fun i u hu => ?_⟩
  rw [List.getElem?_take] at hu
  split at hu
  · exact h.at_ i u hu
  · cases hu
/-- 'x[:k]'. -/
theorem wpList_flat_high {α : Type} {enc : α → List Value} {s : Nat} {e : TypeId} {P : Program} {w : World} {ops : Array Oper} {rest : List Oper} {o : Oper} {a : Act} {Q : Exit → Act → World → Prop} (hgd : o.guard = .none) (t : TypeId) (x l : Operand)
    (ho : o.op = .slice t x .none (some l) .none) (i : TypeInfo) (ht : P.underlying t = some (.slice e)) (hi : P.info? e = some i) (hs : ∀ x, (enc x).length = s)
    {ao : Option Addr} {n cap : Nat} {L : List α} (hx : a.eval x = .slice ao n cap) (hS : SlF s w ao n cap (flat enc L)) {kl : IntKind} {K : Int} {k : Nat} (hl : a.eval l = .int kl K) (hL : K = (k : Int)) (hk : k ≤ n)
    (h : SlF s w ao k cap (flat enc (L.take k)) → wpList P ops Q rest (a.put o.dst (.slice ao k cap)) w) : wpList P ops Q (o :: rest) a w := by
  subst hL
  have hle := hS.le
  refine wpList_val hgd (v := .slice ao k cap) (w' := w) ?_ (h (by rw [flat_take hs]; exact hS.take hk))
  have hr := run_sliceAt_lh ht hi w ao n cap .none (some (.int kl k)) 0 k (fun w => by simp [Instr.sliceBounds, run_sliceBound, Nat.le_trans hk hle])
  simp only [execOp, ho, hx, hl, Option.map_some, Option.map_none, Sem.run_bind, hr, Result.andThen_ok, Sem.run_pure, Nat.zero_mul]
  congr 3
  cases ao <;> simp [Addr.add]

set_option maxHeartbeats 1000000 in
theorem ahead_g (a b : Mg) (w : World) :
    Calls Tryz.prog 115 #[.agg #[.int .i64 a.left, .int .i64 a.right, .int .i64 a.out, .int .i64 a.order], .agg #[.int .i64 b.left, .int .i64 b.right, .int .i64 b.out, .int .i64 b.order]] w
      fun e w' => e = .returned (.bool (ahead a b)) ∧ ∃ q os, w' = grow (w.drewN q) os := by
  obtain ⟨w1, hw1⟩ : ∃ w1, w.alloc (.cells #[.int .i64 a.left, .int .i64 a.right, .int .i64 a.out, .int .i64 a.order] 165) = w1 := ⟨_, rfl⟩
  obtain ⟨w2, hw2⟩ : ∃ w2, w1.alloc (.cells #[.int .i64 b.left, .int .i64 b.right, .int .i64 b.out, .int .i64 b.order] 165) = w2 := ⟨_, rfl⟩
  have hb1 : Below w.heap.size w w1 := hw1 ▸ below_alloc w _
  have hb2 : Below w1.heap.size w1 w2 := hw2 ▸ below_alloc w1 _
  have hs1 : w1.heap.size = w.heap.size + 1 := by rw [← hw1]; simp
  have ha1 : w1.heap[w.heap.size]? = some (.cells #[.int .i64 a.left, .int .i64 a.right, .int .i64 a.out, .int .i64 a.order] 165) := by rw [← hw1]; exact heap_alloc_new w _
  have ha2 := (hb2.block w.heap.size (by omega)).trans ha1
  have hbb : w2.heap[w1.heap.size]? = some (.cells #[.int .i64 b.left, .int .i64 b.right, .int .i64 b.out, .int .i64 b.order] 165) := by rw [← hw2]; exact heap_alloc_new w1 _
  obtain ⟨a0, a1, _, a3⟩ := box4 ha2
  obtain ⟨b0, b1, _, b3⟩ := box4 hbb
  have HG : Hid (∃ q os, w2 = grow (w.drewN q) os) := Lib.hid ⟨0, #[.cells #[.int .i64 a.left, .int .i64 a.right, .int .i64 a.out, .int .i64 a.order] 165, .cells #[.int .i64 b.left, .int .i64 b.right, .int .i64 b.out, .int .i64 b.order] 165], by
    rw [← hw2, ← hw1, alloc_eq_grow, alloc_eq_grow, grow_grow]; rfl⟩
  have H1 := Lib.hid hw1
  have H2 := Lib.hid hw2
  have hq : ahead a b = decide (a.order < b.order ∨ (a.order = b.order ∧ (a.left < b.left ∨ (a.left = b.left ∧ a.right < b.right)))) := rfl
  have HQ := Lib.hid hq
  rw [hs1] at b0 b1 b3
  clear hb1 hb2 hs1 ha1 ha2 hbb hw1 hw2 hq
  by_cases ho : a.order = b.order
  · have n1 : (a.order != b.order) = false := by simpa using ho
    by_cases hl : a.left = b.left
    · have n2 : (a.left != b.left) = false := by simpa using hl
      have HF : Hid (ahead a b = decide (a.right < b.right)) := Lib.hid (by rw [HQ.out]; simp [ho, hl])
      clear ho hl
      go_enter Tryz.func115, Tryz.ntmps115
      go_wp2_with (fail)
      rw [H1.out, H2.out]
      go_ret
      exact ⟨ret_bool HF.out.symm, HG.out⟩
    · have n2 : (a.left != b.left) = true := by simpa using hl
      have HF : Hid (ahead a b = decide (a.left < b.left)) := Lib.hid (by rw [HQ.out]; simp [ho, hl])
      clear ho hl
      go_enter Tryz.func115, Tryz.ntmps115
      go_wp2_with (fail)
      rw [H1.out, H2.out]
      go_ret
      exact ⟨ret_bool HF.out.symm, HG.out⟩
  · have n1 : (a.order != b.order) = true := by simpa using ho
    have HF : Hid (ahead a b = decide (a.order < b.order)) := Lib.hid (by rw [HQ.out]; simp [ho])
    clear ho
    go_enter Tryz.func115, Tryz.ntmps115
    go_wp2_with (fail)
    rw [H1.out, H2.out]
    go_ret
    exact ⟨ret_bool HF.out.symm, HG.out⟩

def SortedM (M : List Mg) : Prop := M.Pairwise (fun a b => ahead b a = false)
def PutPost (M : List Mg) (m : Mg) (w : World) (e : Ending) (w' : World) : Prop :=
  (∃ v M', e = .returned v ∧ OwnF Mg.enc 4 165 w' w.heap.size v M' ∧ M'.Perm (M ++ [m]) ∧ (SortedM M → SortedM M')) ∧ Below w.heap.size w w'
theorem putM_sorted {M : List Mg} {m : Mg} {k : Nat} (h1 : ∀ j, j < k → ahead (mg M j) m = true) (hk : k ≤ M.length) (h2 : k = M.length ∨ ahead (mg M k) m = false) (hs : SortedM M) : SortedM (M.take k ++ m :: M.drop k) := by
  refine ins_sorted (lt := ahead) (fun a b c => ahead_ntrans) hs (fun j x hj hx => ?_) (fun x hx => ?_)
  · rw [mg_eq (by omega)] at hx
    simp only [Option.some.injEq] at hx
    subst hx
    exact ahead_asym _ _ (h1 j hj)
  · rcases h2 with rfl | h2
    · rw [List.getElem?_eq_none (Nat.le_refl _)] at hx; cases hx
    · have hlt := (List.getElem?_eq_some_iff.1 hx).1
      rw [mg_eq hlt] at hx
      simp only [Option.some.injEq] at hx
      subst hx
      exact h2

set_option maxHeartbeats 4000000 in
set_option maxRecDepth 100000 in
theorem rput_calls {M : List Mg} {mo : Option Addr} {mn mc : Nat} (l r o d : Int) (w : World) (hM : SlF 4 w mo mn mc (flat Mg.enc M)) (hn : mn ≤ 300000) :
    Calls Tryz.prog 110 #[.slice mo mn mc, .agg #[.int .i64 l, .int .i64 r, .int .i64 o, .int .i64 d]] w (PutPost M ⟨l, r, o, d⟩ w) := by
  obtain ⟨i0, z0, hi, hz0, hz1, hz2, hz3⟩ := info_row infoMg
  obtain ⟨w0, hw0⟩ : ∃ w0, w.alloc (.cells #[.int .i64 l, .int .i64 r, .int .i64 o, .int .i64 d] 165) = w0 := ⟨_, rfl⟩
  have hb0 : Below w.heap.size w w0 := hw0 ▸ below_alloc w _
  have hx0 : w0.heap[w.heap.size]? = some (.cells #[.int .i64 l, .int .i64 r, .int .i64 o, .int .i64 d] 165) := by rw [← hw0]; exact heap_alloc_new w _
  have hs0 : w.heap.size < w0.heap.size := by rw [← hw0]; simp
  have HM := Lib.hid (hM.below hb0)
  have HLM := Lib.hid (hM.count Mg.enc_len (by omega))
  have HB0 := Lib.hid hb0
  have HX0 := Lib.hid hx0
  have HW0 := Lib.hid hw0
  clear hM hb0 hx0 hw0
  go_enter Tryz.func110, Tryz.ntmps110
  go_wp2_with (fail)
  rw [HW0.out]
  go_loopw [5] (fun i wr => ∃ k : Nat, k ≤ mn ∧ i = .int .i64 k ∧ Hid (∀ j, j < k → ahead (mg M j) ⟨l, r, o, d⟩ = true) ∧ Below w0.heap.size w0 wr) (fun i _ => mn - (intOf i).toNat)
  case atStart => exact ⟨0, Nat.zero_le _, rfl, Lib.hid (fun j h => by omega), Below.refl _ _⟩
  case round =>
    obtain ⟨k, hk, rfl, HK, hb⟩ := hrel
    have HB := Lib.hid hb
    have hbx := (hb.block w.heap.size hs0).trans HX0.out
    have hlt2 : w.heap.size < wr.heap.size := (Array.getElem?_eq_some_iff.1 hbx).1
    obtain ⟨b0, b1, b2, b3⟩ := box4 hbx
    clear hb hbx
    obtain ⟨w1, rfl⟩ : ∃ w1 : World, w1 = wr := ⟨_, rfl⟩
    by_cases hlt : k < mn
    · have hkM : k < M.length := by have := HLM.out; omega
      obtain ⟨⟨pl, pr, po, pd⟩, hpeq⟩ : ∃ m, mg M k = m := ⟨_, rfl⟩
      obtain ⟨b, of, rfl, hcp⟩ := (HM.out.below HB.out).elem Mg.enc_len (by omega) (mg_eq hkM)
      rw [hpeq] at hcp
      have p0 := hcp 0 _ rfl
      have p1 := hcp 1 _ rfl
      have p2 := hcp 2 _ rfl
      have p3 := hcp 3 _ rfl
      rw [Nat.add_zero] at p0
      simp only at p0 p1 p2 p3
      have hmix := mixedOrders
      have hlt1 : b < w1.heap.size := World.block_lt_of_cell? w1 _ p0
      have r0 := cell_grown (w := w1) hlt1 p0
      have r1 := cell_grown (w := w1) hlt1 p1
      have r2 := cell_grown (w := w1) hlt1 p2
      have r3 := cell_grown (w := w1) hlt1 p3
      have t0 := cell_grown (w := w1) hlt2 b0
      have t1 := cell_grown (w := w1) hlt2 b1
      have t2 := cell_grown (w := w1) hlt2 b2
      have t3 := cell_grown (w := w1) hlt2 b3
      have l1 := fun n os => ld4 (P := Tryz.prog) (r0 n os) (r1 n os) (r2 n os) (r3 n os)
      have l2 := fun n os => ld4 (P := Tryz.prog) (t0 n os) (t1 n os) (t2 n os) (t3 n os)
      have hg0 : decide ((k : Int) < (mn : Int)) = true := by simp; omega
      have hg2 : decide (k < mn) = true := by simpa using hlt
      have hah := fun w => ahead_g ⟨pl, pr, po, pd⟩ ⟨l, r, o, d⟩ w
      have HPE := Lib.hid hpeq
      clear hcp hpeq hkM
      cases hal : ahead ⟨pl, pr, po, pd⟩ ⟨l, r, o, d⟩ with
      | true =>
        rw [hal] at hah
        have HK2 : Hid (∀ j, j < k + 1 → ahead (mg M j) ⟨l, r, o, d⟩ = true) := Lib.hid (fun j hj => by
          by_cases e : j = k
          · subst e; rw [HPE.out]; exact hal
          · exact HK.out j (by omega))
        clear hal
        go_wp2_with (fail)
        refine wp_region_quiet_grown (by assumption) (by kernel_rfl) ?_
        repeat (any_goals (first | go_big_quiet_step ((go_at_call 115; exact Calls.grown_of (hah _))) | quiet_step ((go_at_call 115; exact Calls.grown_of (hah _)))))
        refine wpQuiet_nil ?_
        intro _ hw'
        obtain ⟨⟨nq2, osq2⟩, hw''⟩ := hw'
        subst hw''
        go_wp2_with (fail)
        go_roundw
        case rel => exact ⟨k + 1, by omega, by go_num, HK2, HB.out.trans ((below_grow _ _ _).mono HB.out.size)⟩
        case measure => simp [intOf]; omega
      | false =>
        rw [hal] at hah
        have HST : Hid (k = M.length ∨ ahead (mg M k) ⟨l, r, o, d⟩ = false) := Lib.hid (.inr (by rw [HPE.out]; exact hal))
        clear hal
        go_wp2_with (fail)
        refine wp_region_quiet_grown (by assumption) (by kernel_rfl) ?_
        repeat (any_goals (first | go_big_quiet_step ((go_at_call 115; exact Calls.grown_of (hah _))) | quiet_step ((go_at_call 115; exact Calls.grown_of (hah _)))))
        refine wpQuiet_nil ?_
        intro _ hw'
        obtain ⟨⟨nq2, osq2⟩, hw''⟩ := hw'
        subst hw''
        have HBQ : Hid (Below w0.heap.size w0 (grow (w1.drewN nq2) osq2)) := Lib.hid (HB.out.trans ((below_grow _ _ _).mono HB.out.size))
        have HSO := Lib.hid (putM_sorted HK.out (by have := HLM.out; omega) HST.out)
        have HLT : Hid ((M.take k).length = k) := Lib.hid (by rw [List.length_take, HLM.out]; omega)
        have hbz := HBQ.out.block w.heap.size hs0
        obtain ⟨wq, hwq⟩ : ∃ wq, (grow (w1.drewN nq2) osq2) = wq := ⟨_, rfl⟩
        rw [hwq] at HBQ hbz ⊢
        clear hwq
        have HBX := Lib.hid (hbz.trans HX0.out)
        clear hbz
        have HMa : Hid (SlF 4 (wq.alloc (.cells #[] 165)) (some ⟨b, of, none⟩) mn mc (flat Mg.enc M)) := Lib.hid ((HM.out.below HBQ.out).alloc _)
        have HOa : Hid (OwnF Mg.enc 4 165 (wq.alloc (.cells #[] 165)) wq.heap.size (.slice (some ⟨wq.heap.size, 0, none⟩) 0 0) []) := Lib.hid (OwnF.made0 wq)
        go_wp2_with (first
          | (refine wpList_flat_high (enc := Mg.enc) rfl _ _ _ rfl i0 Tryz.underlying23 hi Mg.enc_len rfl HMa.out rfl (k := k) rfl (by omega) ?_; intro hs1)
          | (at_builtin; go_loud (refine wpList_flat_app rfl _ _ 23 rfl i0 z0 32 Tryz.underlying23 hi hz0 hz1 hz2 hz3 Mg.enc_len (by omega) Mg.enc_one rfl HOa.out rfl hs1 (by unfold maxLen; simp only [List.length_nil]; omega) (by simp only [List.length_nil]; omega) (by simp) ?_)))
        intro v1 wb ho1 hg1 hb1
        have hb1' := (below_alloc wq (.cells #[] 165)).trans hb1
        have HB1 := Lib.hid hb1'
        have hlq : w.heap.size < wq.heap.size := (Array.getElem?_eq_some_iff.1 HBX.out).1
        obtain ⟨b0, b1, b2, b3⟩ := box4 ((hb1'.block w.heap.size hlq).trans HBX.out)
        have HOb : Hid (OwnF Mg.enc 4 165 (wb.alloc (.cells #[.int .i64 l, .int .i64 r, .int .i64 o, .int .i64 d] 165)) wq.heap.size v1 (M.take k)) := Lib.hid (ho1.alloc _)
        have HSb : Hid (SlF 4 (wb.alloc (.cells #[.int .i64 l, .int .i64 r, .int .i64 o, .int .i64 d] 165)) (some ⟨wb.heap.size, 0, none⟩) 1 1 (flat Mg.enc [⟨l, r, o, d⟩])) := Lib.hid (SlF.one Mg.enc_len wb ⟨l, r, o, d⟩ 165 (cs := #[.int .i64 l, .int .i64 r, .int .i64 o, .int .i64 d]) rfl)
        have HSZ : Hid (wq.heap.size ≤ wb.heap.size) := Lib.hid hb1'.size
        clear ho1 hg1 hb1 hb1' hlq
        go_wp2_with (at_builtin; go_loud (refine wpList_flat_app rfl _ _ 23 rfl i0 z0 32 Tryz.underlying23 hi hz0 hz1 hz2 hz3 Mg.enc_len (by omega) Mg.enc_one rfl HOb.out rfl HSb.out (by have := HLT.out; unfold maxLen; omega) (by have := HLT.out; omega) (by have := HSZ.out; simp; omega) ?_))
        intro v2 wc ho2 hg2 hb2
        have hb2' := (HB1.out.alloc HB1.out.size _).trans hb2
        have HB2 := Lib.hid hb2'
        have HMc : Hid (SlF 4 wc (some ⟨b, of, none⟩) mn mc (flat Mg.enc M)) := Lib.hid ((HM.out.below HBQ.out).below hb2')
        have HOc := Lib.hid ho2
        have HSZ2 : Hid (wq.heap.size ≤ wc.heap.size) := Lib.hid hb2'.size
        clear ho2 hg2 hb2 hb2' b0 b1 b2 b3
        go_wp2_with (first
          | (refine wpList_flat_low (enc := Mg.enc) rfl _ _ _ rfl i0 Tryz.underlying23 hi hz1 Mg.enc_len rfl HMc.out rfl (k := k) rfl (by omega) ?_; intro ao' hs3 hao3)
          | (at_builtin; go_loud (refine wpList_flat_app rfl _ _ 23 rfl i0 z0 32 Tryz.underlying23 hi hz0 hz1 hz2 hz3 Mg.enc_len (by omega) Mg.enc_one rfl HOc.out rfl hs3 (by have := HLT.out; unfold maxLen; rw [List.length_append]; simp only [List.length_singleton]; omega) (by have := HLT.out; rw [List.length_append]; simp only [List.length_singleton]; omega) HSZ2.out ?_)))
        intro v3 wd ho3 hg3 hb3
        have HO3 := Lib.hid (ho3.mono (Nat.le_trans HB0.out.size HBQ.out.size))
        have HB3 := Lib.hid (HB0.out.trans ((HBQ.out.trans ((HB2.out.trans hb3).mono HBQ.out.size)).mono HB0.out.size))
        clear ho3 hg3 hb3
        go_wp2_with (fail)
        go_ret
        exact ⟨⟨v3, _, rfl, HO3.out, ins_perm M _ k, HSO.out⟩, HB3.out⟩
    · obtain rfl : k = mn := by omega
      have HST : Hid (k = M.length ∨ ahead (mg M k) ⟨l, r, o, d⟩ = false) := Lib.hid (.inl HLM.out.symm)
      have hmix := mixedOrders
      have hg0 : decide ((k : Int) < (k : Int)) = false := by simp
      have hg2 : decide (k < k) = false := by simp
      have hah := fun w => ahead_g ⟨0, 0, 0, 0⟩ ⟨l, r, o, d⟩ w
      go_wp2_with (fail)
      refine wp_region_quiet_grown (by assumption) (by kernel_rfl) ?_
      repeat (any_goals (first | go_big_quiet_step ((go_at_call 115; exact Calls.grown_of (hah _))) | quiet_step ((go_at_call 115; exact Calls.grown_of (hah _)))))
      refine wpQuiet_nil ?_
      intro _ hw'
      obtain ⟨⟨nq2, osq2⟩, hw''⟩ := hw'
      subst hw''
      have HBQ : Hid (Below w0.heap.size w0 (grow (w1.drewN nq2) osq2)) := Lib.hid (HB.out.trans ((below_grow _ _ _).mono HB.out.size))
      have HSO := Lib.hid (putM_sorted HK.out (by have := HLM.out; omega) HST.out)
      have HLT : Hid ((M.take k).length = k) := Lib.hid (by rw [List.length_take, HLM.out]; omega)
      have hbz := HBQ.out.block w.heap.size hs0
      obtain ⟨wq, hwq⟩ : ∃ wq, (grow (w1.drewN nq2) osq2) = wq := ⟨_, rfl⟩
      rw [hwq] at HBQ hbz ⊢
      clear hwq
      have HBX := Lib.hid (hbz.trans HX0.out)
      clear hbz
      have HMa : Hid (SlF 4 (wq.alloc (.cells #[] 165)) mo k mc (flat Mg.enc M)) := Lib.hid ((HM.out.below HBQ.out).alloc _)
      have HOa : Hid (OwnF Mg.enc 4 165 (wq.alloc (.cells #[] 165)) wq.heap.size (.slice (some ⟨wq.heap.size, 0, none⟩) 0 0) []) := Lib.hid (OwnF.made0 wq)
      go_wp2_with (first
        | (refine wpList_flat_high (enc := Mg.enc) rfl _ _ _ rfl i0 Tryz.underlying23 hi Mg.enc_len rfl HMa.out rfl (k := k) rfl (by omega) ?_; intro hs1)
        | (at_builtin; go_loud (refine wpList_flat_app rfl _ _ 23 rfl i0 z0 32 Tryz.underlying23 hi hz0 hz1 hz2 hz3 Mg.enc_len (by omega) Mg.enc_one rfl HOa.out rfl hs1 (by unfold maxLen; simp only [List.length_nil]; omega) (by simp only [List.length_nil]; omega) (by simp) ?_)))
      intro v1 wb ho1 hg1 hb1
      have hb1' := (below_alloc wq (.cells #[] 165)).trans hb1
      have HB1 := Lib.hid hb1'
      have hlq : w.heap.size < wq.heap.size := (Array.getElem?_eq_some_iff.1 HBX.out).1
      obtain ⟨b0, b1, b2, b3⟩ := box4 ((hb1'.block w.heap.size hlq).trans HBX.out)
      have HOb : Hid (OwnF Mg.enc 4 165 (wb.alloc (.cells #[.int .i64 l, .int .i64 r, .int .i64 o, .int .i64 d] 165)) wq.heap.size v1 (M.take k)) := Lib.hid (ho1.alloc _)
      have HSb : Hid (SlF 4 (wb.alloc (.cells #[.int .i64 l, .int .i64 r, .int .i64 o, .int .i64 d] 165)) (some ⟨wb.heap.size, 0, none⟩) 1 1 (flat Mg.enc [⟨l, r, o, d⟩])) := Lib.hid (SlF.one Mg.enc_len wb ⟨l, r, o, d⟩ 165 (cs := #[.int .i64 l, .int .i64 r, .int .i64 o, .int .i64 d]) rfl)
      have HSZ : Hid (wq.heap.size ≤ wb.heap.size) := Lib.hid hb1'.size
      clear ho1 hg1 hb1 hb1' hlq
      go_wp2_with (at_builtin; go_loud (refine wpList_flat_app rfl _ _ 23 rfl i0 z0 32 Tryz.underlying23 hi hz0 hz1 hz2 hz3 Mg.enc_len (by omega) Mg.enc_one rfl HOb.out rfl HSb.out (by have := HLT.out; unfold maxLen; omega) (by have := HLT.out; omega) (by have := HSZ.out; simp; omega) ?_))
      intro v2 wc ho2 hg2 hb2
      have hb2' := (HB1.out.alloc HB1.out.size _).trans hb2
      have HB2 := Lib.hid hb2'
      have HMc : Hid (SlF 4 wc mo k mc (flat Mg.enc M)) := Lib.hid ((HM.out.below HBQ.out).below hb2')
      have HOc := Lib.hid ho2
      have HSZ2 : Hid (wq.heap.size ≤ wc.heap.size) := Lib.hid hb2'.size
      clear ho2 hg2 hb2 hb2' b0 b1 b2 b3
      go_wp2_with (first
        | (refine wpList_flat_low (enc := Mg.enc) rfl _ _ _ rfl i0 Tryz.underlying23 hi hz1 Mg.enc_len rfl HMc.out rfl (k := k) rfl (by omega) ?_; intro ao' hs3 hao3)
        | (at_builtin; go_loud (refine wpList_flat_app rfl _ _ 23 rfl i0 z0 32 Tryz.underlying23 hi hz0 hz1 hz2 hz3 Mg.enc_len (by omega) Mg.enc_one rfl HOc.out rfl hs3 (by have := HLT.out; unfold maxLen; rw [List.length_append]; simp only [List.length_singleton]; omega) (by have := HLT.out; rw [List.length_append]; simp only [List.length_singleton]; omega) HSZ2.out ?_)))
      intro v3 wd ho3 hg3 hb3
      have HO3 := Lib.hid (ho3.mono (Nat.le_trans HB0.out.size HBQ.out.size))
      have HB3 := Lib.hid (HB0.out.trans ((HBQ.out.trans ((HB2.out.trans hb3).mono HBQ.out.size)).mono HB0.out.size))
      clear ho3 hg3 hb3
      go_wp2_with (fail)
      go_ret
      exact ⟨⟨v3, _, rfl, HO3.out, ins_perm M _ k, HSO.out⟩, HB3.out⟩

end Go.Proofs.YtimkkkdabmhedaaGreatDoor
