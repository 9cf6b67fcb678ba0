/- Plain laws: in which order rows and specials stand plays no part; what stands where; one more in a sorted row. -/
import Derived.Test.YteoncpkfinheoaaFromP
namespace Go.Proofs.Yteoncpkfinheoaa
set_option linter.unusedVariables false

theorem foldl_max_perm {l l' : List Int} (h : l.Perm l') : ∀ a : Int, l.foldl max a = l'.foldl max a := by
  induction h with
  | nil => intro a; rfl
  | cons x _ ih => intro a; simp only [List.foldl_cons]; exact ih _
  | swap x y l => intro a; simp only [List.foldl_cons]; rw [show max (max a y) x = max (max a x) y by omega]
  | trans _ _ ih1 ih2 => intro a; rw [ih1, ih2]
theorem top_perm {R R' : List Rw} {S S' : List Sp} (hR : R.Perm R') (hS : S.Perm S') : top R S = top R' S' := by
  unfold top; rw [foldl_max_perm (hS.map _), foldl_max_perm (hR.map _)]
theorem ok_perm {R R' : List Rw} {S S' : List Sp} (hR : R.Perm R') (hS : S.Perm S') (h : OkRows R S) : OkRows R' S' :=
  ⟨fun s hs => h.1 s (hS.mem_iff.2 hs), fun r hr => h.2.1 r (hR.mem_iff.2 hr), (hR.pairwise_iff (fun e => Ne.symm e)).1 h.2.2⟩
theorem pairwise_uniq {α : Type} {R : α → α → Prop} {l : List α} (h : l.Pairwise R) {a b : α} (ha : a ∈ l) (hb : b ∈ l) (h1 : ¬ R a b) (h2 : ¬ R b a) : a = b := by
  rw [List.pairwise_iff_getElem] at h
  obtain ⟨i, hi, rfl⟩ := List.getElem_of_mem ha
  obtain ⟨j, hj, rfl⟩ := List.getElem_of_mem hb
  rcases Nat.lt_trichotomy i j with h3 | h3 | h3
  · exact absurd (h i j hi hj h3) h1
  · subst h3; rfl
  · exact absurd (h j i hj hi h3) h2
theorem find_uniq {α : Type} {l : List α} {p : α → Bool} {x : α} (hx : x ∈ l) (hp : p x = true) (hu : ∀ y, y ∈ l → p y = true → y = x) : l.find? p = some x := by
  cases h : l.find? p with
  | none => rw [List.find?_eq_none] at h; exact absurd hp (h x hx)
  | some y => rw [hu y (List.mem_of_find?_eq_some h) (List.find?_some h)]
theorem tokAt_mem {R : List Rw} (hp : R.Pairwise (fun a b => a.rank ≠ b.rank)) {r : Rw} (hr : r ∈ R) {i : Nat} (e : r.rank = (i : Int)) : tokAt R i = r.token := by
  unfold tokAt
  rw [find_uniq hr (p := fun r => decide (r.rank = (i : Int))) (by simpa using e) (fun y hy h => by
    have h : y.rank = (i : Int) := by simpa using h
    exact pairwise_uniq hp hy hr (fun g => g (by omega)) (fun g => g (by omega)))]
theorem tok_perm {R R' : List Rw} (hR : R.Perm R') (hp : R.Pairwise (fun a b => a.rank ≠ b.rank)) (i : Nat) : tokAt R i = tokAt R' i := by
  by_cases h : ∃ r, r ∈ R ∧ r.rank = (i : Int)
  · obtain ⟨r, hr, e⟩ := h
    rw [tokAt_mem hp hr e, tokAt_mem ((hR.pairwise_iff (fun e => Ne.symm e)).1 hp) (hR.mem_iff.1 hr) e]
  · rw [tokAt_none (fun r hr e => h ⟨r, hr, e⟩), tokAt_none (fun r hr e => h ⟨r, hR.mem_iff.2 hr, e⟩)]
theorem toks_perm {R R' : List Rw} {S S' : List Sp} (hR : R.Perm R') (hS : S.Perm S') (h : OkRows R S) : toksOf R' S' = toksOf R S := by
  unfold toksOf
  rw [top_perm hR hS]
  exact List.map_congr_left fun i _ => (tok_perm hR h.2.2 i).symm
theorem voc_perm {R R' : List Rw} {S S' : List Sp} (hR : R.Perm R') (hS : S.Perm S') (h : OkRows R S ∧ May (vocOf R S)) : (OkRows R' S' ∧ May (vocOf R' S')) ∧ vocOf R' S' = vocOf R S := by
  have e : vocOf R' S' = vocOf R S := by
    unfold vocOf
    rw [toks_perm hR hS h.1]
    have : sortSp S' = sortSp S := sorted_sp (T := toksOf R S) ((sortSp_perm S').trans hS.symm) (sortSp_sorted S') (.inr h.2.2.2.2)
    rw [this]
  exact ⟨⟨ok_perm hR hS h.1, by rw [e]; exact h.2⟩, e⟩

theorem toks_len (R : List Rw) (S : List Sp) : (toksOf R S).length = (top R S).toNat := by unfold toksOf; simp
theorem toks_tk {R : List Rw} {S : List Sp} {i : Nat} (h : i < (top R S).toNat) : tk (toksOf R S) i = tokAt R i := by
  unfold toksOf tk
  simp [List.getD, h]
theorem row_lt {R : List Rw} {S : List Sp} {r : Rw} (hr : r ∈ R) : r.rank < top R S := by
  obtain ⟨j, hj, rfl⟩ := List.getElem_of_mem hr
  rw [rw_get hj, ← topR_all]
  exact topR_lt (Nat.le_refl _) hj
/-- A row's token stands at its rank. -/
theorem row_at {R : List Rw} {S : List Sp} (hok : OkRows R S) {r : Rw} (hr : r ∈ R) : ∃ i : Nat, r.rank = (i : Int) ∧ i < (toksOf R S).length ∧ tk (toksOf R S) i = r.token := by
  have h1 := hok.2.1 r hr
  have h2 := row_lt (S := S) hr
  refine ⟨r.rank.toNat, by omega, by rw [toks_len]; omega, ?_⟩
  rw [toks_tk (by omega), tokAt_mem hok.2.2 hr (by omega)]

/-- The first special of a number, of a name. -/
def spBy (S : List Sp) (id : Int) : Option Sp := S.find? (fun s => decide (s.id = id))
def spNamed (S : List Sp) (n : ByteArray) : Option Sp := S.find? (fun s => decide (s.name = n))
def nmOf : Option Sp → ByteArray
  | some s => s.name
  | none => ByteArray.empty
def idOf : Option Sp → Int
  | some s => s.id
  | none => -1
theorem spBy_mem {T : List ByteArray} {S : List Sp} (h : MaySp T S) {s : Sp} (hs : s ∈ S) : spBy S s.id = some s :=
  find_uniq hs (by simp) fun y hy e => pairwise_uniq h.2.2 hy hs (fun g => g.2 (by simpa using e)) (fun g => g.2 (by simpa using (Eq.symm (of_decide_eq_true e))))
theorem spNamed_mem {T : List ByteArray} {S : List Sp} (h : MaySp T S) {s : Sp} (hs : s ∈ S) : spNamed S s.name = some s :=
  find_uniq hs (by simp) fun y hy e => pairwise_uniq h.2.2 hy hs (fun g => by
    have := g.1
    rw [of_decide_eq_true e, sless_irrefl] at this
    cases this) (fun g => by
    have := g.1
    rw [of_decide_eq_true e, sless_irrefl] at this
    cases this)

/-- One more in a sorted row. -/
theorem ins_sorted {α : Type} {lt : α → α → Bool} (hn : ∀ a b c, lt a b = false → lt b c = false → lt a c = false) {l : List α} (hs : l.Pairwise (fun a b => lt b a = false)) {s : α} {at_ : Nat}
    (h1 : ∀ j x, j < at_ → l[j]? = some x → lt s x = false) (h2 : ∀ x, l[at_]? = some x → lt x s = false) : (l.take at_ ++ s :: l.drop at_).Pairwise (fun a b => lt b a = false) := by
  have h3 : ∀ x ∈ l.drop at_, lt x s = false := by
    intro x hx
    obtain ⟨j, hj, rfl⟩ := List.getElem_of_mem hx
    rw [List.length_drop] at hj
    rw [List.getElem_drop]
    have hk : at_ < l.length := by omega
    have hy := h2 _ (List.getElem?_eq_getElem hk)
    rcases Nat.eq_zero_or_pos j with e | e
    · subst e; exact hy
    · exact hn _ _ _ ((List.pairwise_iff_getElem.1 hs) at_ (at_ + j) hk (by omega) (by omega)) hy
  rw [List.pairwise_append]
  refine ⟨hs.sublist (List.take_sublist _ _), ?_, ?_⟩
  · rw [List.pairwise_cons]
    exact ⟨h3, hs.sublist (List.drop_sublist _ _)⟩
  · intro a ha b hb
    obtain ⟨j, hj, rfl⟩ := List.getElem_of_mem ha
    rw [List.length_take] at hj
    rw [List.getElem_take]
    rcases List.mem_cons.1 hb with rfl | hb
    · exact h1 j _ (by omega) (List.getElem?_eq_getElem (by omega))
    · obtain ⟨i, hi, rfl⟩ := List.getElem_of_mem hb
      rw [List.length_drop] at hi
      rw [List.getElem_drop]
      exact (List.pairwise_iff_getElem.1 hs) j (at_ + i) (by omega) (by omega) (by omega)
theorem ins_perm {α : Type} (l : List α) (s : α) (k : Nat) : (l.take k ++ s :: l.drop k).Perm (l ++ [s]) := by
  have h1 : (l.take k ++ s :: l.drop k).Perm (s :: (l.take k ++ l.drop k)) := List.perm_middle
  rw [List.take_append_drop] at h1
  exact h1.trans (List.perm_append_comm (l₁ := [s]) (l₂ := l))

end Go.Proofs.Yteoncpkfinheoaa
