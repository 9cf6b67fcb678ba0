/- A slice of structs that came in, opened to a list. Plain lemmas over any program. -/
import Derived.Test.YteoncpkfinheoaaFlat
import Derived.Test.YteoncpkfinheoaaOpen
import Derived.Deep.Slices
import Derived.Deep.Fields
import Derived.ChangeSame
namespace Go.Proofs.Yteoncpkfinheoaa
open Go.ChangeShapes Go.WideShapes Go.Deep Go.RowKit
set_option linter.unusedVariables false

section
variable {H : Type} {enc : TypeId × Value → H} {P : Program} {w : World} {base : Nat} {spare : Nat → Bool} {held : Bool}
theorem open_slice_fields {t e : TypeId} {fs : Array Field} {fuel : Nat} {cs : List Value} {x : DataW H × List MemPlace} (ht : P.underlying t = some (.slice e)) (he : P.underlying e = some (.struct fs))
    (hone : oneCellFields P fs = true) (hC : P.cellsOf e = fs.size) (h : DataW.trod enc P w base spare held fuel t cs = some x) :
    (cs = [.slice none 0 0] ∧ x = (.nil, [])) ∨
    ∃ (a : Addr) (len cap m : Nat) (D : Nat → DataW H) (Pl : Nat → List MemPlace), cs = [.slice (some a) len cap] ∧ base ≤ a.block ∧ len ≤ cap ∧ cap ≤ maxLen ∧ m = (if spare a.block then cap else len) ∧
      x = (.slice ((List.range len).map D) ((List.range (m - len)).map fun j => D (len + j)), MemPlace.row a (m * fs.size) ++ (List.range m).flatMap Pl) ∧
      ∀ i, i < m → ∃ (ys : List (DataW H × List MemPlace)) (n : Nat), D i = .agg (ys.map (·.1)) ∧ Pl i = ys.flatMap (·.2) ∧ ys.length = fs.size ∧
        ∀ (j : Nat) (f : Field), fs[j]? = some f → ∃ (v : Value) (y : DataW H × List MemPlace), w.cell? (a.add (i * fs.size + j)) = some v ∧ ys[j]? = some y ∧ DataW.trod enc P w base spare held n f.type [v] = some y := by
  rcases open_slice ht h with h0 | ⟨a, len, cap, m, n, D, Pl, hcs, hb, hl, hm, hmm, hx, hi⟩
  · exact .inl h0
  · refine .inr ⟨a, len, cap, m, D, Pl, hcs, hb, hl, hm, hmm, by rw [hC] at hx; exact hx, fun i him => ?_⟩
    obtain ⟨cs', hc, ht'⟩ := hi i him
    rw [hC] at hc
    obtain ⟨ys, n', hn', hy, hlen, hyl, hf⟩ := DataW.trod_struct he ht'
    obtain ⟨_, hcl, hat⟩ := World.cells?_some hc
    simp only [Prod.mk.injEq] at hy
    refine ⟨ys, n', hy.1, hy.2, hyl, fun j f hj => ?_⟩
    obtain ⟨ho, hk⟩ := hone_of hone j f hj
    have hjl : j < fs.size := (Array.getElem?_eq_some_iff.1 hj).1
    have hcell := hat j hjl
    have hv : cs'[j]? = some (cs'[j]'(by omega)) := List.getElem?_eq_getElem (by omega)
    have h1 := hf j f hj
    rw [ho, hk] at h1
    have hone' : (cs'.drop j).take 1 = [cs'[j]'(by omega)] := by
      rw [List.drop_eq_getElem_cons (by omega)]
      rfl
    rw [hone'] at h1
    have hys : ys[j]? = some (ys[j]'(by omega)) := List.getElem?_eq_getElem (by omega)
    refine ⟨_, _, ?_, hys, h1.trans hys⟩
    rw [← Go.Deep.add_add, hcell, hv]
end

theorem slF_mk {α : Type} {enc : α → List Value} {s n cap : Nat} {w : World} {a : Addr} {R : α → Prop} (hs : ∀ x, (enc x).length = s) (h0 : 0 < s) (hle : n ≤ cap) (hmax : cap ≤ maxLen)
    (h : ∀ i, i < n → ∃ x : α, (∀ j u, (enc x)[j]? = some u → w.cell? (a.add (i * s + j)) = some u) ∧ R x) :
    ∃ L : List α, SlF s w (some a) n cap (flat enc L) ∧ ∀ x ∈ L, R x := by
  classical
  have key : ∀ m, m ≤ n → ∃ L : List α, L.length = m ∧ (∀ i x, L[i]? = some x → ∀ j u, (enc x)[j]? = some u → w.cell? (a.add (i * s + j)) = some u) ∧ ∀ x ∈ L, R x := by
    intro m
    induction m with
    | zero => exact fun _ => ⟨[], rfl, fun i x hx => by simp at hx, fun x hx => by simp at hx⟩
    | succ m ih =>
      intro hm
      obtain ⟨L, hl, h1, h2⟩ := ih (by omega)
      obtain ⟨x, hx1, hx2⟩ := h m (by omega)
      refine ⟨L ++ [x], by simp [hl], fun i y hy => ?_, fun y hy => ?_⟩
      · rcases Nat.lt_or_ge i L.length with h' | h'
        · rw [List.getElem?_append_left h'] at hy
          exact h1 i y hy
        · rw [List.getElem?_append_right h'] at hy
          have : i - L.length = 0 := by
            have := (List.getElem?_eq_some_iff.1 hy).1
            simp at this
            omega
          rw [this] at hy
          simp at hy
          subst hy
          obtain rfl : i = m := by omega
          exact hx1
      · rcases List.mem_append.1 hy with h' | h'
        · exact h2 y h'
        · simp at h'
          subst h'
          exact hx2
  obtain ⟨L, hl, h1, h2⟩ := key n (Nat.le_refl _)
  refine ⟨L, ⟨by rw [flat_len hs, hl], hle, hmax, by simp, fun i u hu => ?_⟩, h2⟩
  have hi : i < n * s := by have := (List.getElem?_eq_some_iff.1 hu).1; rw [flat_len hs, hl] at this; exact this
  have hd : i = i / s * s + i % s := by rw [Nat.mul_comm]; exact (Nat.div_add_mod i s).symm
  have hlt : i / s < n := Nat.div_lt_of_lt_mul (by rw [Nat.mul_comm]; exact hi)
  obtain ⟨x, hx⟩ : ∃ x, L[i / s]? = some x := ⟨L[i / s]'(by rw [hl]; exact hlt), List.getElem?_eq_getElem _⟩
  have hm := Nat.mod_lt i h0
  rw [hd, flat_at hs hx hm] at hu
  have hc := h1 _ x hx _ u hu
  rw [← hd] at hc
  have hsp : a.spot = none := by
    obtain ⟨x0, hx0⟩ : ∃ x, L[0]? = some x := ⟨L[0]'(by have h9 := Nat.lt_of_le_of_lt (Nat.zero_le _) hlt; rw [hl]; exact h9), List.getElem?_eq_getElem _⟩
    obtain ⟨u0, hu0⟩ : ∃ u, (enc x0)[0]? = some u := ⟨(enc x0)[0]'(by rw [hs]; exact h0), List.getElem?_eq_getElem _⟩
    have h00 := h1 0 x0 hx0 0 u0 hu0
    have := World.cell?_spot h00
    simpa [Addr.add] using this
  obtain ⟨b, o, sp⟩ := a
  simp at hsp
  subst hsp
  refine ⟨b, o, rfl, ?_⟩
  rw [Addr.add_lit] at hc
  exact hc

end Go.Proofs.Yteoncpkfinheoaa
