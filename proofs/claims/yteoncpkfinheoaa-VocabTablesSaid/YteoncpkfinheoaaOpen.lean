/- What came in, opened: rows of integers, edits, rows of rows. -/
import Derived.Test.YteoncpkfinheoaaLib
import Derived.Lib.SmallJoins
import Derived.Deep.Matrix
namespace Go.Proofs.Yteoncpkfinheoaa
open Go.ChangeShapes Go.WideShapes Go.ChangeAt Go.RowKit Go.Joins Go.Deep
set_option linter.unusedVariables false

/-- An int64. -/
def I64 (x : Int) : Prop := -9223372036854775808 ≤ x ∧ x ≤ 9223372036854775807

theorem I64.of_wf {x : Int} (h : (Lit.int .i64 x).wf = true) : I64 x := by
  simp [Lit.wf, IntKind.min, IntKind.max, IntKind.signed, IntKind.bits] at h
  exact h

section
variable {H : Type} {enc : TypeId × Value → H} {P : Program} {W : World} {held : Bool}

theorem sli_of_trod {t e : TypeId} {fuel : Nat} {v : Value} {y : DataW H × List MemPlace} (ht : P.underlying t = some (.slice e)) (he : P.underlying e = some (.int .i64)) (hc : P.cellsOf e = 1)
    (h : DataW.trod enc P W 0 (fun _ => true) held fuel t [v] = some y) : ∃ ao n c A, v = .slice ao n c ∧ SlI W ao n c A ∧ ∀ x ∈ A, I64 x := by
  rcases open_ints ht he hc h with ⟨hcs, _⟩ | ⟨a, len, cap, zs, hcs, _, hl, hm, hz, _, hcell, hwz⟩
  · simp at hcs
    subst hcs
    exact ⟨none, 0, 0, [], rfl, Sl.none, by simp⟩
  · simp at hcs
    subst hcs
    have hz' : zs.length = cap := by simpa using hz
    refine ⟨some a, len, cap, zs.take len, rfl, ⟨by simp; omega, hl, hm, by simp, fun i u hu => ?_⟩, fun x hx => I64.of_wf (hwz x (List.mem_of_mem_take hx))⟩
    obtain ⟨b, o, sp⟩ := a
    have hi : i < len := by have := (List.getElem?_eq_some_iff.1 hu).1; simp at this; omega
    have h0 := hcell i (by omega)
    have hsp : sp = none ∨ i ≠ 0 := by
      rcases Nat.eq_zero_or_pos i with rfl | hp
      · left
        simpa [Addr.add] using World.cell?_spot h0
      · right; omega
    have hsp0 : sp = none := by
      have h00 := hcell 0 (by omega)
      simpa [Addr.add] using World.cell?_spot h00
    subst hsp0
    refine ⟨b, o, rfl, ?_⟩
    rw [Addr.add_lit] at h0
    rw [h0]
    rw [List.getElem?_map, List.getElem?_take, if_pos hi] at hu
    simp only [List.getD, Option.some.injEq]
    rw [List.getElem?_eq_getElem (by omega)] at hu ⊢
    simpa using hu

theorem sli_open {t e : TypeId} {v : Value} {d : DataW H} {p : List MemPlace} (ht : P.underlying t = some (.slice e)) (he : P.underlying e = some (.int .i64)) (hc : P.cellsOf e = 1)
    {r : Reach} {b0 : Nat} (hv : Value.okWide P W r b0 t v) (h : DataW.Trod enc P W 0 (fun _ => true) held t v d p) : ∃ ao n c A, v = .slice ao n c ∧ SlI W ao n c A ∧ ∀ x ∈ A, I64 x := by
  obtain ⟨a, n, c, rfl⟩ := okWide_slice ht hv
  obtain ⟨fuel, hf⟩ := h
  exact sli_of_trod ht he hc (by simpa [Value.cells] using hf)

theorem rows_open {t e q : TypeId} {v : Value} {d : DataW H} {p : List MemPlace} (ht : P.underlying t = some (.slice e)) (he : P.underlying e = some (.slice q)) (hq : P.underlying q = some (.int .i64))
    (ce : P.cellsOf e = 1) (cq : P.cellsOf q = 1) {r : Reach} {b0 : Nat} (hv : Value.okWide P W r b0 t v) (h : DataW.Trod enc P W 0 (fun _ => true) held t v d p) : ∃ ao n c R, v = .slice ao n c ∧ SlRows W ao n c R := by
  obtain ⟨a, n, c, rfl⟩ := okWide_slice ht hv
  obtain ⟨fuel, hf⟩ := h
  rcases open_int_rows ht he hq ce cq (by simpa [Value.cells] using hf) with ⟨hcs, _⟩ | ⟨a', len, cap, A, L, C, Z, hcs, _, hl, hm, _, hrow⟩
  · simp at hcs
    obtain ⟨rfl, rfl, rfl⟩ := hcs
    exact ⟨_, _, _, [], rfl, rfl, Nat.le_refl _, by unfold maxLen; omega, fun _ => rfl, fun i hi => by omega⟩
  · simp at hcs
    obtain ⟨rfl, rfl, rfl⟩ := hcs
    refine ⟨_, _, _, (List.range n).map fun r => (Z r).take (L r), rfl, by simp, hl, hm, by simp, fun i hi => ?_⟩
    obtain ⟨b, o, sp⟩ := a'
    have hsp0 : sp = none := by
      have h00 := (hrow 0 (by omega)).1
      simpa [Addr.add] using World.cell?_spot h00
    subst hsp0
    obtain ⟨h1, h2, h3, h4, h5, h6, h7⟩ := hrow i (by omega)
    have hrx : rx ((List.range n).map fun r => (Z r).take (L r)) i = (Z i).take (L i) := by simp [rx, List.getD, hi]
    have hlen : ((Z i).take (L i)).length = L i := by simp; omega
    rw [hrx, hlen]
    refine ⟨b, o, A i, C i, rfl, by rw [← h1, Addr.add_lit], ?_⟩
    refine ⟨by simp; omega, h2, h3, h6, fun j u hu => ?_⟩
    have hj : j < L i := by have := (List.getElem?_eq_some_iff.1 hu).1; simp at this; omega
    cases hA : A i with
    | none => have := h6 hA; omega
    | some a2 =>
      obtain ⟨b2, o2, sp2⟩ := a2
      have hc := (h7 _ hA).2
      have hsp2 : sp2 = none := by
        have h00 := hc 0 (by omega)
        simpa [Addr.add] using World.cell?_spot h00
      subst hsp2
      refine ⟨b2, o2, rfl, ?_⟩
      have := hc j (by omega)
      rw [Addr.add_lit] at this
      rw [this]
      rw [List.getElem?_map, List.getElem?_take, if_pos hj] at hu
      simp only [List.getD, Option.some.injEq]
      rw [List.getElem?_eq_getElem (by omega)] at hu ⊢
      simpa using hu

end

theorem cellsInt : Try.prog.cellsOf 3 = 1 := by kernel_rfl


end Go.Proofs.Yteoncpkfinheoaa
