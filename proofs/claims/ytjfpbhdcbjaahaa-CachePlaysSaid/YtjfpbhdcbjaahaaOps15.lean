/- How the operations on a cache come in. -/
import Derived.Test.YtjfpbhdcbjaahaaOpenF
import Derived.Test.YtjfpbhdcbjaahaaGreat15
namespace Go.Proofs.Ytjfpbhdcbjaahaa
open Go.ChangeShapes Go.WideShapes Go.ChangeAt Go.RowKit Go.Joins Go.Deep
set_option linter.unusedVariables false

theorem cellsOp : Try.prog.cellsOf 38 = 3 := by kernel_rfl
theorem opStruct : ∃ f0 f1 f2 : Field, Try.prog.underlying 38 = some (.struct #[f0, f1, f2]) ∧ f0.type = 4 ∧ f1.type = 9 ∧ f2.type = 26 ∧ oneCellFields Try.prog #[f0, f1, f2] = true :=
  ⟨_, _, _, Try.underlying38, rfl, rfl, rfl, by kernel_rfl⟩

theorem ops_open {H : Type} {enc : TypeId × Value → H} {W : World} {held : Bool} {v : Value} {d : DataW H} {p : List MemPlace} {r : Reach} {b0 : Nat}
    (hv : Value.okWide Try.prog W r b0 34 v) (h : DataW.Trod enc Try.prog W 0 (fun _ => true) held 34 v d p) :
    ∃ ao n c O, v = .slice ao n c ∧ Ops W ao n c O := by
  obtain ⟨a, n, c, rfl⟩ := okWide_slice Try.underlying34 hv
  obtain ⟨fuel, hf⟩ := h
  obtain ⟨f0, f1, f2, hu, e0, e1, e2, hone⟩ := opStruct
  rcases open_slice_fields Try.underlying34 hu hone (by rw [cellsOp]; rfl) (by simpa [Value.cells] using hf) with ⟨hcs, _⟩ | ⟨a', len, cap, m, D, Pl, hcs, _, hl, hm, hmm, _, hrow⟩
  · simp at hcs
    obtain ⟨rfl, rfl, rfl⟩ := hcs
    exact ⟨_, _, _, [], rfl, SlF.nothing _, by simp⟩
  · simp at hcs
    obtain ⟨rfl, rfl, rfl⟩ := hcs
    simp at hmm
    subst hmm
    obtain ⟨O, hO, hR⟩ := slF_mk (enc := Ox.enc) (s := 3) (n := n) (cap := m) (w := W) (a := a') (R := fun x => SlI W x.ro x.rn x.rc x.row ∧ x.key.size ≤ maxLen) Ox.enc_len (by omega) hl hm (by
      intro i hi
      obtain ⟨ys, n', _, _, _, hf⟩ := hrow i (by omega)
      obtain ⟨u0, y0, c0, _, t0⟩ := hf 0 f0 rfl
      obtain ⟨u1, y1, c1, _, t1⟩ := hf 1 f1 rfl
      obtain ⟨u2, y2, c2, _, t2⟩ := hf 2 f2 rfl
      rw [e0] at t0
      rw [e1] at t1
      rw [e2] at t2
      obtain ⟨b, eb, _⟩ := DataW.trod_bool Try.underlying4 t0
      obtain ⟨s, es, _, hs⟩ := DataW.trod_string Try.underlying9 t1
      obtain ⟨ro, rn, rc, A, er, hA, _⟩ := sli_of_trod Try.underlying26 Try.underlying3 cellsInt t2
      simp at eb es
      subst eb es er
      refine ⟨⟨b, s, ro, rn, rc, A⟩, fun j u hu => ?_, hA, hs⟩
      match j, hu with
      | 0, hu => simp [Ox.enc] at hu; subst hu; exact c0
      | 1, hu => simp [Ox.enc] at hu; subst hu; exact c1
      | 2, hu => simp [Ox.enc] at hu; subst hu; exact c2
      | j + 3, hu => simp [Ox.enc] at hu)
    exact ⟨_, _, _, O, rfl, hO, hR⟩

end Go.Proofs.Ytjfpbhdcbjaahaa
