/- How vocabularies, rows, pairs, specials come in. -/
import Derived.Test.YteoncpkfinheoaaOpenF
import Derived.Test.YteoncpkfinheoaaToksP
namespace Go.Proofs.Yteoncpkfinheoaa
open Go.ChangeShapes Go.WideShapes Go.ChangeAt Go.RowKit Go.Joins Go.Deep
set_option linter.unusedVariables false

theorem cellsStr : Try.prog.cellsOf 9 = 1 := by kernel_rfl

section
variable {H : Type} {enc : TypeId × Value → H} {W : World} {held : Bool}

theorem flat_str (T : List ByteArray) : flat (fun s : ByteArray => [Value.string s]) T = T.map .string := by
  induction T with
  | nil => rfl
  | cons x T ih => rw [flat_cons, ih]; rfl

theorem sls_of_trod {fuel : Nat} {v : Value} {y : DataW H × List MemPlace} (h : DataW.trod enc Try.prog W 0 (fun _ => true) held fuel 28 [v] = some y) :
    ∃ ao n c T, v = .slice ao n c ∧ SlS W ao n c T ∧ ∀ s ∈ T, s.size ≤ maxLen := by
  rcases open_slice1 Try.underlying28 cellsStr h with ⟨hcs, _⟩ | ⟨a, len, cap, m, n, V, D, Pl, hcs, _, hl, hm, hmm, _, hi⟩
  · simp at hcs
    subst hcs
    exact ⟨none, 0, 0, [], rfl, Sl.none, by simp⟩
  · simp at hcs
    subst hcs
    simp at hmm
    subst hmm
    obtain ⟨T, hT, hR⟩ := slF_mk (enc := fun s : ByteArray => [Value.string s]) (s := 1) (n := len) (cap := m) (w := W) (a := a) (R := fun s => s.size ≤ maxLen) (fun _ => rfl) (by omega) hl hm (by
      intro i hi2
      obtain ⟨hc, ht⟩ := hi i (by omega)
      obtain ⟨s, es, _, hs⟩ := DataW.trod_string Try.underlying9 ht
      simp at es
      refine ⟨s, fun j u hu => ?_, hs⟩
      match j, hu with
      | 0, hu => simp at hu; subst hu; rw [Nat.mul_one, Nat.add_zero, hc, es]
      | j + 1, hu => simp at hu)
    rw [flat_str] at hT
    exact ⟨some a, len, m, T, rfl, ⟨by have := hT.len; omega, hT.le, hT.max, hT.nil, hT.at_⟩, hR⟩

theorem spStruct : ∃ f0 f1 : Field, Try.prog.underlying 48 = some (.struct #[f0, f1]) ∧ f0.type = 9 ∧ f1.type = 3 ∧ oneCellFields Try.prog #[f0, f1] = true :=
  ⟨_, _, Try.underlying48, rfl, rfl, by kernel_rfl⟩
theorem cellsSp : Try.prog.cellsOf 48 = 2 := by kernel_rfl
theorem rwStruct : ∃ f0 f1 : Field, Try.prog.underlying 27 = some (.struct #[f0, f1]) ∧ f0.type = 9 ∧ f1.type = 3 ∧ oneCellFields Try.prog #[f0, f1] = true :=
  ⟨_, _, Try.underlying27, rfl, rfl, by kernel_rfl⟩
theorem cellsRw : Try.prog.cellsOf 27 = 2 := by kernel_rfl
theorem mgStruct : ∃ f0 f1 f2 f3 : Field, Try.prog.underlying 51 = some (.struct #[f0, f1, f2, f3]) ∧ f0.type = 3 ∧ f1.type = 3 ∧ f2.type = 3 ∧ f3.type = 3 ∧ oneCellFields Try.prog #[f0, f1, f2, f3] = true :=
  ⟨_, _, _, _, Try.underlying51, rfl, rfl, rfl, rfl, by kernel_rfl⟩
theorem cellsMg : Try.prog.cellsOf 51 = 4 := by kernel_rfl

theorem sps_of_trod {fuel : Nat} {v : Value} {y : DataW H × List MemPlace} (h : DataW.trod enc Try.prog W 0 (fun _ => true) held fuel 23 [v] = some y) :
    ∃ ao n c S, v = .slice ao n c ∧ SlF 2 W ao n c (flat Sp.enc S) ∧ ∀ s ∈ S, s.name.size ≤ maxLen := by
  obtain ⟨f0, f1, hu, e0, e1, hone⟩ := spStruct
  rcases open_slice_fields Try.underlying23 hu hone (by rw [cellsSp]; rfl) h with ⟨hcs, _⟩ | ⟨a, len, cap, m, D, Pl, hcs, _, hl, hm, hmm, _, hrow⟩
  · simp at hcs
    subst hcs
    exact ⟨_, _, _, [], rfl, SlF.nothing _, by simp⟩
  · simp at hcs
    subst hcs
    simp at hmm
    subst hmm
    obtain ⟨S, hS, hR⟩ := slF_mk (enc := Sp.enc) (s := 2) (n := len) (cap := m) (w := W) (a := a) (R := fun x => x.name.size ≤ maxLen) Sp.enc_len (by omega) hl hm (by
      intro i hi
      obtain ⟨ys, n', _, _, _, hf⟩ := hrow i (by omega)
      obtain ⟨u0, y0, c0, _, t0⟩ := hf 0 f0 rfl
      obtain ⟨u1, y1, c1, _, t1⟩ := hf 1 f1 rfl
      rw [e0] at t0
      rw [e1] at t1
      obtain ⟨s, es, _, hs⟩ := DataW.trod_string Try.underlying9 t0
      obtain ⟨z, ez, _, _⟩ := DataW.trod_int Try.underlying3 t1
      simp at es ez
      subst es ez
      refine ⟨⟨s, z⟩, fun j u hu => ?_, hs⟩
      match j, hu with
      | 0, hu => simp [Sp.enc] at hu; subst hu; exact c0
      | 1, hu => simp [Sp.enc] at hu; subst hu; exact c1
      | j + 2, hu => simp [Sp.enc] at hu)
    exact ⟨_, _, _, S, rfl, hS, hR⟩

theorem rws_of_trod {fuel : Nat} {v : Value} {y : DataW H × List MemPlace} (h : DataW.trod enc Try.prog W 0 (fun _ => true) held fuel 22 [v] = some y) :
    ∃ ao n c R, v = .slice ao n c ∧ SlF 2 W ao n c (flat Rw.enc R) ∧ ∀ r ∈ R, r.token.size ≤ maxLen := by
  obtain ⟨f0, f1, hu, e0, e1, hone⟩ := rwStruct
  rcases open_slice_fields Try.underlying22 hu hone (by rw [cellsRw]; rfl) h with ⟨hcs, _⟩ | ⟨a, len, cap, m, D, Pl, hcs, _, hl, hm, hmm, _, hrow⟩
  · simp at hcs
    subst hcs
    exact ⟨_, _, _, [], rfl, SlF.nothing _, by simp⟩
  · simp at hcs
    subst hcs
    simp at hmm
    subst hmm
    obtain ⟨S, hS, hR⟩ := slF_mk (enc := Rw.enc) (s := 2) (n := len) (cap := m) (w := W) (a := a) (R := fun x => x.token.size ≤ maxLen) Rw.enc_len (by omega) hl hm (by
      intro i hi
      obtain ⟨ys, n', _, _, _, hf⟩ := hrow i (by omega)
      obtain ⟨u0, y0, c0, _, t0⟩ := hf 0 f0 rfl
      obtain ⟨u1, y1, c1, _, t1⟩ := hf 1 f1 rfl
      rw [e0] at t0
      rw [e1] at t1
      obtain ⟨s, es, _, hs⟩ := DataW.trod_string Try.underlying9 t0
      obtain ⟨z, ez, _, _⟩ := DataW.trod_int Try.underlying3 t1
      simp at es ez
      subst es ez
      refine ⟨⟨s, z⟩, fun j u hu => ?_, hs⟩
      match j, hu with
      | 0, hu => simp [Rw.enc] at hu; subst hu; exact c0
      | 1, hu => simp [Rw.enc] at hu; subst hu; exact c1
      | j + 2, hu => simp [Rw.enc] at hu)
    exact ⟨_, _, _, S, rfl, hS, hR⟩

theorem mgs_of_trod {fuel : Nat} {v : Value} {y : DataW H × List MemPlace} (h : DataW.trod enc Try.prog W 0 (fun _ => true) held fuel 29 [v] = some y) :
    ∃ ao n c M, v = .slice ao n c ∧ SlF 4 W ao n c (flat Mg.enc M) := by
  obtain ⟨f0, f1, f2, f3, hu, e0, e1, e2, e3, hone⟩ := mgStruct
  rcases open_slice_fields Try.underlying29 hu hone (by rw [cellsMg]; rfl) h with ⟨hcs, _⟩ | ⟨a, len, cap, m, D, Pl, hcs, _, hl, hm, hmm, _, hrow⟩
  · simp at hcs
    subst hcs
    exact ⟨_, _, _, [], rfl, SlF.nothing _⟩
  · simp at hcs
    subst hcs
    simp at hmm
    subst hmm
    obtain ⟨M, hM, _⟩ := slF_mk (enc := Mg.enc) (s := 4) (n := len) (cap := m) (w := W) (a := a) (R := fun _ => True) Mg.enc_len (by omega) hl hm (by
      intro i hi
      obtain ⟨ys, n', _, _, _, hf⟩ := hrow i (by omega)
      obtain ⟨u0, y0, c0, _, t0⟩ := hf 0 f0 rfl
      obtain ⟨u1, y1, c1, _, t1⟩ := hf 1 f1 rfl
      obtain ⟨u2, y2, c2, _, t2⟩ := hf 2 f2 rfl
      obtain ⟨u3, y3, c3, _, t3⟩ := hf 3 f3 rfl
      rw [e0] at t0
      rw [e1] at t1
      rw [e2] at t2
      rw [e3] at t3
      obtain ⟨z0, ez0, _, _⟩ := DataW.trod_int Try.underlying3 t0
      obtain ⟨z1, ez1, _, _⟩ := DataW.trod_int Try.underlying3 t1
      obtain ⟨z2, ez2, _, _⟩ := DataW.trod_int Try.underlying3 t2
      obtain ⟨z3, ez3, _, _⟩ := DataW.trod_int Try.underlying3 t3
      simp at ez0 ez1 ez2 ez3
      subst ez0 ez1 ez2 ez3
      refine ⟨⟨z0, z1, z2, z3⟩, fun j u hu => ?_, trivial⟩
      match j, hu with
      | 0, hu => simp [Mg.enc] at hu; subst hu; exact c0
      | 1, hu => simp [Mg.enc] at hu; subst hu; exact c1
      | 2, hu => simp [Mg.enc] at hu; subst hu; exact c2
      | 3, hu => simp [Mg.enc] at hu; subst hu; exact c3
      | j + 4, hu => simp [Mg.enc] at hu)
    exact ⟨_, _, _, M, rfl, hM⟩

theorem cellsVoc : Try.prog.cellsOf 31 = 3 := by kernel_rfl

set_option maxRecDepth 100000 in
theorem voc_open {v : Value} {d : DataW H} {p : List MemPlace} {r : Reach} {b0 : Nat}
    (hv : Value.okWide Try.prog W r b0 31 v) (h : DataW.Trod enc Try.prog W 0 (fun _ => true) held 31 v d p) :
    ∃ dd V, v = Vd.val dd ∧ VocR W dd V ∧ (∀ s ∈ V.tokens, s.size ≤ maxLen) ∧ (∀ s ∈ V.specials, s.name.size ≤ maxLen) := by
  obtain ⟨v0, v1, v2, y0, y1, y2, n, rfl, _, _, h0, h1, h2⟩ := open_agg3 Try.underlying31 (by kernel_rfl) cellsVoc hv h
  obtain ⟨ta, tn, tc, T, rfl, hT, hsT⟩ := sls_of_trod h0
  obtain ⟨ma, mn, mc, M, rfl, hM⟩ := mgs_of_trod h1
  obtain ⟨sa, sn, sc, S, rfl, hS, hsS⟩ := sps_of_trod h2
  exact ⟨⟨ta, tn, tc, ma, mn, mc, sa, sn, sc⟩, ⟨T, M, S⟩, rfl, ⟨hT, hM, hS⟩, hsT, hsS⟩

set_option maxRecDepth 100000 in
theorem rws_open {v : Value} {d : DataW H} {p : List MemPlace} {r : Reach} {b0 : Nat}
    (hv : Value.okWide Try.prog W r b0 22 v) (h : DataW.Trod enc Try.prog W 0 (fun _ => true) held 22 v d p) :
    ∃ ao n c R, v = .slice ao n c ∧ SlF 2 W ao n c (flat Rw.enc R) ∧ ∀ r ∈ R, r.token.size ≤ maxLen := by
  obtain ⟨a, n, c, rfl⟩ := okWide_slice Try.underlying22 hv
  obtain ⟨fuel, hf⟩ := h
  exact rws_of_trod (by simpa [Value.cells] using hf)
set_option maxRecDepth 100000 in
theorem sps_open {v : Value} {d : DataW H} {p : List MemPlace} {r : Reach} {b0 : Nat}
    (hv : Value.okWide Try.prog W r b0 23 v) (h : DataW.Trod enc Try.prog W 0 (fun _ => true) held 23 v d p) :
    ∃ ao n c S, v = .slice ao n c ∧ SlF 2 W ao n c (flat Sp.enc S) ∧ ∀ s ∈ S, s.name.size ≤ maxLen := by
  obtain ⟨a, n, c, rfl⟩ := okWide_slice Try.underlying23 hv
  obtain ⟨fuel, hf⟩ := h
  exact sps_of_trod (by simpa [Value.cells] using hf)
end

end Go.Proofs.Yteoncpkfinheoaa
