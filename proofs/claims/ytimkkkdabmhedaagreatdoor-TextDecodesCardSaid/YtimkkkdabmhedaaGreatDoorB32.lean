/- What Put's stores make of the cache. Plain lemmas. -/
import Derived.Test.YtimkkkdabmhedaaGreatDoorB31
namespace Go.Proofs.YtimkkkdabmhedaaGreatDoor
open Go.RowKit
set_option linter.unusedVariables false

theorem SlI.keep0 {w w' : World} {ao : Option Addr} {n cap : Nat} {A : List Int} (h : SlI w ao n cap A) (hb : ∀ ad, ao = some ad → 0 < n → w'.heap[ad.block]? = w.heap[ad.block]?) : SlI w' ao n cap A :=
  ⟨Sl.len h, Sl.le h, Sl.max h, Sl.nil h, fun i u hu => let ⟨b, o, e, c⟩ := Sl.at_ h i u hu; ⟨b, o, e, by
    have hl := Sl.len h
    have := (List.getElem?_eq_some_iff.1 hu).1
    rw [World.cell?_of_block (w := w) (a := ⟨b, o + i, .none⟩) (hb ⟨b, o, .none⟩ e (by omega))]; exact c⟩⟩

theorem Own.stay {w w' : World} {base : Nat} {v : Value} {A : List Int} (h : Own w base v A) (hb : ∀ k, base ≤ k → k < w.heap.size → w'.heap[k]? = w.heap[k]?) : Own w' base v A := by
  obtain ⟨h1, h2⟩ := h
  rcases h2 with h2 | ⟨g, cap, cur, e, hg, hh, r⟩
  · exact ⟨h1, .inl h2⟩
  · have hlt : g < w.heap.size := by
      rcases Nat.lt_or_ge g w.heap.size with h' | h'
      · exact h'
      · rw [Array.getElem?_eq_none h'] at hh; cases hh
    exact ⟨h1, .inr ⟨g, cap, cur, e, hg, (hb g hg hlt).trans hh, r⟩⟩

theorem Own.set {w : World} {base : Nat} {v : Value} {A : List Int} (h : Own w base v A) {b o : Nat} (hb : b < base) (x : Value) : Own (w.setCell ⟨b, o, none⟩ x) base v A :=
  h.stay fun k h1 h2 => heap_set_other (by omega)

theorem Own.rowOK {w : World} {base top cb mb : Nat} {no : Option Addr} {vo : Option Addr} {n vc : Nat} {A : List Int} (h : Own w top (.slice vo n vc) A) (hb : base ≤ top) (hf : ∀ k, Ft cb mb no k → k < top) :
    SlI w vo n vc A ∧ ∀ ad, vo = some ad → base ≤ ad.block ∧ ad.block < w.heap.size ∧ ¬ Ft cb mb no ad.block := by
  obtain ⟨vo', vc', e, hs⟩ := h.sl
  simp at e
  obtain ⟨rfl, rfl, rfl⟩ := e
  refine ⟨hs, fun ad e => ?_⟩
  subst e
  obtain ⟨_, h2⟩ := h.block
  rcases h2 with ⟨h3, _⟩ | ⟨g, cur, h3, h4, h5, _⟩
  · cases h3
  · simp at h3
    subst h3
    have hlt : g < w.heap.size := by
      rcases Nat.lt_or_ge g w.heap.size with h' | h'
      · exact h'
      · rw [Array.getElem?_eq_none h'] at h5; cases h5
    exact ⟨by show base ≤ g; omega, hlt, fun h => by have h7 := hf _ h; have h8 : g < top := h7; omega⟩

section
variable {w : World} {base top cb nb mb m cap sz : Nat} {N : Nat → Nd} {e y room hits misses : Int} {ord : List Nat} {f : ByteArray → Option Int} {R : Nat → List Int}

theorem CSt.cmem' (h : CSt w base top cb mb (some ⟨nb, 0, none⟩) m cap N e y room hits misses ord sz f R) (hm : 0 < m) : CMem w cb nb mb m cap N e y room hits misses ∧ mb ≠ nb ∧ base ≤ nb ∧ nb < top := by
  obtain ⟨nb', e, h⟩ := h.cmem hm
  simp at e
  subst e
  exact h

theorem CMem.setKey (h : CMem w cb nb mb m cap N e y room hits misses) {k : Nat} (hk : k < m) (s : ByteArray) : CMem (w.setCell ⟨nb, k * 4, none⟩ (.string s)) cb nb mb m cap (upd N k { N k with key := s }) e y room hits misses :=
  ⟨h.f.stay (heap_set_other h.ne), h.n.store hk (j := 0) (by omega) _ _ rfl, h.ne⟩
theorem CMem.setRow (h : CMem w cb nb mb m cap N e y room hits misses) {k : Nat} (hk : k < m) (vo : Option Addr) (n vc : Nat) : CMem (w.setCell ⟨nb, k * 4 + 1, none⟩ (.slice vo n vc)) cb nb mb m cap (upd N k { N k with ro := vo, rn := n, rc := vc }) e y room hits misses :=
  ⟨h.f.stay (heap_set_other h.ne), h.n.store hk (j := 1) (by omega) _ _ rfl, h.ne⟩
theorem CMem.below {w' : World} (h : CMem w cb nb mb m cap N e y room hits misses) (hb : Below w.heap.size w w') : CMem w' cb nb mb m cap N e y room hits misses :=
  h.stay (hb.block _ h.lt) (hb.block _ h.n.lt)

/-- Behind the two stores of Put. -/
def Mid (w1 : World) (cb nb mb m cap : Nat) (N : Nat → Nd) (i : Nat) (key : ByteArray) (n : Nat) (A : List Int) (e y room hits misses : Int) (w2 : World) : Prop :=
  ∃ vo vc N2, CMem w2 cb nb mb m cap N2 e y room hits misses ∧ N2 i = { N i with key := key, ro := vo, rn := n, rc := vc } ∧ (∀ j, j ≠ i → N2 j = N j) ∧ Own w2 w1.heap.size (.slice vo n vc) A ∧ Keeps (fun k => k = nb) w1 w2

theorem mid_a {w1 w3 : World} {i : Nat} {key : ByteArray} {n vc : Nat} {vo : Option Addr} {A : List Int} (hi : i < m) (h : CMem w3 cb nb mb m cap N e y room hits misses) (hb : Below w1.drew.heap.size w1.drew w3) (hnb : nb < w1.heap.size) (ho : Own w3 w1.drew.heap.size (.slice vo n vc) A) :
    Mid w1 cb nb mb m cap N i key n A e y room hits misses ((w3.setCell ⟨nb, i * 4, none⟩ (.string key)).setCell ⟨nb, i * 4 + 1, none⟩ (.slice vo n vc)) := by
  refine ⟨vo, vc, _, (h.setKey hi key).setRow hi vo n vc, by simp [upd], fun j hj => by simp [upd, hj], (Own.set (Own.set ho hnb _) hnb _), ?_⟩
  exact (((Keeps.refl (fun k => k = nb) w1).drew.trans (Keeps.of_below hb)).set (p := ⟨nb, i * 4, none⟩) rfl _).set (p := ⟨nb, i * 4 + 1, none⟩) rfl _

theorem mid_b {w1 w3 : World} {i : Nat} {key : ByteArray} {n vc : Nat} {vo : Option Addr} {A : List Int} (hi : i < m) (h : CMem w3 cb nb mb m cap N e y room hits misses) (hb : Below w1.drew.heap.size w1.drew w3) (hnb : nb < w1.heap.size) (ho : Own w3 w1.drew.heap.size (.slice vo n vc) A) :
    Mid w1 cb nb mb m cap N i key n A e y room hits misses ((w3.setCell ⟨nb, i * 4 + 1, none⟩ (.slice vo n vc)).setCell ⟨nb, i * 4, none⟩ (.string key)) := by
  refine ⟨vo, vc, _, (h.setRow hi vo n vc).setKey hi key, by simp [upd], fun j hj => by simp [upd, hj], (Own.set (Own.set ho hnb _) hnb _), ?_⟩
  exact (((Keeps.refl (fun k => k = nb) w1).drew.trans (Keeps.of_below hb)).set (p := ⟨nb, i * 4 + 1, none⟩) rfl _).set (p := ⟨nb, i * 4, none⟩) rfl _

theorem mid_c {w1 w3 : World} {i : Nat} {key : ByteArray} {n vc : Nat} {vo : Option Addr} {A : List Int} (hi : i < m) (h : CMem w3 cb nb mb m cap (upd N i { N i with key := key }) e y room hits misses)
    (hb : Below (w1.setCell ⟨nb, i * 4, none⟩ (.string key)).drew.heap.size (w1.setCell ⟨nb, i * 4, none⟩ (.string key)).drew w3) (hnb : nb < w1.heap.size) (ho : Own w3 (w1.setCell ⟨nb, i * 4, none⟩ (.string key)).drew.heap.size (.slice vo n vc) A) :
    Mid w1 cb nb mb m cap N i key n A e y room hits misses (w3.setCell ⟨nb, i * 4 + 1, none⟩ (.slice vo n vc)) := by
  have hs : (w1.setCell ⟨nb, i * 4, none⟩ (.string key)).drew.heap.size = w1.heap.size := by simp
  rw [hs] at ho
  refine ⟨vo, vc, _, h.setRow hi vo n vc, by simp [upd], fun j hj => by simp [upd, hj], (Own.set ho hnb _), ?_⟩
  exact ((((Keeps.refl (fun k => k = nb) w1).set (p := ⟨nb, i * 4, none⟩) rfl _).drew.trans (Keeps.of_below hb)).set (p := ⟨nb, i * 4 + 1, none⟩) rfl _)

/-- A place out of the chain gets a key and a row; the map tells so. -/
theorem CSt.reput {w' : World} {i : Nat} {N2 : Nat → Nd} {vo : Option Addr} {n vc sz' : Nat} {A : List Int} {f' : ByteArray → Option Int} {key : ByteArray} (h : CSt w base top cb mb (some ⟨nb, 0, none⟩) m cap N e y room hits misses ord sz f R) (hi : i < m) (hni : i ∉ ord)
    (htop : top ≤ w.heap.size) (htop2 : w.heap.size ≤ w'.heap.size) (hc : CMem w' cb nb mb m cap N2 e y room hits misses) (hN2 : N2 i = { N i with key := key, ro := vo, rn := n, rc := vc }) (hN2' : ∀ j, j ≠ i → N2 j = N j) (hmp : MapSI w' mb sz' f')
    (hblk : ∀ k, k < top → k ≠ nb → k ≠ mb → w'.heap[k]? = w.heap[k]?) (hown : Own w' w.heap.size (.slice vo n vc) A) (hmn : mb ≠ nb) (hbn : base ≤ nb ∧ nb < top) (hkl : key.size ≤ maxLen) :
    CSt w' base w'.heap.size cb mb (some ⟨nb, 0, none⟩) m cap N2 e y room hits misses ord sz' f' (upd R i A) := by
  have hbc := h.bc
  have hbm := h.bm
  refine ⟨hc.f, .inr ⟨nb, rfl, hc.n, hc.ne, hmn, hbn.1, by omega⟩, hmp, h.ch.congr fun j hj => ?_, h.lt, h.cm, ⟨hbc.1, by omega⟩, ⟨hbm.1, by omega⟩, fun j hj => ?_, fun j hj => ?_⟩
  · rw [hN2' j (fun e => hni (e ▸ hj))]; exact ⟨rfl, rfl⟩
  · by_cases ej : j = i
    · subst ej
      rw [upd_same, RowOK, hN2]
      refine Own.rowOK hown (by omega) fun k hk => ?_
      rcases hk with h1 | h1 | h1
      · omega
      · omega
      · simp at h1; omega
    · rw [upd_other _ _ _ _ ej, hN2' j ej]
      obtain ⟨h1, h2⟩ := h.rows j hj
      refine ⟨h1.keep fun ad e => hblk _ (h2 ad e).2.1 (fun e' => (h2 ad e).2.2 (.inr (.inr (by rw [e'])))) (fun e' => (h2 ad e).2.2 (.inr (.inl e'))), fun ad e => ?_⟩
      obtain ⟨a1, a2, a3⟩ := h2 ad e
      exact ⟨a1, by omega, a3⟩
  · by_cases ej : j = i
    · subst ej; rw [hN2]; exact hkl
    · rw [hN2' j ej]; exact h.keys j hj
end

end Go.Proofs.YtimkkkdabmhedaaGreatDoor
