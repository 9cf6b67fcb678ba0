/- Put, once more: blocks that lie between the cache's and the call's stay free. -/
import Derived.Test.YtjfpbhdcbjaahaaPutB
import Derived.Test.YtjfpbhdcbjaahaaRunes
namespace Go.Proofs.Ytjfpbhdcbjaahaa
open Go.RowKit
set_option linter.unusedVariables false

/-- The cache looks at no other blocks than its own and its rows'. -/
theorem CSt.within {w w' : World} {base top cb mb m cap sz : Nat} {no : Option Addr} {N : Nat → Nd} {e y room hits misses : Int} {ord : List Nat} {f : ByteArray → Option Int} {R : Nat → List Int}
    (h : CSt w base top cb mb no m cap N e y room hits misses ord sz f R) (h1 : ∀ k, Ft cb mb no k → w'.heap[k]? = w.heap[k]?) (h2 : ∀ i, i < m → ∀ ad, (N i).ro = some ad → w'.heap[ad.block]? = w.heap[ad.block]?) :
    CSt w' base top cb mb no m cap N e y room hits misses ord sz f R := by
  refine ⟨h.fl.stay (h1 cb (.inl rfl)), ?_, h.mp.stay (h1 mb (.inr (.inl rfl))), h.ch, h.lt, h.cm, h.bc, h.bm, fun i hi => ?_, h.keys⟩
  · rcases h.nd with h' | ⟨nb, e1, e2, e3, e4, e5, e6⟩
    · exact .inl h'
    · exact .inr ⟨nb, e1, e2.stay (h1 nb (.inr (.inr e1))), e3, e4, e5, e6⟩
  · obtain ⟨a1, a2⟩ := h.rows i hi
    exact ⟨a1.keep fun ad e => h2 i hi ad e, a2⟩

theorem held_ro {a b : Nd} (h : a.held = b.held) : a.ro = b.ro ∧ a.key = b.key := by
  simp only [Nd.held, Prod.mk.injEq] at h
  exact ⟨h.2.1, h.1⟩

section
variable {w : World} {base T cb mb : Nat} {no : Option Addr} {l : List Row} {room hits misses : Int}

/-- Whatever comes to stand in the blocks from T on that were there ahead of Put: the cache is the same. -/
theorem crep_putB (h : CRep w base T cb mb no l room hits misses) (hT : T ≤ w.heap.size) (key : ByteArray) (hkl : key.size ≤ maxLen) (hroom : 0 < room) (hroom2 : room ≤ 1048576) (hl : (l.length : Int) ≤ room) (hl2 : l.length < 1048576)
    {ao : Option Addr} {n c : Nat} {A : List Int} (hA : SlI w ao n c A) (hAo : ∀ ad, ao = some ad → ad.block < w.heap.size ∧ ¬ Ft cb mb no ad.block) (hlim : n ≤ 1048576) (hfr : ∀ p ∈ l, p.1 ≠ key) (hlr : (l.length : Int) < room) :
    Calls Try.prog 9 #[.pointer (some ⟨cb, 0, none⟩), .string key, .slice ao n c] w fun en w' => en = .returned (.tuple #[]) ∧ ∃ no',
      (∀ w'', Keeps (fun k => T ≤ k ∧ k < w.heap.size) w' w'' → CRep w'' base w''.heap.size cb mb no' (l ++ [(key, A)]) room hits misses) ∧ Keeps (Ft cb mb no) w w' := by
  obtain ⟨m, cap, N, e, y, ord, sz, f, R, hc, hg, rfl⟩ := h
  rw [List.length_map] at hl hl2 hlr
  have hlen := hg.len
  have hm := hg.m_
  have hAl := hA.len
  have hne : ∀ i ∈ ord, (N i).key ≠ key := fun i hi => hfr _ (List.mem_map.2 ⟨i, hi, rfl⟩)
  have hf : f key = none := hg.miss.2 hne
  have hni : m ∉ ord := fun hi => by have := hc.lt m hi; omega
  refine (put_newB (hc.up hT) key hkl hroom hA hAo hlim (by omega) hf (by omega) (by omega) rfl).mono ?_
  rintro en w' ⟨rfl, g, cap', N', e', y', h1, h2, h3, h4, h5, h6⟩
  have hRR : ∀ j ∈ ord, upd (upd R m []) m A j = R j := fun j hj => by
    have : j ≠ m := fun e => hni (e ▸ hj)
    rw [upd_other _ _ _ _ this, upd_other _ _ _ _ this]
  refine ⟨rfl, some ⟨g, 0, none⟩, fun w'' hk => ?_, h5⟩
  have hsz' : w.heap.size ≤ w'.heap.size := h5.size
  have hft : ∀ k, Ft cb mb (some ⟨g, 0, none⟩) k → k < w'.heap.size ∧ ¬ (T ≤ k ∧ k < w.heap.size) := by
    intro k hk'
    have hb := hc.bc
    have hb2 := hc.bm
    rcases hk' with h | h | h
    · subst h; exact ⟨by have := h1.bc; omega, by omega⟩
    · subst h; exact ⟨by have := h1.bm; omega, by omega⟩
    · simp at h
      subst h
      refine ⟨?_, fun h7 => ?_⟩
      · rcases h1.nd with ⟨e1, _⟩ | ⟨nb, e1, _, _, _, _, e6⟩
        · cases e1
        · simp at e1; omega
      · rcases h6 with h8 | h8
        · rcases hc.nd with ⟨e1, _⟩ | ⟨nb, e1, _, _, _, _, e6⟩
          · rw [e1] at h8; cases h8
          · rw [e1] at h8; injection h8 with h8; injection h8 with h8; omega
        · omega
  have hw := h1.within (w' := w'') (fun k hk' => hk.block k (hft k hk').1 (hft k hk').2) (fun i hi ad had => by
    refine hk.block _ ((h1.rows i hi).2 ad had).2.1 fun h7 => ?_
    by_cases ei : i = m
    · subst ei
      have := h4 ad had
      omega
    · rw [(held_ro (h2 i ei)).1] at had
      have := ((hc.rows i (by omega)).2 ad had).2.1
      omega)
  refine ⟨m + 1, cap', N', e', y', _, sz + 1, _, _, hw.up hk.size, ⟨by simp; omega, by omega, fun s c => ?_, fun j hj => ?_⟩, ?_⟩
  · exact at_put (N := N) (fun s c hs => hg.at_ s c) hne hni (fun j hj => (held_ro (h2 j hj)).2) h3 s c
  · rcases List.mem_append.1 hj with h | h
    · rw [hRR j h]; exact hg.lim j h
    · simp at h; subst h; rw [upd_same]; omega
  · rw [← young_new (N' := N') (R := R) (R' := upd (upd R m []) m A) (A := A) hne (fun j hj => ⟨(held_ro (h2 j (fun e => hni (e ▸ hj)))).2, hRR j hj⟩) h3 (upd_same _ _ _)]
    exact (young_fresh hfr).symm

end

end Go.Proofs.Ytjfpbhdcbjaahaa
