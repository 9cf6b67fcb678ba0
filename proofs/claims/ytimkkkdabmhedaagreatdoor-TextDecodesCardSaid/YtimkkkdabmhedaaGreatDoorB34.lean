/- Walk: Keys. -/
import Derived.Test.YtimkkkdabmhedaaGreatDoorB32
import Derived.Deep.AppendLies
import Derived.Test.YtimkkkdabmhedaaGreatDoorB33
namespace Go.Proofs.YtimkkkdabmhedaaGreatDoor
open Go.RowKit
set_option linter.unusedVariables false

/-- A row of strings of the call's own. -/
def OwnS (w : World) (base : Nat) (v : Value) (ks : List ByteArray) : Prop := w.ownsRow base 9 1 v ks.length (ks.map .string)

theorem OwnS.len {w : World} {base : Nat} {vo : Option Addr} {n vc : Nat} {ks : List ByteArray} (h : OwnS w base (.slice vo n vc) ks) : n = ks.length := by
  obtain ⟨_, h2⟩ := h
  rcases h2 with ⟨hv, hn⟩ | ⟨g, cap, cur, hv, _⟩
  · simp at hv; omega
  · simp at hv; omega

theorem OwnS.cell {w : World} {base : Nat} {vo : Option Addr} {n vc : Nat} {ks : List ByteArray} (h : OwnS w base (.slice vo n vc) ks) {i : Nat} (hi : i < n) : n ≤ vc ∧ vc ≤ maxLen ∧ ∃ g, vo = some ⟨g, 0, none⟩ ∧ base ≤ g ∧ g < w.heap.size ∧ w.cell? ⟨g, i, none⟩ = some (.string (ks.getD i ByteArray.empty)) := by
  have hn := h.len
  obtain ⟨h1, h2⟩ := id h
  rcases h2 with ⟨hv, hn⟩ | ⟨g, cap, cur, hv, hg, hh, hle, hm, hs, ht⟩
  · simp at hv; omega
  · simp at hv
    obtain ⟨rfl, hnn, rfl⟩ := hv
    have hlt : g < w.heap.size := by
      rcases Nat.lt_or_ge g w.heap.size with h' | h'
      · exact h'
      · rw [Array.getElem?_eq_none h'] at hh; cases hh
    refine ⟨by omega, hm, g, rfl, hg, hlt, ?_⟩
    have e1 := World.ownsRow.cells h (g := g) rfl i (.string (ks.getD i ByteArray.empty)) (by rw [List.getElem?_map, List.getElem?_eq_getElem (by omega)]; simp [List.getD, List.getElem?_eq_getElem (show i < ks.length by omega)])
    rw [Addr.add_lit, Nat.zero_add] at e1
    exact e1

theorem OwnS.below {w w' : World} {base : Nat} {v : Value} {ks : List ByteArray} (h : OwnS w base v ks) (hb : Below w.heap.size w w') : OwnS w' base v ks := by
  obtain ⟨h1, h2⟩ := h
  rcases h2 with h2 | ⟨g, cap, cur, e, hg, hh, r⟩
  · exact ⟨h1, .inl h2⟩
  · have hlt : g < w.heap.size := by
      rcases Nat.lt_or_ge g w.heap.size with h' | h'
      · exact h'
      · rw [Array.getElem?_eq_none h'] at hh; cases hh
    exact ⟨h1, .inr ⟨g, cap, cur, e, hg, (hb.block g hlt).trans hh, r⟩⟩

section
variable {w : World} {base top cb mb m cap sz : Nat} {no : Option Addr} {N : Nat → Nd} {e y room hits misses : Int} {ord : List Nat} {f : ByteArray → Option Int} {R : Nat → List Int}

end

end Go.Proofs.YtimkkkdabmhedaaGreatDoor

/- Walks: the cache that is nil; that has no room. -/
namespace Go.Proofs.YtimkkkdabmhedaaGreatDoor
open Go.RowKit
set_option linter.unusedVariables false

theorem put_zero {w : World} {base top cb mb m cap sz : Nat} {no : Option Addr} {N : Nat → Nd} {e y hits misses : Int} {ord : List Nat} {f : ByteArray → Option Int} {R : Nat → List Int} (h : CSt w base top cb mb no m cap N e y 0 hits misses ord sz f R) (key : ByteArray) (ao : Option Addr) (n c : Nat) :
    Calls Tryz.prog 119 #[.pointer (some ⟨cb, 0, none⟩), .string key, .slice ao n c] w fun en w' => en = .returned (.tuple #[]) ∧ Below w.heap.size w w' := by
  have f4 := h.fl.f4
  clear h
  go_enter Tryz.func119, Tryz.ntmps119
  go_wp2
  refine bodyPost_ret (results_none rfl _ _ _) rfl ⟨rfl, Below.refl _ _⟩

end Go.Proofs.YtimkkkdabmhedaaGreatDoor

/- The cache as a row of keys and rows: what each call makes of it. -/
namespace Go.Proofs.YtimkkkdabmhedaaGreatDoor
open Go.RowKit
set_option linter.unusedVariables false

abbrev Row := ByteArray × List Int

/-- The map tells of the chain. -/
structure Good (ord : List Nat) (N : Nat → Nd) (R : Nat → List Int) (sz m : Nat) (f : ByteArray → Option Int) : Prop where
  len : ord.length = sz
  m_ : m = sz
  at_ : ∀ s c, f s = some c ↔ ∃ i ∈ ord, c = (i : Int) ∧ (N i).key = s
  lim : ∀ i ∈ ord, (R i).length ≤ 1048576

def CRep (w : World) (base top cb mb : Nat) (no : Option Addr) (l : List Row) (room hits misses : Int) : Prop :=
  ∃ m cap N e y ord sz f R, CSt w base top cb mb no m cap N e y room hits misses ord sz f R ∧ Good ord N R sz m f ∧ l = ord.map fun i => ((N i).key, R i)

/-- A row without a key, and then with this one of it. -/
def young (l : List Row) (k : ByteArray) (A : List Int) : List Row := l.filter (fun p => p.1 ≠ k) ++ [(k, A)]
/-- With another one; no more than there is room for. -/
def putL (l : List Row) (room : Int) (k : ByteArray) (A : List Int) : List Row := if ((young l k A).length : Int) > room then (young l k A).drop 1 else young l k A

theorem Good.inj {ord : List Nat} {N : Nat → Nd} {R : Nat → List Int} {sz m : Nat} {f : ByteArray → Option Int} (h : Good ord N R sz m f) {i j : Nat} (hi : i ∈ ord) (hj : j ∈ ord) (e : (N i).key = (N j).key) : i = j := by
  have h1 := (h.at_ (N i).key i).2 ⟨i, hi, rfl, rfl⟩
  have h2 := (h.at_ (N i).key j).2 ⟨j, hj, rfl, e.symm⟩
  rw [h1] at h2
  simp at h2
  omega

theorem Good.miss {ord : List Nat} {N : Nat → Nd} {R : Nat → List Int} {sz m : Nat} {f : ByteArray → Option Int} (h : Good ord N R sz m f) {k : ByteArray} : f k = none ↔ ∀ i ∈ ord, (N i).key ≠ k := by
  constructor
  · intro hf i hi e
    have := (h.at_ k i).2 ⟨i, hi, rfl, e⟩
    rw [hf] at this; cases this
  · intro hall
    cases hf : f k with
    | none => rfl
    | some c =>
      obtain ⟨i, hi, _, e⟩ := (h.at_ k c).1 hf
      exact absurd e (hall i hi)

theorem filter_none {ord : List Nat} {N : Nat → Nd} {R : Nat → List Int} {k : ByteArray} (h : ∀ i ∈ ord, (N i).key ≠ k) : (ord.map fun i => ((N i).key, R i)).filter (fun p => p.1 ≠ k) = ord.map fun i => ((N i).key, R i) := by
  rw [List.filter_eq_self]
  intro p hp
  obtain ⟨i, hi, rfl⟩ := List.mem_map.1 hp
  simpa using h i hi

theorem young_old {pre post : List Nat} {i : Nat} {N N' : Nat → Nd} {R R' : Nat → List Int} {k : ByteArray} {A : List Int} (hk : (N i).key = k) (hne : ∀ j ∈ pre ++ post, (N j).key ≠ k) (hN : ∀ j ∈ pre ++ post, (N' j).key = (N j).key ∧ R' j = R j) (hi : (N' i).key = k) (hA : R' i = A) :
    young ((pre ++ i :: post).map fun i => ((N i).key, R i)) k A = (pre ++ post ++ [i]).map fun i => ((N' i).key, R' i) := by
  unfold young
  rw [List.map_append, List.map_cons, List.filter_append, List.filter_cons]
  rw [filter_none fun j hj => hne j (by simp [hj]), filter_none fun j hj => hne j (by simp [hj])]
  simp only [hk, ne_eq, not_true_eq_false, decide_false, Bool.false_eq_true, if_false]
  rw [List.map_append, List.map_append, List.map_cons, List.map_nil, hi, hA]
  congr 1
  congr 1
  · exact List.map_congr_left fun j hj => by rw [(hN j (by simp [hj])).1, (hN j (by simp [hj])).2]
  · exact List.map_congr_left fun j hj => by rw [(hN j (by simp [hj])).1, (hN j (by simp [hj])).2]

theorem young_new {ord : List Nat} {i : Nat} {N N' : Nat → Nd} {R R' : Nat → List Int} {k : ByteArray} {A : List Int} (hne : ∀ j ∈ ord, (N j).key ≠ k) (hN : ∀ j ∈ ord, (N' j).key = (N j).key ∧ R' j = R j) (hi : (N' i).key = k) (hA : R' i = A) :
    young (ord.map fun i => ((N i).key, R i)) k A = (ord ++ [i]).map fun i => ((N' i).key, R' i) := by
  unfold young
  rw [filter_none hne, List.map_append, List.map_cons, List.map_nil, hi, hA]
  congr 1
  exact List.map_congr_left fun j hj => by rw [(hN j hj).1, (hN j hj).2]

theorem mem_mid {pre post : List Nat} {i j : Nat} : j ∈ pre ++ i :: post ↔ j = i ∨ j ∈ pre ++ post := by
  simp only [List.mem_append, List.mem_cons]
  constructor
  · rintro (h | h | h)
    · exact .inr (.inl h)
    · exact .inl h
    · exact .inr (.inr h)
  · rintro (h | h | h)
    · exact .inr (.inl h)
    · exact .inl h
    · exact .inr (.inr h)
theorem mem_end {l : List Nat} {i j : Nat} : j ∈ l ++ [i] ↔ j = i ∨ j ∈ l := by
  simp only [List.mem_append, List.mem_singleton]
  exact Or.comm

theorem at_put {ordA : List Nat} {N N' : Nat → Nd} {i : Nat} {key : ByteArray} {fA : ByteArray → Option Int} (h1 : ∀ s c, s ≠ key → (fA s = some c ↔ ∃ j ∈ ordA, c = (j : Int) ∧ (N j).key = s)) (h2 : ∀ j ∈ ordA, (N j).key ≠ key) (h3 : i ∉ ordA)
    (hN : ∀ j, j ≠ i → (N' j).key = (N j).key) (hi : (N' i).key = key) (s : ByteArray) (c : Int) : (if s = key then some (i : Int) else fA s) = some c ↔ ∃ j ∈ ordA ++ [i], c = (j : Int) ∧ (N' j).key = s := by
  have hne : ∀ j ∈ ordA, j ≠ i := fun j hj e => h3 (e ▸ hj)
  by_cases e : s = key
  · subst e
    rw [if_pos rfl]
    constructor
    · intro h
      simp at h
      exact ⟨i, by simp, h.symm, hi⟩
    · rintro ⟨j, hj, rfl, hk⟩
      rcases List.mem_append.1 hj with h | h
      · rw [hN j (hne j h)] at hk; exact absurd hk (h2 j h)
      · simp at h; rw [h]
  · rw [if_neg e, h1 s c e]
    constructor
    · rintro ⟨j, hj, rfl, hk⟩
      exact ⟨j, by simp [hj], rfl, by rw [hN j (hne j hj)]; exact hk⟩
    · rintro ⟨j, hj, rfl, hk⟩
      rcases List.mem_append.1 hj with h | h
      · exact ⟨j, h, rfl, by rw [← hN j (hne j h)]; exact hk⟩
      · simp at h; subst h; rw [hi] at hk; exact absurd hk.symm e

section
variable {w : World} {base top cb mb : Nat} {no : Option Addr} {l : List Row} {room hits misses : Int}

theorem crep_put (h : CRep w base w.heap.size cb mb no l room hits misses) (key : ByteArray) (hkl : key.size ≤ maxLen) (hroom : 0 < room) (hroom2 : room ≤ 1048576) (hl : (l.length : Int) ≤ room) (hl2 : l.length < 1048576)
    {ao : Option Addr} {n c : Nat} {A : List Int} (hA : SlI w ao n c A) (hAo : ∀ ad, ao = some ad → 0 < n → ad.block < w.heap.size ∧ ¬ Ft cb mb no ad.block) (hlim : n ≤ 1048576) :
    Calls Tryz.prog 119 #[.pointer (some ⟨cb, 0, none⟩), .string key, .slice ao n c] w fun en w' => en = .returned (.tuple #[]) ∧ ∃ g,
      CRep w' base w'.heap.size cb mb (some ⟨g, 0, none⟩) (putL l room key A) room hits misses ∧ Keeps (Ft cb mb no) w w' ∧ At no g w.heap.size := by
  obtain ⟨m, cap, N, e, y, ord, sz, f, R, hc, hg, rfl⟩ := h
  rw [List.length_map] at hl hl2
  have hlen := hg.len
  have hm := hg.m_
  have hAl := hA.len
  cases hf : f key with
  | some ci =>
    obtain ⟨i, hi, rfl, hki⟩ := (hg.at_ key ci).1 hf
    obtain ⟨pre, post, hs⟩ := List.append_of_mem hi
    subst hs
    have hnd := hc.ch.nd
    have hni : i ∉ pre ++ post := by
      have h2 : (i :: (pre ++ post)).Nodup := (List.perm_middle.nodup_iff).1 hnd
      exact (List.nodup_cons.1 h2).1
    have hne : ∀ j ∈ pre ++ post, (N j).key ≠ key := fun j hj e => by
      have : j = i := hg.inj (by simp at hj ⊢; rcases hj with h | h <;> simp [h]) hi (by rw [e, hki])
      exact hni (this ▸ hj)
    refine (put_old hc key hkl hroom hA hAo hlim (by omega) hf rfl).mono ?_
    rintro en w' ⟨rfl, g, cap', N', e', y', h1, h2, h3, h4, h5⟩
    refine ⟨rfl, g, ⟨m, cap', N', e', y', _, sz, _, _, h1, ⟨by simp at hlen ⊢; omega, hm, fun s c => ?_, fun j hj => ?_⟩, ?_⟩, h4, h5⟩
    · refine at_put (N := N) (fun s c hs => ?_) hne hni h2 h3 s c
      rw [hg.at_ s c]
      constructor
      · rintro ⟨j, hj, rfl, hk⟩
        have : j ≠ i := fun e => hs (by rw [← hk, e, hki])
        exact ⟨j, (mem_mid.1 hj).resolve_left this, rfl, hk⟩
      · rintro ⟨j, hj, rfl, hk⟩
        exact ⟨j, mem_mid.2 (.inr hj), rfl, hk⟩
    · by_cases e : j = i
      · subst e; rw [upd_same]; omega
      · rw [upd_other _ _ _ _ e]; exact hg.lim j (mem_mid.2 (mem_end.1 hj))
    · have hy := young_old (N' := N') (R := R) (R' := upd R i A) (A := A) hki hne (fun j hj => ⟨h2 j (fun e => hni (e ▸ hj)), upd_other _ _ _ _ (fun e => hni (e ▸ hj))⟩) h3 (upd_same _ _ _)
      unfold putL
      rw [hy, if_neg (by simp at hl ⊢; omega)]
  | none =>
    have hne := hg.miss.1 hf
    by_cases hsr : (sz : Int) < room
    · have hni : m ∉ ord := fun hi => by have := hc.lt m hi; omega
      refine (put_new hc key hkl hroom hA hAo hlim (by omega) hf hsr (by omega) rfl).mono ?_
      rintro en w' ⟨rfl, g, cap', N', e', y', h1, h2, h3, h4, h5⟩
      have hRR : ∀ j ∈ ord, upd (upd R m []) m A j = R j := fun j hj => by
        have : j ≠ m := fun e => hni (e ▸ hj)
        rw [upd_other _ _ _ _ this, upd_other _ _ _ _ this]
      refine ⟨rfl, g, ⟨m + 1, cap', N', e', y', _, sz + 1, _, _, h1, ⟨by simp; omega, by omega, fun s c => ?_, fun j hj => ?_⟩, ?_⟩, h4, h5⟩
      · exact at_put (N := N) (fun s c hs => hg.at_ s c) hne hni h2 h3 s c
      · rcases List.mem_append.1 hj with h | h
        · rw [hRR j h]; exact hg.lim j h
        · simp at h; subst h; rw [upd_same]; omega
      · have hy := young_new (N' := N') (R := R) (R' := upd (upd R m []) m A) (A := A) hne (fun j hj => ⟨h2 j (fun e => hni (e ▸ hj)), hRR j hj⟩) h3 (upd_same _ _ _)
        unfold putL
        rw [hy, if_neg (by simp; omega)]
    · cases ord with
      | nil => simp at hlen; omega
      | cons i post =>
        have hnd := hc.ch.nd
        have hni : i ∉ post := (List.nodup_cons.1 hnd).1
        have hfi : f (N i).key = some (i : Int) := (hg.at_ _ _).2 ⟨i, by simp, rfl, rfl⟩
        refine (put_evict hc key hkl hroom hA hAo hlim (by omega) hf (by omega) (by rw [hfi]; rfl) rfl rfl).mono ?_
        rintro en w' ⟨rfl, g, cap', N', e', y', h1, h2, h3, h4, h5⟩
        have hnep : ∀ j ∈ post, (N j).key ≠ key := fun j hj => hne j (by simp [hj])
        refine ⟨rfl, g, ⟨m, cap', N', e', y', _, sz - 1 + 1, _, _, h1, ⟨by simp at hlen ⊢; omega, by simp at hlen; omega, fun s c => ?_, fun j hj => ?_⟩, ?_⟩, h4, h5⟩
        · refine at_put (N := N) (fA := fun s => if s = (N i).key then none else f s) (fun s c hs => ?_) hnep hni h2 h3 s c
          show (if s = (N i).key then none else f s) = some c ↔ _
          by_cases es : s = (N i).key
          · rw [if_pos es]
            constructor
            · intro h; cases h
            · rintro ⟨j, hj, rfl, hk⟩
              have : j = i := hg.inj (by simp [hj]) (by simp) (by rw [hk, es])
              exact absurd (this ▸ hj) hni
          · rw [if_neg es, hg.at_ s c]
            constructor
            · rintro ⟨j, hj, rfl, hk⟩
              have : j ≠ i := fun e => es (by rw [← hk, e])
              exact ⟨j, (List.mem_cons.1 hj).resolve_left this, rfl, hk⟩
            · rintro ⟨j, hj, rfl, hk⟩
              exact ⟨j, by simp [hj], rfl, hk⟩
        · by_cases e : j = i
          · subst e; rw [upd_same]; omega
          · rw [upd_other _ _ _ _ e]; exact hg.lim j (List.mem_cons.2 (mem_end.1 hj))
        · have hy := young_new (i := i) (N' := N') (R := R) (R' := upd R i A) (A := A) hnep (fun j hj => ⟨h2 j (fun e => hni (e ▸ hj)), upd_other _ _ _ _ (fun e => hni (e ▸ hj))⟩) h3 (upd_same _ _ _)
          unfold putL young
          unfold young at hy
          have hki : decide (((N i).key, R i).1 ≠ key) = true := by simpa using hne i (by simp)
          have hcons : (((i :: post).map fun i => ((N i).key, R i)).filter (fun p => p.1 ≠ key)) ++ [(key, A)] = ((N i).key, R i) :: ((post ++ [i]).map fun j => ((N' j).key, upd R i A j)) := by
            rw [List.map_cons, List.filter_cons, if_pos hki, List.cons_append, hy]
          rw [hcons, if_pos (by simp at hlen ⊢; omega)]
          rfl

theorem crep_miss (h : CRep w base top cb mb no l room hits misses) (htop : top ≤ w.heap.size) (key : ByteArray) (hkl : key.size ≤ maxLen) (hno : ∀ p ∈ l, p.1 ≠ key) (hm0 : 0 ≤ misses) (hm1 : misses < 4611686018427387904) :
    Calls Tryz.prog 118 #[.pointer (some ⟨cb, 0, none⟩), .string key] w fun en w' => en = .returned (.tuple #[.slice none 0 0, .bool false]) ∧
      CRep w' base top cb mb no l room hits (misses + 1) ∧ Keeps (Ft cb mb no) w w' := by
  obtain ⟨m, cap, N, e, y, ord, sz, f, R, hc, hg, rfl⟩ := h
  have hf : f key = none := hg.miss.2 fun i hi => hno _ (List.mem_map.2 ⟨i, hi, rfl⟩)
  refine (get_miss hc htop key hkl hf hm0 hm1).mono ?_
  rintro en w' ⟨rfl, h1, h2⟩
  exact ⟨rfl, ⟨m, cap, N, e, y, ord, sz, f, R, h1, hg, rfl⟩, h2⟩

theorem crep_hit (h : CRep w base top cb mb no l room hits misses) (htop : top ≤ w.heap.size) (key : ByteArray) (A : List Int) (hkl : key.size ≤ maxLen) (hmem : (key, A) ∈ l) (hm0 : 0 ≤ hits) (hm1 : hits < 4611686018427387904) :
    Calls Tryz.prog 118 #[.pointer (some ⟨cb, 0, none⟩), .string key] w fun en w' => ∃ vo vn vc, en = .returned (.tuple #[.slice vo vn vc, .bool true]) ∧ Own w' w.heap.size (.slice vo vn vc) A ∧
      CRep w' base top cb mb no (young l key A) room (hits + 1) misses ∧ Keeps (Ft cb mb no) w w' := by
  obtain ⟨m, cap, N, e, y, ord, sz, f, R, hc, hg, rfl⟩ := h
  obtain ⟨i, hi, he⟩ := List.mem_map.1 hmem
  simp only [Prod.mk.injEq] at he
  obtain ⟨hki, hRi⟩ := he
  obtain ⟨pre, post, hs⟩ := List.append_of_mem hi
  subst hs
  have hnd := hc.ch.nd
  have hni : i ∉ pre ++ post := by
    have h2 : (i :: (pre ++ post)).Nodup := (List.perm_middle.nodup_iff).1 hnd
    exact (List.nodup_cons.1 h2).1
  have hne : ∀ j ∈ pre ++ post, (N j).key ≠ key := fun j hj e => by
    have : j = i := hg.inj (mem_mid.2 (.inr hj)) hi (by rw [e, hki])
    exact hni (this ▸ hj)
  have hf : f key = some (i : Int) := (hg.at_ _ _).2 ⟨i, hi, rfl, hki⟩
  refine (get_hit hc htop key hkl hf hm0 hm1 (hg.lim i hi)).mono ?_
  rintro en w' ⟨vo, vn, vc, N', e', y', rfl, hown, h1, h2, h3⟩
  rw [hRi] at hown
  have hk : ∀ j, (N' j).key = (N j).key := fun j => by have := h2 j; simp only [Nd.held, Prod.mk.injEq] at this; exact this.1
  refine ⟨vo, vn, vc, rfl, hown, ⟨m, cap, N', e', y', _, sz, f, R, h1, ⟨by have := hg.len; simp at this ⊢; omega, hg.m_, fun s c => ?_, fun j hj => hg.lim j (mem_mid.2 (mem_end.1 hj))⟩, ?_⟩, h3⟩
  · rw [hg.at_ s c]
    constructor
    · rintro ⟨j, hj, rfl, hk'⟩
      exact ⟨j, mem_end.2 (mem_mid.1 hj), rfl, by rw [hk]; exact hk'⟩
    · rintro ⟨j, hj, rfl, hk'⟩
      exact ⟨j, mem_mid.2 (mem_end.1 hj), rfl, by rw [← hk]; exact hk'⟩
  · exact young_old (N' := N') (R := R) (R' := R) (A := A) hki hne (fun j hj => ⟨hk j, rfl⟩) (by rw [hk, hki]) hRi

theorem CRep.below {w' : World} (h : CRep w base top cb mb no l room hits misses) (hb : Below top w w') : CRep w' base top cb mb no l room hits misses :=
  let ⟨m, cap, N, e, y, ord, sz, f, R, hc, hg, hl⟩ := h
  ⟨m, cap, N, e, y, ord, sz, f, R, hc.below hb, hg, hl⟩
theorem CRep.up {top' : Nat} (h : CRep w base top cb mb no l room hits misses) (ht : top ≤ top') : CRep w base top' cb mb no l room hits misses :=
  let ⟨m, cap, N, e, y, ord, sz, f, R, hc, hg, hl⟩ := h
  ⟨m, cap, N, e, y, ord, sz, f, R, hc.up ht, hg, hl⟩

theorem crep_new (room : Int) (h0 : 0 ≤ room) (h1 : room ≤ 1048576) (w : World) :
    Calls Tryz.prog 49 #[.int .i64 room] w fun en w' => ∃ cb mb, en = .returned (.pointer (some ⟨cb, 0, none⟩)) ∧
      CRep w' w.heap.size w'.heap.size cb mb none [] room 0 0 ∧ Below w.heap.size w w' := by
  refine (new_yes room h0 h1 w (fun _ => [])).mono ?_
  rintro en w' ⟨cb, mb, rfl, hc, hb⟩
  exact ⟨cb, mb, rfl, ⟨_, _, _, _, _, _, _, _, _, hc, ⟨rfl, rfl, fun s c => by simp, fun i hi => by simp at hi⟩, rfl⟩, hb⟩

theorem crep_zero (h : CRep w base top cb mb no l 0 hits misses) (key : ByteArray) (ao : Option Addr) (n c : Nat) :
    Calls Tryz.prog 119 #[.pointer (some ⟨cb, 0, none⟩), .string key, .slice ao n c] w fun en w' => en = .returned (.tuple #[]) ∧ Below w.heap.size w w' :=
  let ⟨m, cap, N, e, y, ord, sz, f, R, hc, hg, hl⟩ := h
  put_zero hc key ao n c
end

end Go.Proofs.YtimkkkdabmhedaaGreatDoor
