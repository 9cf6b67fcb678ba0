/- The cache as a row of keys and rows: what each call makes of it. -/
import Derived.Test.YtnadelmbkaoeeaaGreatDoorK6
import Derived.Test.YtnadelmbkaoeeaaGreatDoorK4
import Derived.Test.YtnadelmbkaoeeaaGreatDoorK5
import Derived.Deep.DeepCutAuto
import Derived.Deep.AppendLies
import Derived.Deep.RegionLaw
import Derived.BigQuiet
import Derived.Shelf.SlSortCmp.QuietGrown
import Derived.Test.YtnadelmbkaoeeaaGreatDoorK3
import Derived.Shelf.SortM.Plain
import Derived.Shelf.SortM.SortNone
import Derived.Test.YtnadelmbkaoeeaaGreatDoorProg
import Derived.Shelf.SlSortCmp.InsertionK
namespace Go.Proofs.YtnadelmbkaoeeaaGreatDoor
open Go.RowKit
set_option linter.unusedVariables false

abbrev Row := ByteArray × List Int

/-- The map tells of the chain. -/
structure Good (ord : List Nat) (N : Nat → Nd) (R : Nat → List Int) (sz m : Nat) (f : ByteArray → Option Int) : Prop where
  len : ord.length = sz
  m_ : m = sz
  at_ : ∀ s c, f s = some c ↔ ∃ i ∈ ord, c = (i : Int) ∧ (N i).key = s
  lim : ∀ i ∈ ord, (R i).length ≤ 1048576

def CRep (w : World) (base top cb mb : Nat) (no : Option Addr) (l : List Row) (room hits misses : Int) : Prop :=
  ∃ m cap N e y ord sz f R, CSt w base top cb mb no m cap N e y room hits misses ord sz f R ∧ Good ord N R sz m f ∧ l = ord.map fun i => ((N i).key, R i)

/-- A row without a key, and then with this one of it. -/
def young (l : List Row) (k : ByteArray) (A : List Int) : List Row := l.filter (fun p => p.1 ≠ k) ++ [(k, A)]
/-- With another one; no more than there is room for. -/
def putL (l : List Row) (room : Int) (k : ByteArray) (A : List Int) : List Row := if ((young l k A).length : Int) > room then (young l k A).drop 1 else young l k A

theorem Good.inj {ord : List Nat} {N : Nat → Nd} {R : Nat → List Int} {sz m : Nat} {f : ByteArray → Option Int} (h : Good ord N R sz m f) {i j : Nat} (hi : i ∈ ord) (hj : j ∈ ord) (e : (N i).key = (N j).key) : i = j := by
  have h1 := (h.at_ (N i).key i).2 ⟨i, hi, rfl, rfl⟩
  have h2 := (h.at_ (N i).key j).2 ⟨j, hj, rfl, e.symm⟩
  rw [h1] at h2
  simp at h2
  omega

theorem Good.miss {ord : List Nat} {N : Nat → Nd} {R : Nat → List Int} {sz m : Nat} {f : ByteArray → Option Int} (h : Good ord N R sz m f) {k : ByteArray} : f k = none ↔ ∀ i ∈ ord, (N i).key ≠ k := by
  constructor
  · intro hf i hi e
    have := (h.at_ k i).2 ⟨i, hi, rfl, e⟩
    rw [hf] at this; cases this
  · intro hall
    cases hf : f k with
    | none => rfl
    | some c =>
      obtain ⟨i, hi, _, e⟩ := (h.at_ k c).1 hf
      exact absurd e (hall i hi)

theorem filter_none {ord : List Nat} {N : Nat → Nd} {R : Nat → List Int} {k : ByteArray} (h : ∀ i ∈ ord, (N i).key ≠ k) : (ord.map fun i => ((N i).key, R i)).filter (fun p => p.1 ≠ k) = ord.map fun i => ((N i).key, R i) := by
  rw [List.filter_eq_self]
  intro p hp
  obtain ⟨i, hi, rfl⟩ := List.mem_map.1 hp
  simpa using h i hi

theorem young_old {pre post : List Nat} {i : Nat} {N N' : Nat → Nd} {R R' : Nat → List Int} {k : ByteArray} {A : List Int} (hk : (N i).key = k) (hne : ∀ j ∈ pre ++ post, (N j).key ≠ k) (hN : ∀ j ∈ pre ++ post, (N' j).key = (N j).key ∧ R' j = R j) (hi : (N' i).key = k) (hA : R' i = A) :
    young ((pre ++ i :: post).map fun i => ((N i).key, R i)) k A = (pre ++ post ++ [i]).map fun i => ((N' i).key, R' i) := by
  unfold young
  rw [List.map_append, List.map_cons, List.filter_append, List.filter_cons]
  rw [filter_none fun j hj => hne j (by simp [hj]), filter_none fun j hj => hne j (by simp [hj])]
  simp only [hk, ne_eq, not_true_eq_false, decide_false, Bool.false_eq_true, if_false]
  rw [List.map_append, List.map_append, List.map_cons, List.map_nil, hi, hA]
  congr 1
  congr 1
  · exact List.map_congr_left fun j hj => by rw [(hN j (by simp [hj])).1, (hN j (by simp [hj])).2]
  · exact List.map_congr_left fun j hj => by rw [(hN j (by simp [hj])).1, (hN j (by simp [hj])).2]

theorem young_new {ord : List Nat} {i : Nat} {N N' : Nat → Nd} {R R' : Nat → List Int} {k : ByteArray} {A : List Int} (hne : ∀ j ∈ ord, (N j).key ≠ k) (hN : ∀ j ∈ ord, (N' j).key = (N j).key ∧ R' j = R j) (hi : (N' i).key = k) (hA : R' i = A) :
    young (ord.map fun i => ((N i).key, R i)) k A = (ord ++ [i]).map fun i => ((N' i).key, R' i) := by
  unfold young
  rw [filter_none hne, List.map_append, List.map_cons, List.map_nil, hi, hA]
  congr 1
  exact List.map_congr_left fun j hj => by rw [(hN j hj).1, (hN j hj).2]

theorem mem_mid {pre post : List Nat} {i j : Nat} : j ∈ pre ++ i :: post ↔ j = i ∨ j ∈ pre ++ post := by
  simp only [List.mem_append, List.mem_cons]
  constructor
  · rintro (h | h | h)
    · exact .inr (.inl h)
    · exact .inl h
    · exact .inr (.inr h)
  · rintro (h | h | h)
    · exact .inr (.inl h)
    · exact .inl h
    · exact .inr (.inr h)
theorem mem_end {l : List Nat} {i j : Nat} : j ∈ l ++ [i] ↔ j = i ∨ j ∈ l := by
  simp only [List.mem_append, List.mem_singleton]
  exact Or.comm

theorem at_put {ordA : List Nat} {N N' : Nat → Nd} {i : Nat} {key : ByteArray} {fA : ByteArray → Option Int} (h1 : ∀ s c, s ≠ key → (fA s = some c ↔ ∃ j ∈ ordA, c = (j : Int) ∧ (N j).key = s)) (h2 : ∀ j ∈ ordA, (N j).key ≠ key) (h3 : i ∉ ordA)
    (hN : ∀ j, j ≠ i → (N' j).key = (N j).key) (hi : (N' i).key = key) (s : ByteArray) (c : Int) : (if s = key then some (i : Int) else fA s) = some c ↔ ∃ j ∈ ordA ++ [i], c = (j : Int) ∧ (N' j).key = s := by
  have hne : ∀ j ∈ ordA, j ≠ i := fun j hj e => h3 (e ▸ hj)
  by_cases e : s = key
  · subst e
    rw [if_pos rfl]
    constructor
    · intro h
      simp at h
      exact ⟨i, by simp, h.symm, hi⟩
    · rintro ⟨j, hj, rfl, hk⟩
      rcases List.mem_append.1 hj with h | h
      · rw [hN j (hne j h)] at hk; exact absurd hk (h2 j h)
      · simp at h; rw [h]
  · rw [if_neg e, h1 s c e]
    constructor
    · rintro ⟨j, hj, rfl, hk⟩
      exact ⟨j, by simp [hj], rfl, by rw [hN j (hne j hj)]; exact hk⟩
    · rintro ⟨j, hj, rfl, hk⟩
      rcases List.mem_append.1 hj with h | h
      · exact ⟨j, h, rfl, by rw [← hN j (hne j h)]; exact hk⟩
      · simp at h; subst h; rw [hi] at hk; exact absurd hk.symm e

section
variable {w : World} {base top cb mb : Nat} {no : Option Addr} {l : List Row} {room hits misses : Int}

theorem crep_put (h : CRep w base w.heap.size cb mb no l room hits misses) (key : ByteArray) (hkl : key.size ≤ maxLen) (hroom : 0 < room) (hroom2 : room ≤ 1048576) (hl : (l.length : Int) ≤ room) (hl2 : l.length < 1048576)
    {ao : Option Addr} {n c : Nat} {A : List Int} (hA : SlI w ao n c A) (hAo : ∀ ad, ao = some ad → 0 < n → ad.block < w.heap.size ∧ ¬ Ft cb mb no ad.block) (hlim : n ≤ 1048576) :
    Calls Tryz.prog 124 #[.pointer (some ⟨cb, 0, none⟩), .string key, .slice ao n c] w fun en w' => en = .returned (.tuple #[]) ∧ ∃ g,
      CRep w' base w'.heap.size cb mb (some ⟨g, 0, none⟩) (putL l room key A) room hits misses ∧ Keeps (Ft cb mb no) w w' ∧ At no g w.heap.size := by
  obtain ⟨m, cap, N, e, y, ord, sz, f, R, hc, hg, rfl⟩ := h
  rw [List.length_map] at hl hl2
  have hlen := hg.len
  have hm := hg.m_
  have hAl := hA.len
  cases hf : f key with
  | some ci =>
    obtain ⟨i, hi, rfl, hki⟩ := (hg.at_ key ci).1 hf
    obtain ⟨pre, post, hs⟩ := List.append_of_mem hi
    subst hs
    have hnd := hc.ch.nd
    have hni : i ∉ pre ++ post := by
      have h2 : (i :: (pre ++ post)).Nodup := (List.perm_middle.nodup_iff).1 hnd
      exact (List.nodup_cons.1 h2).1
    have hne : ∀ j ∈ pre ++ post, (N j).key ≠ key := fun j hj e => by
      have : j = i := hg.inj (by simp at hj ⊢; rcases hj with h | h <;> simp [h]) hi (by rw [e, hki])
      exact hni (this ▸ hj)
    refine (put_old hc key hkl hroom hA hAo hlim (by omega) hf rfl).mono ?_
    rintro en w' ⟨rfl, g, cap', N', e', y', h1, h2, h3, h4, h5⟩
    refine ⟨rfl, g, ⟨m, cap', N', e', y', _, sz, _, _, h1, ⟨by simp at hlen ⊢; omega, hm, fun s c => ?_, fun j hj => ?_⟩, ?_⟩, h4, h5⟩
    · refine at_put (N := N) (fun s c hs => ?_) hne hni h2 h3 s c
      rw [hg.at_ s c]
      constructor
      · rintro ⟨j, hj, rfl, hk⟩
        have : j ≠ i := fun e => hs (by rw [← hk, e, hki])
        exact ⟨j, (mem_mid.1 hj).resolve_left this, rfl, hk⟩
      · rintro ⟨j, hj, rfl, hk⟩
        exact ⟨j, mem_mid.2 (.inr hj), rfl, hk⟩
    · by_cases e : j = i
      · subst e; rw [upd_same]; omega
      · rw [upd_other _ _ _ _ e]; exact hg.lim j (mem_mid.2 (mem_end.1 hj))
    · have hy := young_old (N' := N') (R := R) (R' := upd R i A) (A := A) hki hne (fun j hj => ⟨h2 j (fun e => hni (e ▸ hj)), upd_other _ _ _ _ (fun e => hni (e ▸ hj))⟩) h3 (upd_same _ _ _)
      unfold putL
      rw [hy, if_neg (by simp at hl ⊢; omega)]
  | none =>
    have hne := hg.miss.1 hf
    by_cases hsr : (sz : Int) < room
    · have hni : m ∉ ord := fun hi => by have := hc.lt m hi; omega
      refine (put_new hc key hkl hroom hA hAo hlim (by omega) hf hsr (by omega) rfl).mono ?_
      rintro en w' ⟨rfl, g, cap', N', e', y', h1, h2, h3, h4, h5⟩
      have hRR : ∀ j ∈ ord, upd (upd R m []) m A j = R j := fun j hj => by
        have : j ≠ m := fun e => hni (e ▸ hj)
        rw [upd_other _ _ _ _ this, upd_other _ _ _ _ this]
      refine ⟨rfl, g, ⟨m + 1, cap', N', e', y', _, sz + 1, _, _, h1, ⟨by simp; omega, by omega, fun s c => ?_, fun j hj => ?_⟩, ?_⟩, h4, h5⟩
      · exact at_put (N := N) (fun s c hs => hg.at_ s c) hne hni h2 h3 s c
      · rcases List.mem_append.1 hj with h | h
        · rw [hRR j h]; exact hg.lim j h
        · simp at h; subst h; rw [upd_same]; omega
      · have hy := young_new (N' := N') (R := R) (R' := upd (upd R m []) m A) (A := A) hne (fun j hj => ⟨h2 j (fun e => hni (e ▸ hj)), hRR j hj⟩) h3 (upd_same _ _ _)
        unfold putL
        rw [hy, if_neg (by simp; omega)]
    · cases ord with
      | nil => simp at hlen; omega
      | cons i post =>
        have hnd := hc.ch.nd
        have hni : i ∉ post := (List.nodup_cons.1 hnd).1
        have hfi : f (N i).key = some (i : Int) := (hg.at_ _ _).2 ⟨i, by simp, rfl, rfl⟩
        refine (put_evict hc key hkl hroom hA hAo hlim (by omega) hf (by omega) (by rw [hfi]; rfl) rfl rfl).mono ?_
        rintro en w' ⟨rfl, g, cap', N', e', y', h1, h2, h3, h4, h5⟩
        have hnep : ∀ j ∈ post, (N j).key ≠ key := fun j hj => hne j (by simp [hj])
        refine ⟨rfl, g, ⟨m, cap', N', e', y', _, sz - 1 + 1, _, _, h1, ⟨by simp at hlen ⊢; omega, by simp at hlen; omega, fun s c => ?_, fun j hj => ?_⟩, ?_⟩, h4, h5⟩
        · refine at_put (N := N) (fA := fun s => if s = (N i).key then none else f s) (fun s c hs => ?_) hnep hni h2 h3 s c
          show (if s = (N i).key then none else f s) = some c ↔ _
          by_cases es : s = (N i).key
          · rw [if_pos es]
            constructor
            · intro h; cases h
            · rintro ⟨j, hj, rfl, hk⟩
              have : j = i := hg.inj (by simp [hj]) (by simp) (by rw [hk, es])
              exact absurd (this ▸ hj) hni
          · rw [if_neg es, hg.at_ s c]
            constructor
            · rintro ⟨j, hj, rfl, hk⟩
              have : j ≠ i := fun e => es (by rw [← hk, e])
              exact ⟨j, (List.mem_cons.1 hj).resolve_left this, rfl, hk⟩
            · rintro ⟨j, hj, rfl, hk⟩
              exact ⟨j, by simp [hj], rfl, hk⟩
        · by_cases e : j = i
          · subst e; rw [upd_same]; omega
          · rw [upd_other _ _ _ _ e]; exact hg.lim j (List.mem_cons.2 (mem_end.1 hj))
        · have hy := young_new (i := i) (N' := N') (R := R) (R' := upd R i A) (A := A) hnep (fun j hj => ⟨h2 j (fun e => hni (e ▸ hj)), upd_other _ _ _ _ (fun e => hni (e ▸ hj))⟩) h3 (upd_same _ _ _)
          unfold putL young
          unfold young at hy
          have hki : decide (((N i).key, R i).1 ≠ key) = true := by simpa using hne i (by simp)
          have hcons : (((i :: post).map fun i => ((N i).key, R i)).filter (fun p => p.1 ≠ key)) ++ [(key, A)] = ((N i).key, R i) :: ((post ++ [i]).map fun j => ((N' j).key, upd R i A j)) := by
            rw [List.map_cons, List.filter_cons, if_pos hki, List.cons_append, hy]
          rw [hcons, if_pos (by simp at hlen ⊢; omega)]
          rfl

theorem crep_miss (h : CRep w base top cb mb no l room hits misses) (htop : top ≤ w.heap.size) (key : ByteArray) (hkl : key.size ≤ maxLen) (hno : ∀ p ∈ l, p.1 ≠ key) (hm0 : 0 ≤ misses) (hm1 : misses < 4611686018427387904) :
    Calls Tryz.prog 123 #[.pointer (some ⟨cb, 0, none⟩), .string key] w fun en w' => en = .returned (.tuple #[.slice none 0 0, .bool false]) ∧
      CRep w' base top cb mb no l room hits (misses + 1) ∧ Keeps (Ft cb mb no) w w' := by
  obtain ⟨m, cap, N, e, y, ord, sz, f, R, hc, hg, rfl⟩ := h
  have hf : f key = none := hg.miss.2 fun i hi => hno _ (List.mem_map.2 ⟨i, hi, rfl⟩)
  refine (get_miss hc htop key hkl hf hm0 hm1).mono ?_
  rintro en w' ⟨rfl, h1, h2⟩
  exact ⟨rfl, ⟨m, cap, N, e, y, ord, sz, f, R, h1, hg, rfl⟩, h2⟩

theorem crep_hit (h : CRep w base top cb mb no l room hits misses) (htop : top ≤ w.heap.size) (key : ByteArray) (A : List Int) (hkl : key.size ≤ maxLen) (hmem : (key, A) ∈ l) (hm0 : 0 ≤ hits) (hm1 : hits < 4611686018427387904) :
    Calls Tryz.prog 123 #[.pointer (some ⟨cb, 0, none⟩), .string key] w fun en w' => ∃ vo vn vc, en = .returned (.tuple #[.slice vo vn vc, .bool true]) ∧ Own w' w.heap.size (.slice vo vn vc) A ∧
      CRep w' base top cb mb no (young l key A) room (hits + 1) misses ∧ Keeps (Ft cb mb no) w w' := by
  obtain ⟨m, cap, N, e, y, ord, sz, f, R, hc, hg, rfl⟩ := h
  obtain ⟨i, hi, he⟩ := List.mem_map.1 hmem
  simp only [Prod.mk.injEq] at he
  obtain ⟨hki, hRi⟩ := he
  obtain ⟨pre, post, hs⟩ := List.append_of_mem hi
  subst hs
  have hnd := hc.ch.nd
  have hni : i ∉ pre ++ post := by
    have h2 : (i :: (pre ++ post)).Nodup := (List.perm_middle.nodup_iff).1 hnd
    exact (List.nodup_cons.1 h2).1
  have hne : ∀ j ∈ pre ++ post, (N j).key ≠ key := fun j hj e => by
    have : j = i := hg.inj (mem_mid.2 (.inr hj)) hi (by rw [e, hki])
    exact hni (this ▸ hj)
  have hf : f key = some (i : Int) := (hg.at_ _ _).2 ⟨i, hi, rfl, hki⟩
  refine (get_hit hc htop key hkl hf hm0 hm1 (hg.lim i hi)).mono ?_
  rintro en w' ⟨vo, vn, vc, N', e', y', rfl, hown, h1, h2, h3⟩
  rw [hRi] at hown
  have hk : ∀ j, (N' j).key = (N j).key := fun j => by have := h2 j; simp only [Nd.held, Prod.mk.injEq] at this; exact this.1
  refine ⟨vo, vn, vc, rfl, hown, ⟨m, cap, N', e', y', _, sz, f, R, h1, ⟨by have := hg.len; simp at this ⊢; omega, hg.m_, fun s c => ?_, fun j hj => hg.lim j (mem_mid.2 (mem_end.1 hj))⟩, ?_⟩, h3⟩
  · rw [hg.at_ s c]
    constructor
    · rintro ⟨j, hj, rfl, hk'⟩
      exact ⟨j, mem_end.2 (mem_mid.1 hj), rfl, by rw [hk]; exact hk'⟩
    · rintro ⟨j, hj, rfl, hk'⟩
      exact ⟨j, mem_mid.2 (mem_end.1 hj), rfl, by rw [← hk]; exact hk'⟩
  · exact young_old (N' := N') (R := R) (R' := R) (A := A) hki hne (fun j hj => ⟨hk j, rfl⟩) (by rw [hk, hki]) hRi

theorem CRep.below {w' : World} (h : CRep w base top cb mb no l room hits misses) (hb : Below top w w') : CRep w' base top cb mb no l room hits misses :=
  let ⟨m, cap, N, e, y, ord, sz, f, R, hc, hg, hl⟩ := h
  ⟨m, cap, N, e, y, ord, sz, f, R, hc.below hb, hg, hl⟩
theorem CRep.up {top' : Nat} (h : CRep w base top cb mb no l room hits misses) (ht : top ≤ top') : CRep w base top' cb mb no l room hits misses :=
  let ⟨m, cap, N, e, y, ord, sz, f, R, hc, hg, hl⟩ := h
  ⟨m, cap, N, e, y, ord, sz, f, R, hc.up ht, hg, hl⟩

theorem crep_new (room : Int) (h0 : 0 ≤ room) (h1 : room ≤ 1048576) (w : World) :
    Calls Tryz.prog 33 #[.int .i64 room] w fun en w' => ∃ cb mb, en = .returned (.pointer (some ⟨cb, 0, none⟩)) ∧
      CRep w' w.heap.size w'.heap.size cb mb none [] room 0 0 ∧ Below w.heap.size w w' := by
  refine (new_yes room h0 h1 w (fun _ => [])).mono ?_
  rintro en w' ⟨cb, mb, rfl, hc, hb⟩
  exact ⟨cb, mb, rfl, ⟨_, _, _, _, _, _, _, _, _, hc, ⟨rfl, rfl, fun s c => by simp, fun i hi => by simp at hi⟩, rfl⟩, hb⟩

theorem crep_len (h : CRep w base top cb mb no l room hits misses) :
    Calls Tryz.prog 211 #[.pointer (some ⟨cb, 0, none⟩)] w fun en w' => en = .returned (.int .i64 l.length) ∧ Below w.heap.size w w' := by
  obtain ⟨m, cap, N, e, y, ord, sz, f, R, hc, hg, rfl⟩ := h
  have := hg.len
  rw [List.length_map, this]
  exact len_calls hc
theorem crep_zero (h : CRep w base top cb mb no l 0 hits misses) (key : ByteArray) (ao : Option Addr) (n c : Nat) :
    Calls Tryz.prog 124 #[.pointer (some ⟨cb, 0, none⟩), .string key, .slice ao n c] w fun en w' => en = .returned (.tuple #[]) ∧ Below w.heap.size w w' :=
  let ⟨m, cap, N, e, y, ord, sz, f, R, hc, hg, hl⟩ := h
  put_zero hc key ao n c
end

end Go.Proofs.YtnadelmbkaoeeaaGreatDoor

/- Walks: class.Usual, text.New. -/
namespace Go.Proofs.YtnadelmbkaoeeaaGreatDoor
open Go.RowKit
set_option linter.unusedVariables false

set_option maxRecDepth 100000 in
theorem usual_calls (w : World) (hU : Usu w) :
    Calls Tryz.prog 36 #[] w fun e w' => ∃ v, e = .returned v ∧ OwnF Rg.enc 3 72 w' w.heap.size v usR ∧ Below w.heap.size w w' := by
  have hcl := cloneRg_calls (S := usR) w hU (by omega)
  clear hU
  go_enter Tryz.func36, Tryz.ntmps36
  go_wp2_with (fail)
  refine hcl.mono ?_
  rintro e w' ⟨v, rfl, ho⟩
  have HO := Lib.hid ho
  clear ho hcl
  go_wp2
  go_ret
  exact ⟨v, rfl, HO.out⟩

theorem newc_calls (room : Int) (w : World) : Calls Tryz.prog 33 #[.int .i64 room] w fun en w' => ∃ pc, en = .returned (.pointer pc) ∧ ((pc = none ∧ ¬ (0 ≤ room ∧ room ≤ 1048576)) ∨ ((0 ≤ room ∧ room ≤ 1048576) ∧ ∃ cb mb, pc = some ⟨cb, 0, none⟩ ∧ CRep w' w.heap.size w'.heap.size cb mb none [] room 0 0)) ∧ Below w.heap.size w w' := by
  by_cases h : 0 ≤ room ∧ room ≤ 1048576
  · refine (crep_new room h.1 h.2 w).mono ?_
    rintro en w' ⟨cb, mb, rfl, hr, hb⟩
    exact ⟨_, rfl, .inr ⟨h, cb, mb, rfl, hr⟩, hb⟩
  · refine (new_no room (by omega) w).mono ?_
    rintro en w' ⟨rfl, hb⟩
    exact ⟨_, rfl, .inl ⟨rfl, h⟩, hb⟩

theorem marksOf_len (S : List Sp) (N : List ByteArray) : (marksOf S N).length = N.length := by simp [marksOf]
theorem marksOf_take {S : List Sp} {N : List ByteArray} {k : Nat} (h : k < N.length) : marksOf S (N.take k) ++ [idOf (spNamed S (tk N k))] = marksOf S (N.take (k + 1)) := by
  unfold marksOf
  rw [List.take_add_one, tk_eq h]
  simp
theorem ownK {w : World} {base : Nat} {v : Value} {A : List Int} {k : Nat} (h : Own w base v A) (e : A.length = k) : w.ownsRow base 3 1 v k (A.map (.int .i64)) := by
  subst e; exact h
theorem ECod.keep {w w' : World} {base g : Nat} {V : Vc} (h : ECod w base g V) (hk : ∀ q, base ≤ q → q < w.heap.size → w'.heap[q]? = w.heap[q]?) (hs : w.heap.size ≤ w'.heap.size) : ECod w' base g V := by
  obtain ⟨lo, cs, to_, tcc, pg, h1, h2, h3, h4⟩ := h
  have hg : g < w.heap.size := (Array.getElem?_eq_some_iff.1 h1).1
  exact ⟨lo, cs, to_, tcc, pg, (hk g lo hg).trans h1, h2, own_stay h3 (fun q hq => hk q (World.ownsRow.lt h3 q hq).1 (World.ownsRow.lt h3 q hq).2), h4.keep hk hs⟩
theorem ECod.mono {w : World} {base base' g : Nat} {V : Vc} (h : ECod w base g V) (hb : base' ≤ base) : ECod w base' g V := by
  obtain ⟨lo, cs, to_, tcc, pg, h1, h2, h3, h4⟩ := h
  exact ⟨by omega, cs, to_, tcc, pg, h1, h2, OwnF.mono h3 hb, h4.mono hb⟩
theorem CRep.ft {w : World} {base top cb mb : Nat} {no : Option Addr} {l : List Row} {room hits misses : Int} (h : CRep w base top cb mb no l room hits misses) (k : Nat) (hk : Ft cb mb no k) : base ≤ k ∧ k < top := by
  obtain ⟨m, cap, N, e, y, ord, sz, f, R, hc, hg, hl⟩ := h
  rcases hk with h | h | h
  · subst h; exact hc.bc
  · subst h; exact hc.bm
  · subst h
    rcases hc.nd with ⟨h1, _⟩ | ⟨nb, h1, _, _, _, h5, h6⟩
    · cases h1
    · simp at h1; subst h1; exact ⟨h5, h6⟩
/-- A table of the call's own, not in the blocks from lo to hi. -/
structure TabOwn (base lo hi : Nat) (w : World) (v : Value) (T : List Rg) : Prop where
  own : OwnF Rg.enc 3 72 w base v T
  out : ∀ q, v.ownBlock = some q → q < lo ∨ hi < q
/-- A coder of texts lies at block g; its cache's box is cb. -/
structure TCod (w : World) (base g : Nat) (V : Vc) (N : List ByteArray) (kind : Int) (T : List Rg) (cb : Nat) : Prop where
  lo : base ≤ g
  tab : ∃ ta tc sa sc na nc ma mc oa oc eg, w.heap[g]? = some (.cells #[.slice ta V.tokens.length tc, .slice none 0 0, .slice sa V.specials.length sc, .slice na N.length nc, .slice ma N.length mc, .int .i64 kind, .slice oa T.length oc, .pointer (some ⟨eg, 0, none⟩), .pointer (some ⟨cb, 0, none⟩)] 76) ∧
    OwnF encS 1 9 w base (.slice ta V.tokens.length tc) V.tokens ∧ OwnF Sp.enc 2 82 w base (.slice sa V.specials.length sc) V.specials ∧ OwnF encS 1 9 w base (.slice na N.length nc) N ∧
    Own w base (.slice ma N.length mc) (marksOf V.specials N) ∧ OwnF Rg.enc 3 72 w base (.slice oa T.length oc) T ∧ ECod w base eg V
/-- What stays as long as the blocks S do. -/
def Sta (S : Nat → Prop) (F : World → Prop) (w : World) : Prop := ∀ w', (∀ q, S q → w'.heap[q]? = w.heap[q]?) → w.heap.size ≤ w'.heap.size → F w'
theorem Sta.self {S : Nat → Prop} {F : World → Prop} {w : World} (h : Sta S F w) : F w := h w (fun _ _ => rfl) (Nat.le_refl _)
theorem Sta.next {S : Nat → Prop} {F : World → Prop} {w w' : World} (h : Sta S F w) (hk : ∀ q, S q → w'.heap[q]? = w.heap[q]?) (hs : w.heap.size ≤ w'.heap.size) : Sta S F w' :=
  fun w'' h1 h2 => h w'' (fun q hq => (h1 q hq).trans (hk q hq)) (Nat.le_trans hs h2)
/-- A coder, with its cache: the cache's blocks are apart. -/
structure CodR (w : World) (base g : Nat) (V : Vc) (N : List ByteArray) (kind : Int) (T : List Rg) (room : Int) (cb mb : Nat) (no : Option Addr) (l : List Row) (hits misses : Int) : Prop where
  sta : ∃ S, Sta S (fun w => TCod w base g V N kind T cb) w ∧ (∀ q, S q → (base ≤ q ∧ q < w.heap.size) ∧ ¬ Ft cb mb no q)
  rep : CRep w base w.heap.size cb mb no l room hits misses
def TextPost (V : Vc) (N : List ByteArray) (kind : Int) (T : List Rg) (room : Int) (w : World) (e : Ending) (w' : World) : Prop :=
  ((¬ May V ∧ e = .returned (.tuple #[.pointer none, .int .i64 2])) ∨ (May V ∧ ¬ OkKit N kind T room ∧ e = .returned (.tuple #[.pointer none, .int .i64 1])) ∨
    (May V ∧ OkKit N kind T room ∧ ∃ g cb mb, e = .returned (.tuple #[.pointer (some ⟨g, 0, none⟩), .int .i64 0]) ∧ CodR w' w.heap.size g V N kind (tabOf T) room cb mb none [] 0 0)) ∧ Below w.heap.size w w'

theorem box9 {w : World} {g : Nat} {a b c d e f x y z : Value} {t : TypeId} (h : w.heap[g]? = some (.cells #[a, b, c, d, e, f, x, y, z] t)) :
    w.cell? ⟨g, 0, none⟩ = some a ∧ w.cell? ⟨g, 1, none⟩ = some b ∧ w.cell? ⟨g, 2, none⟩ = some c ∧ w.cell? ⟨g, 3, none⟩ = some d ∧ w.cell? ⟨g, 4, none⟩ = some e ∧ w.cell? ⟨g, 5, none⟩ = some f ∧ w.cell? ⟨g, 6, none⟩ = some x ∧ w.cell? ⟨g, 7, none⟩ = some y ∧ w.cell? ⟨g, 8, none⟩ = some z ∧ ∀ o, w.frozen? ⟨g, o, none⟩ = false := by
  simp [World.cell?, World.frozen?, h]

theorem CRep.base {w : World} {base base' top cb mb : Nat} {no : Option Addr} {l : List Row} {room hits misses : Int} (h : CRep w base top cb mb no l room hits misses) (hb : base' ≤ base) : CRep w base' top cb mb no l room hits misses := by
  obtain ⟨m, cap, N, e, y, ord, sz, f, R, hc, hg, hl⟩ := h
  refine ⟨m, cap, N, e, y, ord, sz, f, R, ⟨hc.fl, ?_, hc.mp, hc.ch, hc.lt, hc.cm, ⟨by have := hc.bc.1; omega, hc.bc.2⟩, ⟨by have := hc.bm.1; omega, hc.bm.2⟩, fun i hi => ?_, hc.keys⟩, hg, hl⟩
  · rcases hc.nd with h' | ⟨nb, h1, h2, h3, h4, h5, h6⟩
    · exact .inl h'
    · exact .inr ⟨nb, h1, h2, h3, h4, by omega, h6⟩
  · obtain ⟨h1, h2⟩ := hc.rows i hi
    exact ⟨h1, fun ad e => by obtain ⟨a, b, c⟩ := h2 ad e; exact ⟨by omega, b, c⟩⟩
theorem codR_mk {w w0 w1 w2 w3 w4 wb wc wr : World} {V : Vc} {N : List ByteArray} {kind room : Int} {T2 : List Rg} {nn cb mb eg : Nat} {pa qa na mo oa2 : Option Addr} {pcap qcap ncc mcc oc2 : Nat}
    (hN : N.length = nn) (h0 : w.heap.size ≤ w0.heap.size) (h1 : w0.heap.size ≤ w1.heap.size) (b12 : Below w1.heap.size w1 w2) (b23 : Below w2.heap.size w2 w3) (b34 : Below w3.heap.size w3 w4) (b4r : Below w4.heap.size w4 wr)
    (kbc : KeepG w4.heap.size wb wc) (kcr : KeepG w4.heap.size wc wr) (hsb : w4.heap.size < wb.heap.size) (h4b : w4.heap.size ≤ wb.heap.size) (hec : ECod w1 w0.heap.size eg V) (hon : OwnF encS 1 9 w2 w1.heap.size (.slice na nn ncc) N)
    (hot : OwnF encS 1 9 wc wb.heap.size (.slice pa V.tokens.length pcap) V.tokens) (hos : OwnF Sp.enc 2 82 wc wb.heap.size (.slice qa V.specials.length qcap) V.specials)
    (htab : TabOwn w2.heap.size w3.heap.size w4.heap.size wb (.slice oa2 T2.length oc2) T2)
    (hx : wr.heap[w4.heap.size]? = some (.cells #[.slice pa V.tokens.length pcap, .slice none 0 0, .slice qa V.specials.length qcap, .slice na nn ncc, .slice mo nn mcc, .int .i64 kind, .slice oa2 T2.length oc2, .pointer (some ⟨eg, 0, none⟩), .pointer (some ⟨cb, 0, none⟩)] 76))
    (how : Own wr wc.heap.size (.slice mo nn mcc) (marksOf V.specials (N.take nn))) (hrep : CRep w4 w3.heap.size w4.heap.size cb mb none [] room 0 0) :
    CodR wr w.heap.size w4.heap.size V N kind T2 room cb mb none [] 0 0 := by
  subst hN
  rw [List.take_length] at how
  have s12 := b12.size
  have s23 := b23.size
  have s34 := b34.size
  have s4r := b4r.size
  have sbc := kbc.size
  have scr := kcr.size
  have hb2r : ∀ q, q < w2.heap.size → wr.heap[q]? = w2.heap[q]? := fun q hq => (b4r.block q (by omega)).trans ((b34.block q (by omega)).trans (b23.block q hq))
  refine ⟨⟨fun q => w.heap.size ≤ q ∧ q < wr.heap.size ∧ (q < w3.heap.size ∨ w4.heap.size ≤ q), fun w' hag hsz => ⟨by omega, pa, pcap, qa, qcap, na, ncc, mo, mcc, oa2, oc2, eg, (hag _ ⟨by omega, by omega, .inr (Nat.le_refl _)⟩).trans hx, ?_, ?_, ?_, ?_, ?_, ?_⟩, ?_⟩, ?_⟩
  · exact OwnF.mono (base := wb.heap.size) (own_stay hot fun q hq => by
      obtain ⟨g1, g2⟩ := World.ownsRow.lt hot q hq
      exact (hag q ⟨by omega, by omega, .inr (by omega)⟩).trans (kcr.block q g2 (by omega))) (by omega)
  · exact OwnF.mono (base := wb.heap.size) (own_stay hos fun q hq => by
      obtain ⟨g1, g2⟩ := World.ownsRow.lt hos q hq
      exact (hag q ⟨by omega, by omega, .inr (by omega)⟩).trans (kcr.block q g2 (by omega))) (by omega)
  · exact OwnF.mono (base := w1.heap.size) (own_stay hon fun q hq => by
      obtain ⟨g1, g2⟩ := World.ownsRow.lt hon q hq
      exact (hag q ⟨by omega, by omega, .inl (by omega)⟩).trans (hb2r q g2)) (by omega)
  · exact Own.mono (base := wc.heap.size) (own_stay how fun q hq => by
      obtain ⟨g1, g2⟩ := World.ownsRow.lt how q hq
      exact hag q ⟨by omega, by omega, .inr (by omega)⟩) (by omega)
  · exact OwnF.mono (base := w2.heap.size) (own_stay htab.own fun q hq => by
      obtain ⟨g1, g2⟩ := World.ownsRow.lt htab.own q hq
      have g3 := htab.out q hq
      exact (hag q ⟨by omega, by omega, by omega⟩).trans ((kcr.block q (by omega) (by omega)).trans (kbc.block q g2 (by omega)))) (by omega)
  · exact ECod.mono (hec.keep (fun q g1 g2 => (hag q ⟨by omega, by omega, .inl (by omega)⟩).trans ((hb2r q (by omega)).trans (b12.block q g2))) (by omega)) h0
  · intro q ⟨g1, g2, g3⟩
    refine ⟨⟨g1, g2⟩, fun hf => ?_⟩
    have := hrep.ft q hf
    omega
  · exact (((hrep.below b4r).up s4r).base (by omega))
theorem set3N {w : World} {g : Nat} {a b c d e f x y z a' b' c' : Value} {t : TypeId} (h : w.heap[g]? = some (.cells #[a, b, c, d, e, f, x, y, z] t)) :
    (((w.setCell ⟨g, 0, none⟩ a').setCell ⟨g, 1, none⟩ b').setCell ⟨g, 2, none⟩ c').heap[g]? = some (.cells #[a', b', c', d, e, f, x, y, z] t) := by
  simp [World.setCell, Array.getElem?_modify, h]
theorem KeepG.set3 (g : Nat) (w : World) (a b c : Value) : KeepG g w (((w.setCell ⟨g, 0, none⟩ a).setCell ⟨g, 1, none⟩ b).setCell ⟨g, 2, none⟩ c) := (((KeepG.refl g w).set 0 a).set 1 b).set 2 c

theorem mark_next {wc wr w9 w1 : World} {g4 : Nat} {o : Obj} {v : Value} (hkr : KeepG g4 wc wr) (hbr : Below g4 wc wr) (h4 : g4 < wc.heap.size) (hb9 : Below wr.heap.size wr w9) (hgrow : (w9.alloc o).grownBy w1 v.ownBlock)
    (hlt : ∀ q, v.ownBlock = some q → wc.heap.size ≤ q ∧ q < wr.heap.size) (i : Nat) (x : Value) : KeepG g4 wc (w1.setCell ⟨g4, i, none⟩ x) ∧ Below g4 wc (w1.setCell ⟨g4, i, none⟩ x) := by
  have s1 := hkr.size
  have s2 := hb9.size
  have hb := ((hbr.trans ((hb9.alloc hb9.size o).mono (by omega))).grown hgrow (by simp; omega) fun q hq => by have := (hlt q hq).1; omega)
  refine ⟨KeepG.set ⟨by have := hb.size; omega, fun q h1 h2 => ?_⟩ i x, hb.setCell (Nat.le_refl _) x⟩
  have e1 := hgrow.block q (by simp; omega) (fun e => by have := (hlt q e.symm).1; omega)
  rw [e1]
  exact (Below.heap_alloc _ _ _ (by omega)).trans ((hb9.block q (by omega)).trans (hkr.block q h1 h2))
theorem mark_own {w1 : World} {B gg n cap g4 : Nat} {A MA : List Int} {ID : Int} {i : Nat} {x : Value} (h : w1.ownsRow B 3 1 (.slice (some ⟨gg, 0, none⟩) (n + 1) cap) (n + 1) (A.map (.int .i64) ++ [.int .i64 ID])) (hMA : A ++ [ID] = MA) (hl : A.length = n) (h4 : g4 < B) :
    Own (w1.setCell ⟨g4, i, none⟩ x) B (.slice (some ⟨gg, 0, none⟩) (n + 1) cap) MA := by
  subst hMA
  refine own_stay (v := .slice (some ⟨gg, 0, none⟩) (n + 1) cap) (by rw [List.length_append, List.map_append, hl]; exact h) fun q hq => Below.heap_setCell _ _ _ _ ?_
  have := (World.ownsRow.lt h q hq).1
  show q ≠ g4
  omega
theorem set4N {w : World} {g : Nat} {a b c d e f x y z v : Value} {t : TypeId} (h : w.heap[g]? = some (.cells #[a, b, c, d, e, f, x, y, z] t)) : (w.setCell ⟨g, 4, none⟩ v).heap[g]? = some (.cells #[a, b, c, d, v, f, x, y, z] t) := by
  simp [World.setCell, Array.getElem?_modify, h]

set_option maxHeartbeats 2000000 in
set_option maxRecDepth 100000 in
theorem textNew_calls {V : Vc} {dd : Vd} {N : List ByteArray} {kind : Int} {T : List Rg} {room : Int} {no to_ : Option Addr} {nn nc tn tc : Nat} (w : World) (hV : VocR w dd V) (hok : VOk V) (hN : SlS w no nn nc N) (hNs : ∀ s ∈ N, s.size ≤ maxLen) (hnn : nn ≤ 1048576)
    (hT : SlF 3 w to_ tn tc (flat Rg.enc T)) (htn : tn ≤ 1048576) (hU : Usu w) :
    Calls Tryz.prog 10 #[dd.val, .slice no nn nc, .int .i64 kind, .slice to_ tn tc, .int .i64 room] w (TextPost V N kind T room w) := by
  obtain ⟨ta, tn', tc', ma, mn, mc, sa, sn, sc⟩ := dd
  obtain ⟨w0, hw0⟩ : ∃ w0, w.alloc (.cells #[.slice ta tn' tc', .slice ma mn mc, .slice sa sn sc] 26) = w0 := ⟨_, rfl⟩
  have hb0 : Below w.heap.size w w0 := hw0 ▸ below_alloc w _
  have hx0 : w0.heap[w.heap.size]? = some (.cells #[.slice ta tn' tc', .slice ma mn mc, .slice sa sn sc] 26) := by rw [← hw0]; exact heap_alloc_new w _
  have hs0 : w.heap.size < w0.heap.size := by rw [← hw0]; simp
  obtain ⟨c0, c1, c2⟩ := box3v hx0
  have HV := Lib.hid (hV.below hb0)
  have HN := Lib.hid (hN.below hb0)
  have HT := Lib.hid (hT.below hb0)
  have HU := Lib.hid (hU.below hb0)
  have HB0 := Lib.hid hb0
  have HX0 := Lib.hid hx0
  have HW0 := Lib.hid hw0
  have HNS := Lib.hid hNs
  have HNL := Lib.hid hN.count
  have HTL := Lib.hid (hT.count Rg.enc_len (by omega))
  have hen := encNew_calls (dd := ⟨ta, tn', tc', ma, mn, mc, sa, sn, sc⟩) w0 HV.out hok
  have HOK := Lib.hid hok
  have HTC := Lib.hid hV.tok.count
  have HSC := Lib.hid (hV.spc.count Sp.enc_len (by omega))
  clear hV hN hT hU hNs hb0 hx0 hw0 hok
  go_enter Tryz.func10, Tryz.ntmps10
  go_wp2_with (fail)
  rw [HW0.out]
  refine hen.mono ?_
  rintro e w1 ⟨⟨hno, rfl⟩ | ⟨hmay, eg, rfl, hec⟩, hb1⟩
  · have HF := Lib.hid hno
    have HB1 := Lib.hid hb1
    clear hb1 hno hen
    go_wp2_with (fail)
    refine bodyPost_ret (v := .tuple #[.pointer none, .int .i64 2]) ?_ rfl ⟨.inl ⟨HF.out, rfl⟩, HB0.out.trans (HB1.out.mono HB0.out.size)⟩
    simp [results, Tryz.results10, go_sem]
  have HM := Lib.hid hmay
  have HB1 := Lib.hid hb1
  have HEC := Lib.hid hec
  have HLT : Hid (tn' ≤ 1048576) := Lib.hid (by have h1 : V.tokens.length = tn' := HTC.out; have h2 := hmay.1.1; omega)
  have HLS : Hid (sn ≤ 1048576) := Lib.hid (by have h1 : V.specials.length = sn := HSC.out; have h2 := HOK.out.2.2; omega)
  have hcn := cloneStr_calls w1 (SlS.flat (Sl.below HN.out HB1.out)) hnn
  clear hb1 hmay hen hec c0 c1 c2
  go_wp2_with (fail)
  refine hcn.mono ?_
  rintro e w2 ⟨vn, rfl, hon, hb2⟩
  obtain ⟨na, ncc, rfl, _⟩ := hon.sl
  have hnl : N.length = nn := HNL.out
  rw [hnl] at hon
  have HON := Lib.hid hon
  have HB12 := Lib.hid hb2
  have HB2 := Lib.hid (HB1.out.trans (hb2.mono HB1.out.size))
  have hct := cloneRg_calls w2 (HT.out.below HB2.out) htn
  rw [hnl]
  clear hb2 hon hcn hnl
  go_wp2_with (fail)
  refine hct.mono ?_
  rintro e w3 ⟨vt, rfl, hot, hb3⟩
  obtain ⟨oa, occ, rfl, _⟩ := hot.sl
  have htl : T.length = tn := HTL.out
  rw [htl] at hot
  have HOT := Lib.hid hot
  have HB23 := Lib.hid hb3
  have HB3 := Lib.hid (HB2.out.trans (hb3.mono HB2.out.size))
  have hnc := newc_calls room w3
  rw [htl]
  clear hb3 hot hct htl
  go_wp2_with (fail)
  refine hnc.mono ?_
  rintro e w4 ⟨pc, rfl, hpc, hb4⟩
  have HPC := Lib.hid hpc
  have HB34 := Lib.hid hb4
  have HB4 := Lib.hid (HB3.out.trans (hb4.mono HB3.out.size))
  obtain ⟨w5, hw5⟩ : ∃ w5, w4.alloc (.cells #[.slice none 0 0, .slice none 0 0, .slice none 0 0, .slice na nn ncc, .slice none 0 0, .int .i64 kind, .slice oa tn occ, .pointer (some ⟨eg, 0, none⟩), .pointer pc] 76) = w5 := ⟨_, rfl⟩
  have hb5 : Below w4.heap.size w4 w5 := hw5 ▸ below_alloc w4 _
  have hx5 : w5.heap[w4.heap.size]? = some (.cells #[.slice none 0 0, .slice none 0 0, .slice none 0 0, .slice na nn ncc, .slice none 0 0, .int .i64 kind, .slice oa tn occ, .pointer (some ⟨eg, 0, none⟩), .pointer pc] 76) := by rw [← hw5]; exact heap_alloc_new w4 _
  have hs5 : w4.heap.size < w5.heap.size := by rw [← hw5]; simp
  have HW5 := Lib.hid hw5
  have HX5 := Lib.hid hx5
  have HS5 := Lib.hid hs5
  have HB45 := Lib.hid hb5
  have HB5 := Lib.hid (HB4.out.trans (hb5.mono HB4.out.size))
  have hmn := tmayNames_calls w5 (Sl.below HN.out HB5.out) HNS.out
  clear hb4 hpc hb5 hx5 hw5 hnc hs5
  go_wp2_with (fail)
  rw [HW5.out]
  refine hmn.mono ?_
  rintro e w6 ⟨⟨b1, rfl, hi1⟩, hb6⟩
  have HB56 := Lib.hid hb6
  have HB6 := Lib.hid (HB5.out.trans (hb6.mono HB5.out.size))
  have HI1 := Lib.hid hi1
  clear hmn hb6 hi1
  cases b1 with
  | false =>
    have HF : Hid (¬ OkKit N kind T room) := Lib.hid (fun h => no_of HI1.out rfl h.1)
    go_wp2_with (fail)
    refine bodyPost_ret (v := .tuple #[.pointer none, .int .i64 1]) ?_ rfl ⟨.inr (.inl ⟨HM.out, HF.out, rfl⟩), HB0.out.trans ((HB6.out).mono HB0.out.size)⟩
    simp [results, Tryz.results10, go_sem]
  | true =>
  have HN1 := Lib.hid (HI1.out.1 rfl)
  by_cases hk0 : kind < 0
  · have HF : Hid (¬ OkKit N kind T room) := Lib.hid (fun h => by have := h.2.1; omega)
    go_wp2_with (fail)
    refine bodyPost_ret (v := .tuple #[.pointer none, .int .i64 1]) ?_ rfl ⟨.inr (.inl ⟨HM.out, HF.out, rfl⟩), HB0.out.trans ((HB6.out).mono HB0.out.size)⟩
    simp [results, Tryz.results10, go_sem]
  by_cases hk3 : (3 : Int) < kind
  · have HF : Hid (¬ OkKit N kind T room) := Lib.hid (fun h => by have := h.2.2.1; omega)
    go_wp2_with (fail)
    refine bodyPost_ret (v := .tuple #[.pointer none, .int .i64 1]) ?_ rfl ⟨.inr (.inl ⟨HM.out, HF.out, rfl⟩), HB0.out.trans ((HB6.out).mono HB0.out.size)⟩
    simp [results, Tryz.results10, go_sem]
  have hcm := classMay_calls w6 (HT.out.below HB6.out)
  go_wp2_with (fail)
  refine hcm.mono ?_
  rintro e w7 ⟨⟨b2, rfl, hi2⟩, hb7⟩
  have HB57 := Lib.hid (HB56.out.trans (hb7.mono HB56.out.size))
  have HB7 := Lib.hid (HB6.out.trans (hb7.mono HB6.out.size))
  have HI2 := Lib.hid hi2
  clear hcm hb7 hi2
  cases b2 with
  | false =>
    have HF : Hid (¬ OkKit N kind T room) := Lib.hid (fun h => no_of HI2.out rfl h.2.2.2.1)
    go_wp2_with (fail)
    refine bodyPost_ret (v := .tuple #[.pointer none, .int .i64 1]) ?_ rfl ⟨.inr (.inl ⟨HM.out, HF.out, rfl⟩), HB0.out.trans ((HB7.out).mono HB0.out.size)⟩
    simp [results, Tryz.results10, go_sem]
  | true =>
  have HT1 := Lib.hid (HI2.out.1 rfl)
  have HX7 := Lib.hid ((HB57.out.block w4.heap.size HS5.out).trans HX5.out)
  obtain ⟨g0, g1, g2, g3, g4, g5, g6, g7, g8, gf⟩ := box9 HX7.out
  rcases HPC.out with ⟨hp0, hnr⟩ | ⟨hrm, cb, mb, hp0, hrep⟩
  · subst hp0
    have HF : Hid (¬ OkKit N kind T room) := Lib.hid (fun h => hnr ⟨h.2.2.2.2.1, h.2.2.2.2.2⟩)
    clear hnr
    go_wp2_with (fail)
    refine bodyPost_ret (v := .tuple #[.pointer none, .int .i64 1]) ?_ rfl ⟨.inr (.inl ⟨HM.out, HF.out, rfl⟩), HB0.out.trans ((HB7.out).mono HB0.out.size)⟩
    simp [results, Tryz.results10, go_sem]
  subst hp0
  have HOKK : Hid (OkKit N kind T room) := Lib.hid ⟨HN1.out, by omega, by omega, HT1.out, hrm.1, hrm.2⟩
  have HRM := Lib.hid hrm
  have HREP := Lib.hid hrep
  clear hrm hrep
  go_upto_if 60 with (fail)
  have hsb7 : w4.heap.size < w7.heap.size := Nat.lt_of_lt_of_le HS5.out HB57.out.size
  have HB47 : Hid (Below w4.heap.size w4 w7) := Lib.hid (HB45.out.trans (HB57.out.mono HB45.out.size))
  clear hk0 hk3
  go_cut [] (fun wx => ∃ oa2 oc2, wx.heap[w4.heap.size]? = some (.cells #[.slice none 0 0, .slice none 0 0, .slice none 0 0, .slice na nn ncc, .slice none 0 0, .int .i64 kind, .slice oa2 (tabOf T).length oc2, .pointer (some ⟨eg, 0, none⟩), .pointer (some ⟨cb, 0, none⟩)] 76) ∧
      Below w0.heap.size w0 wx ∧ Below w4.heap.size w4 wx ∧ TabOwn w2.heap.size w3.heap.size w4.heap.size wx (.slice oa2 (tabOf T).length oc2) (tabOf T))
  case first =>
    by_cases ht0 : tn = 0
    · have hT0 : T = [] := List.eq_nil_of_length_eq_zero (by have := HTL.out; omega)
      have hTU : tabOf T = usR := by unfold tabOf; rw [if_pos hT0]
      have HTU := Lib.hid hTU
      have HUU := usual_calls w7 (HU.out.below HB7.out)
      subst ht0
      clear hT0 hTU
      go_wp2_with (fail)
      refine HUU.mono ?_
      rintro e w8 ⟨vu, rfl, hou, hb8⟩
      obtain ⟨ua, uc, rfl, _⟩ := hou.sl
      have hx8 := (hb8.block w4.heap.size hsb7).trans HX7.out
      obtain ⟨g0, g1, g2, g3, g4, g5, g6, g7, g8, gf⟩ := box9 hx8
      have HX8 := Lib.hid hx8
      have HB8 := Lib.hid hb8
      have HOU := Lib.hid hou
      clear hx8 hb8 hou HUU
      go_wp2_with (fail)
      go_meet
      refine ⟨ua, uc, by rw [HTU.out]; exact set_cellN HX8.out, (HB7.out.trans (HB8.out.mono HB7.out.size)).setCell HB4.out.size _, (HB47.out.trans (HB8.out.mono HB47.out.size)).setCell (Nat.le_refl _) _, by rw [HTU.out]; exact ⟨OwnF.mono (OwnF.keepG HOU.out ((KeepG.refl _ _).set _ _) fun q hq => by have := (World.ownsRow.lt HOU.out q hq).1; omega) (by have := HB23.out.size; have := HB34.out.size; omega), fun q hq => .inr (by have := (World.ownsRow.lt HOU.out q hq).1; omega)⟩⟩
    · have hTT : tabOf T = T := by unfold tabOf; rw [if_neg (fun e => ht0 (by have := HTL.out; rw [e] at this; simpa using this.symm))]
      have HTT := Lib.hid hTT
      have htl : T.length = tn := HTL.out
      have HTL2 := Lib.hid htl
      clear hTT htl
      go_wp2_with (fail)
      go_meet
      refine ⟨oa, occ, by rw [HTT.out, HTL2.out]; exact HX7.out, HB7.out, HB47.out, by rw [HTT.out, HTL2.out]; exact ⟨HOT.out.below (HB34.out.trans (HB47.out.mono HB34.out.size)), fun q hq => .inl (World.ownsRow.lt HOT.out q hq).2⟩⟩
  case rest =>
  obtain ⟨oa2, oc2, hxb, hbb, hb4b, htab⟩ := hcut
  obtain ⟨wb, rfl⟩ : ∃ wb, wb = wc := ⟨wc, rfl⟩
  have HXB := Lib.hid hxb
  have HBB := Lib.hid hbb
  have HB4B := Lib.hid hb4b
  have HTAB := Lib.hid htab
  clear hxb hbb hb4b htab g0 g1 g2 g3 g4 g5 g6 g7 g8 gf
  obtain ⟨c0, c1, c2⟩ := box3v ((HBB.out.block w.heap.size hs0).trans HX0.out)
  have hclT := fun w' (hb : Below wb.heap.size wb w') => cloneStr_calls w' (SlS.flat (Sl.below (HV.out.below HBB.out).tok hb)) (by show tn' ≤ 1048576; exact HLT.out)
  have hclS := fun w' (hb : Below wb.heap.size wb w') => cloneSp_calls w' (SlF.below (HV.out.below HBB.out).spc hb) (by show sn ≤ 1048576; exact HLS.out)
  have hsb : w4.heap.size < wb.heap.size := (Array.getElem?_eq_some_iff.1 HXB.out).1
  have hwb0 : w.heap.size < wb.heap.size := Nat.lt_of_lt_of_le hs0 HBB.out.size
  go_wp2_with (fail)
  go_cut [] (fun wx => ∃ pa pcap qa qcap, wx.heap[w4.heap.size]? = some (.cells #[.slice pa V.tokens.length pcap, .slice none 0 0, .slice qa V.specials.length qcap, .slice na nn ncc, .slice none 0 0, .int .i64 kind, .slice oa2 (tabOf T).length oc2, .pointer (some ⟨eg, 0, none⟩), .pointer (some ⟨cb, 0, none⟩)] 76) ∧
      OwnF encS 1 9 wx wb.heap.size (.slice pa V.tokens.length pcap) V.tokens ∧ OwnF Sp.enc 2 82 wx wb.heap.size (.slice qa V.specials.length qcap) V.specials ∧ KeepG w4.heap.size wb wx ∧ Below w4.heap.size wb wx)
  case first =>
    go_region_with (first
      | (go_at_call 31; refine (hclT _ (by exact (Below.refl _ _).drew)).mono ?_; rintro e w9 ⟨v9, rfl, ho9, hb9⟩; obtain ⟨pa, pcap, rfl, _⟩ := ho9.sl; have hb9' := Below.trans (below_drewN (Below.refl wb.heap.size wb) 1) hb9; have d2 := cell_below hb9' _ _ c2)
      | (go_at_call 37; refine (hclS _ (by exact hb9')).mono ?_; rintro e wa ⟨va, rfl, hoa, hba⟩; obtain ⟨qa, qcap, rfl, _⟩ := hoa.sl; have hba' := Below.trans hb9' (hba.mono hb9'.size); obtain ⟨g0, g1, g2, g3, g4, g5, g6, g7, g8, gf⟩ := box9 ((hba'.block w4.heap.size hsb).trans HXB.out)))
    all_goals (
      have hxa := (hba'.block w4.heap.size hsb).trans HXB.out
      have hs9 : wb.heap.size ≤ w9.heap.size := hb9'.size
      clear g0 g1 g2 g3 g4 g5 g6 g7 g8 gf
      go_wp2_with (fail)
      go_meet)
    all_goals exact ⟨pa, pcap, qa, qcap, set3N hxa, OwnF.keepG (ho9.below hba) (KeepG.set3 _ _ _ _ _) (fun q hq => by have := (World.ownsRow.lt ho9 q hq).1; simp at this; omega), OwnF.keepG (OwnF.mono hoa hs9) (KeepG.set3 _ _ _ _ _) (fun q hq => by have := (World.ownsRow.lt hoa q hq).1; omega), (((KeepG.refl _ _).below hba').set _ _ |>.set _ _).set _ _, (((hba'.mono (Nat.le_of_lt hsb)).setCell (p := ⟨w4.heap.size, 0, none⟩) (Nat.le_refl _) _).setCell (p := ⟨w4.heap.size, 1, none⟩) (Nat.le_refl _) _).setCell (p := ⟨w4.heap.size, 2, none⟩) (Nat.le_refl _) _⟩
  case rest =>
  obtain ⟨pa, pcap, qa, qcap, hxd, hot, hos, hkp, hb9⟩ := hcut
  have HXD := Lib.hid hxd
  have HOTK := Lib.hid hot
  have HOSP := Lib.hid hos
  have HKC := Lib.hid hkp
  have HB4C := Lib.hid (HB4B.out.trans hb9)
  have hsc : w4.heap.size < wc.heap.size := Nat.lt_of_lt_of_le hsb hkp.size
  have hwc0 : w.heap.size < w4.heap.size := Nat.lt_of_lt_of_le hs0 HB4.out.size
  clear hxd hot hos hkp hb9 hclT hclS c0 c1 c2
  have hNL : N.length = nn := HNL.out
  have HNL2 := Lib.hid hNL
  clear hNL
  go_wp2_with (fail)
  go_loopw [77] (fun i wr => ∃ (k : Nat) (mo : Option Addr) (mc : Nat), k ≤ nn ∧ i = .int .i64 k ∧ wr.heap[w4.heap.size]? = some (.cells #[.slice pa V.tokens.length pcap, .slice none 0 0, .slice qa V.specials.length qcap, .slice na nn ncc, .slice mo k mc, .int .i64 kind, .slice oa2 (tabOf T).length oc2, .pointer (some ⟨eg, 0, none⟩), .pointer (some ⟨cb, 0, none⟩)] 76) ∧
      Own wr wc.heap.size (.slice mo k mc) (marksOf V.specials (N.take k)) ∧ KeepG w4.heap.size wc wr ∧ Below w4.heap.size wc wr) (fun i _ => nn - (intOf i).toNat)
  case atStart => exact ⟨0, none, 0, by omega, rfl, HXD.out, by simpa [marksOf] using Own.nil wc wc.heap.size, KeepG.refl _ _, Below.refl _ _⟩
  case round =>
    obtain ⟨k, mo, mcc, hk, rfl, hxr, how, hkr, hbr⟩ := hrel
    have HXR := Lib.hid hxr
    have HOW := Lib.hid how
    have HKR := Lib.hid hkr
    have HBR := Lib.hid hbr
    have HB0R : Hid (Below w0.heap.size w0 wr) := Lib.hid ((HB4.out.trans (HB4C.out.mono HB4.out.size)).trans (hbr.mono HB4.out.size))
    have hsr : w4.heap.size < wr.heap.size := Nat.lt_of_lt_of_le hsc hkr.size
    have hsw : wc.heap.size ≤ wr.heap.size := hkr.size
    have hwr0 : w.heap.size < wr.heap.size := by omega
    obtain ⟨c0, c1, c2⟩ := box3v ((HB0R.out.block w.heap.size hs0).trans HX0.out)
    obtain ⟨g0, g1, g2, g3, g4, g5, g6, g7, g8, gf⟩ := box9 hxr
    clear hxr how hkr hbr
    by_cases hlt : k < nn
    · have hkN : k < N.length := by have := HNL2.out; omega
      obtain ⟨b, o, hao, hc⟩ := SlS.cell (Sl.below HN.out HB0R.out) (tk_eq hkN)
      subst hao
      obtain ⟨ID, hID⟩ : ∃ ID, idOf (spNamed V.specials (tk N k)) = ID := ⟨_, rfl⟩
      have hMK : marksOf V.specials (N.take k) ++ [ID] = marksOf V.specials (N.take (k + 1)) := by rw [← hID]; exact marksOf_take hkN
      have hid : ∀ w', Below wr.heap.size wr w' → Calls Tryz.prog 38 #[.agg #[.slice ta tn' tc', .slice ma mn mc, .slice sa sn sc], .string (tk N k)] w' fun e w9 => e = .returned (.int .i64 ID) ∧ Below wr.heap.size wr w9 := fun w' hb =>
        (id_calls (dd := ⟨ta, tn', tc', ma, mn, mc, sa, sn, sc⟩) (tk N k) w' ((HV.out.below HB0R.out).below hb)).mono fun e w9 ⟨h1, h2⟩ => ⟨by rw [h1, hID], hb.trans (h2.mono hb.size)⟩
      have HMK := Lib.hid hMK
      have hown0 := World.ownsRow.lt HOW.out
      have HLTW := Lib.hid hown0
      obtain ⟨i0, hi, hz0, hz1, hz2⟩ := info_parts infoInt3
      have hlk : (marksOf V.specials (N.take k)).length = k := by rw [marksOf_len, List.length_take]; omega
      clear hMK hown0 hID
      go_wp2_with (fail)
      go_region_law (first
        | (go_simp; go_at_call 38; refine (hid _ (by exact (Below.refl _ _).drew)).mono ?_; rintro e w9 ⟨rfl, hb9⟩; have hx9 := (hb9.block w4.heap.size hsr).trans HXR.out; obtain ⟨e0, e1, e2, e3, e4, e5, e6, e7, e8, ef⟩ := box9 hx9; have f4 := cell_below (below_alloc w9 (.cells #[.int .i64 ID] 3)) _ _ e4; have ho9 := ownK (HOW.out.below hb9) hlk; have hs9 := hb9.size)
        | (refine step_append_lies _ (by rfl) _ _ _ (by rfl) wc.heap.size 3 i0 _ 1 8 Tryz.underlying41 hi hz0 hz1 hz2 rfl (by omega) _ k _ (by rfl) (ho9.alloc _) ⟨w9.heap.size, 0, none⟩ 1 1 [.int .i64 ID] (by rfl) (by rfl) (World.news_of_block (cs := #[.int .i64 ID]) (heap_alloc_new w9 _)) (by simp [Value.oneCell']) (by omega) (by unfold maxLen; omega) (by omega) (by simp; omega) (w9.heap.size + 1) (by simp) ?_; intro gg cap w1 hown1 hgrow hat hlt; have hx1 := (hgrow.block w4.heap.size (by simp; omega) (fun e => by have := (HLTW.out _ e.symm).1; omega)).trans ((Below.heap_alloc _ _ _ (by omega)).trans hx9); obtain ⟨k0, k1, k2, k3, k4, k5, k6, k7, k8, kf⟩ := box9 hx1))
      all_goals (
        obtain ⟨n1, n2⟩ := mark_next HKR.out HBR.out hsc hb9 hgrow HLTW.out 4 (.slice (some ⟨gg, 0, none⟩) (k + 1) cap)
        have n3 := mark_own (MA := marksOf V.specials (N.take (k + 1))) hown1 HMK.out hlk (i := 4) (x := .slice (some ⟨gg, 0, none⟩) (k + 1) cap) hsc
        have n4 := set4N (v := .slice (some ⟨gg, 0, none⟩) (k + 1) cap) hx1
        have N1 := Lib.hid n1
        have N2 := Lib.hid n2
        have N3 := Lib.hid n3
        have N4 := Lib.hid n4
        clear n1 n2 n3 n4 hown1 hgrow hat hx1 k0 k1 k2 k3 k4 k5 k6 k7 k8 kf
        go_wp2_with (fail)
        go_roundw
        · exact ⟨k + 1, some ⟨gg, 0, none⟩, cap, by omega, by simp, N4.out, N3.out, N1.out, N2.out⟩
        · simp [intOf]; omega)
    · obtain rfl : k = nn := by omega
      go_wp2_with (fail)
      refine bodyPost_ret (v := .tuple #[.pointer (some ⟨w4.heap.size, 0, none⟩), .int .i64 0]) ?_ rfl ⟨.inr (.inr ⟨HM.out, HOKK.out, w4.heap.size, cb, mb, rfl, codR_mk HNL2.out HB0.out.size HB1.out.size HB12.out HB23.out HB34.out (HB4C.out.trans HBR.out) HKC.out HKR.out hsb HB4B.out.size HEC.out HON.out HOTK.out HOSP.out HTAB.out HXR.out HOW.out HREP.out⟩), HB0.out.trans (HB0R.out.mono HB0.out.size)⟩
      simp [results, Tryz.results10, go_sem]

end Go.Proofs.YtnadelmbkaoeeaaGreatDoor

/- The index of tokens by their symbols: how it lies; its comparisons, its searches. (Printed by gIdx.py.) -/
namespace Go.Proofs.YtnadelmbkaoeeaaGreatDoor
open Go.RowKit
open Go.Sort hiding Below
set_option linter.unusedVariables false

/-- A row of the index as it lies: a slice, a number; what the slice reads as. -/
structure FP where
  ao : Option Addr
  n : Nat
  c : Nat
  id : Int
  syms : List Int
instance : Inhabited FP := ⟨⟨none, 0, 0, 0, []⟩⟩
def FP.enc (p : FP) : List Value := [.slice p.ao p.n p.c, .int .i64 p.id]
theorem FP.enc_len (p : FP) : p.enc.length = 2 := rfl
theorem FP.enc_one (p : FP) : ∀ v ∈ p.enc, v.oneCell' = true := by
  intro v hv
  simp [FP.enc] at hv
  rcases hv with rfl | rfl <;> rfl
def FP.fr (p : FP) : Fr := (p.syms, p.id)
def fp (P : List FP) (i : Nat) : FP := P.getD i default
theorem fp_eq {P : List FP} {i : Nat} (h : i < P.length) : P[i]? = some (fp P i) := by simp [fp, List.getD, h]
theorem fp_get {P : List FP} {i : Nat} (h : i < P.length) : P[i] = fp P i := by simp [fp, List.getD, h]
theorem fp_mem {P : List FP} {i : Nat} (h : i < P.length) : fp P i ∈ P := List.mem_of_getElem? (fp_eq h)
theorem infoRow : (Tryz.prog.info? 93).map (fun i => (i.zero.map (·.cells.size), i.size, i.bytes)) = some (some 2, 2, 32) := by kernel_rfl
/-- An index lies at block g. -/
structure IdxR (w : World) (g : Nat) (P : List FP) : Prop where
  tab : ∃ ro rc, w.heap[g]? = some (.cells #[.slice ro P.length rc] 91) ∧ SlF 2 w ro P.length rc (flat FP.enc P)
  syms : ∀ p ∈ P, SlI w p.ao p.n p.c p.syms
theorem IdxR.below {w w' : World} {g : Nat} {P : List FP} (h : IdxR w g P) (hb : Below w.heap.size w w') : IdxR w' g P := by
  obtain ⟨⟨ro, rc, h1, h2⟩, h3⟩ := h
  exact ⟨⟨ro, rc, (hb.block g (Array.getElem?_eq_some_iff.1 h1).1).trans h1, h2.below hb⟩, fun p hp => (h3 p hp).below hb⟩
theorem IdxR.drewN {w : World} {g : Nat} {P : List FP} (h : IdxR w g P) (k : Nat) : IdxR (w.drewN k) g P := h.below (below_drewN (Below.refl _ _) k)
theorem box1 {w : World} {g : Nat} {a : Value} {t : TypeId} (h : w.heap[g]? = some (.cells #[a] t)) : w.cell? ⟨g, 0, none⟩ = some a ∧ ∀ o, w.frozen? ⟨g, o, none⟩ = false := by
  simp [World.cell?, World.frozen?, h]
theorem set1N {w : World} {g : Nat} {a v : Value} {t : TypeId} (h : w.heap[g]? = some (.cells #[a] t)) : (w.setCell ⟨g, 0, none⟩ v).heap[g]? = some (.cells #[v] t) := by
  simp [World.setCell, Array.getElem?_modify, h]
/-- What halving finds: the rows that are less, all in front. -/
theorem cut_less {P : List FP} (h : SortedF (P.map FP.fr)) (s : List Int) {k0 : Nat} (hk : k0 = (P.map FP.fr).countP (fun r => decide (r.1 < s))) : k0 ≤ P.length ∧ ∀ t, t < P.length → ((fp P t).syms < s ↔ t < k0) := by
  have h1 := take_countP (h.less s)
  rw [← hk] at h1
  have hle : k0 ≤ P.length := by rw [hk]; have := List.countP_le_length (p := fun r : Fr => decide (r.1 < s)) (l := P.map FP.fr); simpa using this
  refine ⟨hle, fun t ht => ?_⟩
  have hm : (P.map FP.fr)[t]? = some (fp P t).fr := by rw [List.getElem?_map, fp_eq ht]; rfl
  constructor
  · intro hlt
    rcases Nat.lt_or_ge t k0 with h2 | h2
    · exact h2
    · exfalso
      have : (fp P t).fr ∈ (P.map FP.fr).drop k0 := List.mem_of_getElem? (i := t - k0) (by rw [List.getElem?_drop, show k0 + (t - k0) = t by omega]; exact hm)
      rw [h1.2, List.mem_filter] at this
      have := this.2
      simp only [FP.fr, Bool.not_eq_true'] at this
      exact of_decide_eq_false this hlt
  · intro hlt
    have : (fp P t).fr ∈ (P.map FP.fr).take k0 := List.mem_of_getElem? (i := t) (by rw [List.getElem?_take, if_pos hlt]; exact hm)
    rw [h1.1, List.mem_filter] at this
    exact of_decide_eq_true this.2
theorem cmpL_ge {a b : List Int} : 0 ≤ cmpL a b ↔ ¬ a < b := by
  rw [← cmpL_lt]
  omega

set_option maxHeartbeats 400000 in
/-- The sort's comparison of rows. -/
theorem rowCmp_calls (p q : FP) (w : World) (hp : SlI w p.ao p.n p.c p.syms) (hq : SlI w q.ao q.n q.c q.syms) :
    Calls Tryz.prog 48 #[.agg #[.slice p.ao p.n p.c, .int .i64 p.id], .agg #[.slice q.ao q.n q.c, .int .i64 q.id]] w fun e w' => e = .returned (.int .i64 (cmpL p.syms q.syms)) ∧ ∃ m os, w' = grow (w.drewN m) os := by
  have hb : Below w.heap.size w ((w.alloc (.cells #[.slice p.ao p.n p.c, .int .i64 p.id] 93)).alloc (.cells #[.slice q.ao q.n q.c, .int .i64 q.id] 93)) := (below_alloc w _).alloc (by simp) _
  have hcmp := compareL_calls _ (hp.below hb) (hq.below hb)
  clear hb
  go_enter Tryz.func48, Tryz.ntmps48
  go_wp2_with (fail)
  refine hcmp.mono ?_
  rintro e w' ⟨rfl, rfl⟩
  clear hcmp
  go_wp2
  go_ret
  exact ⟨rfl, 0, _, by rw [alloc_eq_grow, alloc_eq_grow, grow_grow]; rfl⟩

set_option maxHeartbeats 400000 in
theorem exactCmp_calls (p : FP) {S : List Int} {so : Option Addr} {sn sc : Nat} (w : World) (hp : SlI w p.ao p.n p.c p.syms) (hS : SlI w so sn sc S) :
    Calls Tryz.prog 77 #[.agg #[.slice p.ao p.n p.c, .int .i64 p.id], .slice so sn sc] w fun e w' => e = .returned (.int .i64 (cmpL p.syms S)) ∧ Below w.heap.size w w' := by
  have hb : Below w.heap.size w (w.alloc (.cells #[.slice p.ao p.n p.c, .int .i64 p.id] 93)) := below_alloc w _
  have hcmp := compareL_calls _ (hp.below hb) (hS.below hb)
  have HB := Lib.hid hb
  clear hb
  go_enter Tryz.func77, Tryz.ntmps77
  go_wp2_with (fail)
  refine hcmp.mono ?_
  rintro e w' ⟨rfl, rfl⟩
  clear hcmp
  go_wp2
  go_ret
  exact ⟨rfl, HB.out⟩

theorem cmp_q {A B : List Int} {ao bo : Option Addr} {n c m d : Nat} {w : World} (k : Nat) (hA : SlI w ao n c A) (hB : SlI w bo m d B) :
    Calls Tryz.prog 49 #[.slice ao n c, .slice bo m d] (w.drewN k) fun e w' => e = .returned (.int .i64 (cmpL A B)) ∧ w' = w.drewN k :=
  (compareL_calls (w.drewN k) (hA.drewN k) (hB.drewN k)).mono fun e w' ⟨h1, h2⟩ => ⟨h1, h2.symm⟩
theorem beg_q {A B : List Int} {ao bo : Option Addr} {n c m d : Nat} {w : World} (k : Nat) (hA : SlI w ao n c A) (hB : SlI w bo m d B) :
    Calls Tryz.prog 81 #[.slice ao n c, .slice bo m d] (w.drewN k) fun e w' => e = .returned (.bool (begins A B)) ∧ ∃ q, w' = (w.drewN k).drewN q :=
  begins_calls (w.drewN k) (hA.drewN k) (hB.drewN k)

set_option maxHeartbeats 1000000 in
set_option maxRecDepth 100000 in
theorem span1_calls {P : List FP} {g bx bs h : Nat} {S : List Int} {so : Option Addr} {sn sc : Nat} (w : World) (hI : IdxR w g P) (hS : SlI w so sn sc S) (hx : w.cell? ⟨bx, 0, none⟩ = some (.pointer (some ⟨g, 0, none⟩))) (hs : w.cell? ⟨bs, 0, none⟩ = some (.slice so sn sc)) (hh : h < P.length) :
    Calls Tryz.prog 79 #[.int .i64 h, .pointer (some ⟨bx, 0, none⟩), .pointer (some ⟨bs, 0, none⟩)] w fun e w' => e = .returned (.bool (decide (0 ≤ cmpL (fp P h).syms S))) ∧ ∃ q, w' = w.drewN q := by
  obtain ⟨⟨ro, rc, hg, hr⟩, hsy⟩ := hI
  obtain ⟨c0, _⟩ := box1 hg
  obtain ⟨b, of, hao, hce⟩ := hr.elem FP.enc_len (by omega) (fp_eq hh)
  subst hao
  have HP := Lib.hid (hsy _ (fp_mem hh))
  obtain ⟨p, hp⟩ : ∃ p, fp P h = p := ⟨_, rfl⟩
  rw [hp] at hce HP ⊢
  obtain ⟨ao, n, c, id, sy⟩ := p
  have d0 := hce 0 _ rfl
  rw [Nat.add_zero] at d0
  simp only at d0 HP ⊢
  have HS := Lib.hid hS
  have gh : (h : Int) < (P.length : Int) := by omega
  have hmix := mixedOrders
  clear hce hg hr hsy hp hS
  generalize P.length = N at *
  go_enter Tryz.func79, Tryz.ntmps79
  go_wp2_with (fail)
  go_quiet ((go_at_call 49; exact Calls.quiet_of_same (cmp_q _ HP.out HS.out)))
  go_wp2_with (fail)
  go_ret
  exact ⟨rfl, nq, rfl⟩

set_option maxHeartbeats 1000000 in
set_option maxRecDepth 100000 in
theorem span2_calls {P : List FP} {g bx bf bs h from_ : Nat} {S : List Int} {so : Option Addr} {sn sc : Nat} (w : World) (hI : IdxR w g P) (hS : SlI w so sn sc S) (hx : w.cell? ⟨bx, 0, none⟩ = some (.pointer (some ⟨g, 0, none⟩))) (hfr : w.cell? ⟨bf, 0, none⟩ = some (.int .i64 from_)) (hs : w.cell? ⟨bs, 0, none⟩ = some (.slice so sn sc)) (hh : from_ + h < P.length) (hN : P.length ≤ 1048576) :
    Calls Tryz.prog 80 #[.int .i64 h, .pointer (some ⟨bx, 0, none⟩), .pointer (some ⟨bf, 0, none⟩), .pointer (some ⟨bs, 0, none⟩)] w fun e w' => e = .returned (.bool (!begins (fp P (from_ + h)).syms S)) ∧ ∃ q, w' = w.drewN q := by
  obtain ⟨⟨ro, rc, hg, hr⟩, hsy⟩ := hI
  obtain ⟨c0, _⟩ := box1 hg
  obtain ⟨b, of, hao, hce⟩ := hr.elem FP.enc_len (by omega) (fp_eq hh)
  subst hao
  have HP := Lib.hid (hsy _ (fp_mem hh))
  obtain ⟨p, hp⟩ : ∃ p, fp P (from_ + h) = p := ⟨_, rfl⟩
  rw [hp] at hce HP ⊢
  obtain ⟨ao, n, c, id, sy⟩ := p
  have d0 := hce 0 _ rfl
  rw [Nat.add_zero] at d0
  simp only at d0 HP ⊢
  obtain ⟨k, hk⟩ : ∃ k, from_ + h = k := ⟨_, rfl⟩
  rw [hk] at d0 hh
  have hwr : IntKind.i64.wrap ((from_ : Int) + (h : Int)) = (k : Int) := by rw [IntKind.wrap_i64]; omega
  have HS := Lib.hid hS
  have gh : (k : Int) < (P.length : Int) := by omega
  have hmix := mixedOrders
  clear hce hg hr hsy hp hS hk
  generalize P.length = N at *
  go_enter Tryz.func80, Tryz.ntmps80
  go_wp2_with (fail)
  go_quiet ((go_at_call 81; exact Calls.quiet_of (beg_q _ HP.out HS.out)))
  go_wp2_with (fail)
  go_ret
  exact ⟨rfl, nq, rfl⟩

set_option maxHeartbeats 1000000 in
set_option maxRecDepth 100000 in
/-- sort.Search: the first number of which a word holds that holds from there on. -/
theorem search1_calls {n k0 : Nat} {bx bs : Nat} (w : World) (hk : k0 ≤ n) (hn : n ≤ 1048576) (hf : ∀ h q : Nat, h < n → Calls Tryz.prog 79 #[.int .i64 h, .pointer (some ⟨bx, 0, none⟩), .pointer (some ⟨bs, 0, none⟩)] (w.drewN q) fun e w' => e = .returned (.bool (decide (k0 ≤ h))) ∧ ∃ q', w' = (w.drewN q).drewN q') :
    Calls Tryz.prog 78 #[.int .i64 n, .func (.func 79) #[] #[.pointer (some ⟨bx, 0, none⟩), .pointer (some ⟨bs, 0, none⟩)]] w fun e w' => e = .returned (.int .i64 k0) ∧ ∃ q, w' = w.drewN q := by
  have HK := Lib.hid hk
  clear hk
  go_enter Tryz.func78, Tryz.ntmps78
  go_wp2_with (fail)
  go_loopw [5, 6] (fun a b wr => ∃ lo hi q : Nat, a = .int .i64 lo ∧ b = .int .i64 hi ∧ Hid (lo ≤ k0) ∧ Hid (k0 ≤ hi) ∧ lo ≤ hi ∧ hi ≤ n ∧ wr = w.drewN q) (fun a b _ => (intOf b).toNat - (intOf a).toNat)
  case atStart => exact ⟨0, n, 0, rfl, rfl, Lib.hid (by omega), HK, by omega, by omega, rfl⟩
  case round =>
    obtain ⟨lo, hi, q, rfl, rfl, Hlo, Hhi, hlh, hhn, rfl⟩ := hrel
    by_cases hlt : lo < hi
    · obtain ⟨m, hm⟩ : ∃ m, (lo + hi) / 2 = m := ⟨_, rfl⟩
      have hcall := hf m q (by omega)
      have hmi : ((lo : Int) + (hi : Int)) / 2 = (m : Int) := by omega
      have hml : lo ≤ m := by omega
      have hmh : m < hi := by omega
      have HHF := Lib.hid hf
      clear hm hf
      by_cases hkm : k0 ≤ m
      · rw [decide_eq_true hkm] at hcall
        have HKM := Lib.hid hkm
        clear hkm
        go_wp2_with (go_at_call 79; refine hcall.mono ?_; rintro e w' ⟨rfl, q', rfl⟩)
        go_roundw
        case rel => exact ⟨lo, m, q + q', rfl, by first | rfl | rw [hmi], Hlo, HKM, hml, by omega, by simp [World.drewN]⟩
        case measure => simp [intOf]; omega
      · rw [decide_eq_false hkm] at hcall
        have HKM : Hid (m + 1 ≤ k0) := Lib.hid (by omega)
        clear hkm
        go_wp2_with (go_at_call 79; refine hcall.mono ?_; rintro e w' ⟨rfl, q', rfl⟩)
        go_roundw
        case rel => exact ⟨m + 1, hi, q + q', by first | go_num | (rw [hmi]; rfl), rfl, HKM, Hhi, by omega, hhn, by simp [World.drewN]⟩
        case measure => simp [intOf]; omega
    · have hE : lo = k0 := by have := Hlo.out; have := Hhi.out; omega
      subst hE
      go_wp2_with (fail)
      go_ret
      exact ⟨rfl, q, rfl⟩

set_option maxHeartbeats 1000000 in
set_option maxRecDepth 100000 in
/-- sort.Search: the first number of which a word holds that holds from there on. -/
theorem search2_calls {n k0 : Nat} {bx bf bs : Nat} (w : World) (hk : k0 ≤ n) (hn : n ≤ 1048576) (hf : ∀ h q : Nat, h < n → Calls Tryz.prog 80 #[.int .i64 h, .pointer (some ⟨bx, 0, none⟩), .pointer (some ⟨bf, 0, none⟩), .pointer (some ⟨bs, 0, none⟩)] (w.drewN q) fun e w' => e = .returned (.bool (decide (k0 ≤ h))) ∧ ∃ q', w' = (w.drewN q).drewN q') :
    Calls Tryz.prog 78 #[.int .i64 n, .func (.func 80) #[] #[.pointer (some ⟨bx, 0, none⟩), .pointer (some ⟨bf, 0, none⟩), .pointer (some ⟨bs, 0, none⟩)]] w fun e w' => e = .returned (.int .i64 k0) ∧ ∃ q, w' = w.drewN q := by
  have HK := Lib.hid hk
  clear hk
  go_enter Tryz.func78, Tryz.ntmps78
  go_wp2_with (fail)
  go_loopw [5, 6] (fun a b wr => ∃ lo hi q : Nat, a = .int .i64 lo ∧ b = .int .i64 hi ∧ Hid (lo ≤ k0) ∧ Hid (k0 ≤ hi) ∧ lo ≤ hi ∧ hi ≤ n ∧ wr = w.drewN q) (fun a b _ => (intOf b).toNat - (intOf a).toNat)
  case atStart => exact ⟨0, n, 0, rfl, rfl, Lib.hid (by omega), HK, by omega, by omega, rfl⟩
  case round =>
    obtain ⟨lo, hi, q, rfl, rfl, Hlo, Hhi, hlh, hhn, rfl⟩ := hrel
    by_cases hlt : lo < hi
    · obtain ⟨m, hm⟩ : ∃ m, (lo + hi) / 2 = m := ⟨_, rfl⟩
      have hcall := hf m q (by omega)
      have hmi : ((lo : Int) + (hi : Int)) / 2 = (m : Int) := by omega
      have hml : lo ≤ m := by omega
      have hmh : m < hi := by omega
      have HHF := Lib.hid hf
      clear hm hf
      by_cases hkm : k0 ≤ m
      · rw [decide_eq_true hkm] at hcall
        have HKM := Lib.hid hkm
        clear hkm
        go_wp2_with (go_at_call 80; refine hcall.mono ?_; rintro e w' ⟨rfl, q', rfl⟩)
        go_roundw
        case rel => exact ⟨lo, m, q + q', rfl, by first | rfl | rw [hmi], Hlo, HKM, hml, by omega, by simp [World.drewN]⟩
        case measure => simp [intOf]; omega
      · rw [decide_eq_false hkm] at hcall
        have HKM : Hid (m + 1 ≤ k0) := Lib.hid (by omega)
        clear hkm
        go_wp2_with (go_at_call 80; refine hcall.mono ?_; rintro e w' ⟨rfl, q', rfl⟩)
        go_roundw
        case rel => exact ⟨m + 1, hi, q + q', by first | go_num | (rw [hmi]; rfl), rfl, HKM, Hhi, by omega, hhn, by simp [World.drewN]⟩
        case measure => simp [intOf]; omega
    · have hE : lo = k0 := by have := Hlo.out; have := Hhi.out; omega
      subst hE
      go_wp2_with (fail)
      go_ret
      exact ⟨rfl, q, rfl⟩

set_option maxHeartbeats 1000000 in
set_option maxRecDepth 100000 in
theorem binF_calls {P : List FP} {ro : Option Addr} {rc : Nat} {S : List Int} {so : Option Addr} {sn sc : Nat} (w : World) (hr : SlF 2 w ro P.length rc (flat FP.enc P)) (hsy : ∀ p ∈ P, SlI w p.ao p.n p.c p.syms) (hS : SlI w so sn sc S) (hN : P.length ≤ 1048576)
    {k0 : Nat} (hk : k0 ≤ P.length) (hk2 : ∀ t, t < P.length → ((fp P t).syms < S ↔ t < k0)) {bb : Bool} (hbb : bb = true ↔ (k0 < P.length ∧ (fp P k0).syms = S)) :
    Calls Tryz.prog 76 #[.slice ro P.length rc, .slice so sn sc, .func (.func 77) #[] #[]] w fun e w' => e = .returned (.tuple #[.int .i64 (k0 : Int), .bool bb]) ∧ Below w.heap.size w w' := by
  have HR := Lib.hid hr
  have HSY := Lib.hid hsy
  have HS := Lib.hid hS
  have HK := Lib.hid hk
  have HK2 := Lib.hid hk2
  have HBB := Lib.hid hbb
  obtain ⟨N, hNN⟩ : ∃ N, P.length = N := ⟨_, rfl⟩
  rw [hNN] at HR HK hN ⊢
  have HNN := Lib.hid hNN
  clear hr hsy hS hk hk2 hbb hNN
  go_enter Tryz.func76, Tryz.ntmps76
  go_wp2_with (fail)
  go_loopw [9, 10] (fun a b wr => ∃ lo hi : Nat, a = .int .i64 lo ∧ b = .int .i64 hi ∧ Hid (lo ≤ k0) ∧ Hid (k0 ≤ hi) ∧ lo ≤ hi ∧ hi ≤ N ∧ Below w.heap.size w wr) (fun a b _ => (intOf b).toNat - (intOf a).toNat)
  case atStart => exact ⟨0, N, rfl, rfl, Lib.hid (by omega), HK, by omega, by omega, Below.refl _ _⟩
  case round =>
    obtain ⟨lo, hi, rfl, rfl, Hlo, Hhi, hlh, hhn, hb⟩ := hrel
    have HB := Lib.hid hb
    clear hb
    by_cases hlt : lo < hi
    · obtain ⟨m, hm⟩ : ∃ m, (lo + hi) / 2 = m := ⟨_, rfl⟩
      have hmN : m < P.length := by have := HNN.out; omega
      obtain ⟨b, of, hao, hce⟩ := (HR.out.below HB.out).elem FP.enc_len (by omega) (fp_eq hmN)
      subst hao
      obtain ⟨p, hp⟩ : ∃ p, fp P m = p := ⟨_, rfl⟩
      rw [hp] at hce
      have hcall := exactCmp_calls p wr (by rw [← hp]; exact (HSY.out _ (fp_mem hmN)).below HB.out) (HS.out.below HB.out)
      have d0 := hce 0 _ rfl
      have d1 := hce 1 _ rfl
      rw [Nat.add_zero] at d0
      have hlm : (p.syms < S ↔ m < k0) := by rw [← hp]; exact HK2.out m hmN
      have hmi : ((lo : Int) + (hi : Int)) / 2 = (m : Int) := by omega
      have hml : lo ≤ m := by omega
      have hmh : m < hi := by omega
      have gm : (m : Int) < (N : Int) := by omega
      clear hm hce hp hmN
      obtain ⟨z, hz⟩ : ∃ z, cmpL p.syms S = z := ⟨_, rfl⟩
      have hzl : z < 0 ↔ m < k0 := by rw [← hz, cmpL_lt]; exact hlm
      rw [hz] at hcall
      clear hlm hz
      by_cases hz0 : z < 0
      · have HKM := Lib.hid (show m + 1 ≤ k0 by have := hzl.1 hz0; omega)
        clear hzl
        go_wp2_with (go_at_call 77; refine hcall.mono ?_; rintro e w' ⟨rfl, hbx⟩)
        go_roundw
        case rel => exact ⟨m + 1, hi, by first | go_num | (rw [hmi]; rfl), rfl, HKM, Hhi, by omega, hhn, HB.out.trans (hbx.mono HB.out.size)⟩
        case measure => simp [intOf]; omega
      · have HKM := Lib.hid (show k0 ≤ m by rcases Nat.lt_or_ge m k0 with h | h; exact absurd (hzl.2 h) hz0; exact h)
        clear hzl
        go_wp2_with (go_at_call 77; refine hcall.mono ?_; rintro e w' ⟨rfl, hbx⟩)
        go_roundw
        case rel => exact ⟨lo, m, rfl, by first | rfl | rw [hmi], Hlo, HKM, hml, by omega, HB.out.trans (hbx.mono HB.out.size)⟩
        case measure => simp [intOf]; omega
    · have hE : lo = k0 := by have := Hlo.out; have := Hhi.out; omega
      subst hE
      by_cases hn : lo < N
      · have hmN : lo < P.length := by have := HNN.out; omega
        obtain ⟨b, of, hao, hce⟩ := (HR.out.below HB.out).elem FP.enc_len (by omega) (fp_eq hmN)
        subst hao
        obtain ⟨p, hp⟩ : ∃ p, fp P lo = p := ⟨_, rfl⟩
        rw [hp] at hce HBB
        have hcall := exactCmp_calls p wr (by rw [← hp]; exact (HSY.out _ (fp_mem hmN)).below HB.out) (HS.out.below HB.out)
        have d0 := hce 0 _ rfl
        have d1 := hce 1 _ rfl
        rw [Nat.add_zero] at d0
        have gm : (lo : Int) < (N : Int) := by omega
        have HMN := Lib.hid hmN
        clear hce hp hmN
        obtain ⟨z, hz⟩ : ∃ z, cmpL p.syms S = z := ⟨_, rfl⟩
        have hzl : z = 0 ↔ p.syms = S := by rw [← hz, cmpL_zero]
        rw [hz] at hcall
        clear hz
        by_cases hz0 : z = 0
        · obtain rfl : bb = true := HBB.out.2 ⟨HMN.out, hzl.1 hz0⟩
          have hb2 : (z == 0) = true := by simpa using hz0
          clear hzl hz0
          go_wp2_with (go_at_call 77; refine hcall.mono ?_; rintro e w' ⟨rfl, hbx⟩)
          refine bodyPost_ret (v := .tuple #[.int .i64 lo, .bool true]) ?_ rfl ⟨rfl, HB.out.trans (hbx.mono HB.out.size)⟩
          simp [results, Tryz.results76, go_sem]
        · obtain rfl : bb = false := by
            cases bb with
            | false => rfl
            | true => exact absurd (hzl.2 (HBB.out.1 rfl).2) hz0
          have hb2 : (z == 0) = false := by simpa using hz0
          clear hzl hz0
          go_wp2_with (go_at_call 77; refine hcall.mono ?_; rintro e w' ⟨rfl, hbx⟩)
          refine bodyPost_ret (v := .tuple #[.int .i64 lo, .bool false]) ?_ rfl ⟨rfl, HB.out.trans (hbx.mono HB.out.size)⟩
          simp [results, Tryz.results76, go_sem]
      · obtain rfl : bb = false := by
          cases bb with
          | false => rfl
          | true => exact absurd (HBB.out.1 rfl).1 (by have := HNN.out; omega)
        go_wp2_with (fail)
        refine bodyPost_ret (v := .tuple #[.int .i64 lo, .bool false]) ?_ rfl ⟨rfl, HB.out⟩
        simp [results, Tryz.results76, go_sem]

set_option maxHeartbeats 1000000 in
theorem exact_calls {P : List FP} {g : Nat} {S : List Int} {so : Option Addr} {sn sc : Nat} (w : World) (hI : IdxR w g P) (hS : SlI w so sn sc S) (hN : P.length ≤ 1048576)
    {k0 : Nat} (hk : k0 ≤ P.length) (hk2 : ∀ t, t < P.length → ((fp P t).syms < S ↔ t < k0)) {bb : Bool} (hbb : bb = true ↔ (k0 < P.length ∧ (fp P k0).syms = S)) :
    Calls Tryz.prog 50 #[.pointer (some ⟨g, 0, none⟩), .slice so sn sc] w fun e w' => e = .returned (.tuple #[.int .i64 (k0 : Int), .bool bb]) ∧ Below w.heap.size w w' := by
  obtain ⟨⟨ro, rc, hg, hr⟩, hsy⟩ := hI
  obtain ⟨c0, cf⟩ := box1 hg
  have hcall := binF_calls w hr hsy hS hN hk hk2 hbb
  clear hr hsy hS hN hk hk2 hbb hg
  generalize P.length = N at *
  go_enter Tryz.func50, Tryz.ntmps50
  go_wp2_with (fail)
  refine hcall.mono ?_
  rintro e w' ⟨rfl, hb⟩
  clear hcall
  go_wp2_with (fail)
  refine bodyPost_ret (v := .tuple #[.int .i64 k0, .bool bb]) ?_ rfl ⟨rfl, hb⟩
  simp [results, Tryz.results50, go_sem]

set_option maxHeartbeats 2000000 in
set_option maxRecDepth 100000 in
theorem span_calls {P : List FP} {g : Nat} {S : List Int} {so : Option Addr} {sn sc : Nat} (w : World) (hI : IdxR w g P) (hS : SlI w so sn sc S) (hN : P.length ≤ 1048576)
    {k0 k1 : Nat} (hk : k0 ≤ P.length) (hk2 : ∀ t, t < P.length → ((fp P t).syms < S ↔ t < k0)) (hk1 : k0 + k1 ≤ P.length) (hk3 : ∀ t, k0 + t < P.length → (begins (fp P (k0 + t)).syms S = true ↔ t < k1)) :
    Calls Tryz.prog 51 #[.pointer (some ⟨g, 0, none⟩), .slice so sn sc] w fun e w' => e = .returned (.tuple #[.int .i64 (k0 : Int), .int .i64 ((k0 + k1 : Nat) : Int)]) ∧ Below w.heap.size w w' := by
  obtain ⟨w0, hw0⟩ : ∃ w0, (w.alloc (.cells #[.pointer (some ⟨g, 0, none⟩)] 52)).alloc (.cells #[.slice so sn sc] 41) = w0 := ⟨_, rfl⟩
  have hb0 : Below w.heap.size w w0 := hw0 ▸ (below_alloc w _).alloc (by simp) _
  have hx0 : w0.heap[w.heap.size]? = some (.cells #[.pointer (some ⟨g, 0, none⟩)] 52) := by rw [← hw0]; exact (Below.heap_alloc _ _ _ (by simp)).trans (heap_alloc_new w _)
  have hx1 : w0.heap[w.heap.size + 1]? = some (.cells #[.slice so sn sc] 41) := by
    rw [← hw0]
    have := heap_alloc_new (w.alloc (.cells #[.pointer (some ⟨g, 0, none⟩)] 52)) (.cells #[.slice so sn sc] 41)
    simpa using this
  have HI := Lib.hid (hI.below hb0)
  have HS := Lib.hid (hS.below hb0)
  have hI0 := hI.below hb0
  obtain ⟨⟨ro, rc, hg, hr⟩, hsy⟩ := hI0
  obtain ⟨g0, gf⟩ := box1 hg
  obtain ⟨x0, xf⟩ := box1 hx0
  obtain ⟨x1, xf1⟩ := box1 hx1
  have HK2 := Lib.hid hk2
  have HK3 := Lib.hid hk3
  have h1 := search1_calls (n := P.length) (k0 := k0) (bx := w.heap.size) (bs := w.heap.size + 1) w0 hk hN (fun h q hh => (span1_calls (w0.drewN q) (HI.out.drewN q) (HS.out.drewN q) x0 x1 hh).mono (fun e w' ⟨h1, h2⟩ => ⟨by
    rw [h1]
    congr 2
    apply decide_eq_decide.2
    rw [cmpL_ge, HK2.out h hh]
    omega, h2⟩))
  have HB0 := Lib.hid hb0
  have HW0 := Lib.hid hw0
  have HG := Lib.hid hg
  have HX0 := Lib.hid hx0
  have HX1 := Lib.hid hx1
  have hsz0 : w0.heap.size = w.heap.size + 2 := by rw [← hw0]; simp
  clear hk2 hk3 hI hS hr hsy hg hx0 hx1 hw0 hb0
  obtain ⟨N, hNN⟩ : ∃ N, P.length = N := ⟨_, rfl⟩
  have HNN := Lib.hid hNN
  rw [hNN] at h1 g0 hk hk1 hN
  rw [← HW0.out] at g0
  clear hNN
  go_enter Tryz.func51, Tryz.ntmps51
  go_wp2_with (fail)
  rw [HW0.out]
  refine h1.mono ?_
  rintro e w1 ⟨rfl, q, rfl⟩
  have hz := heap_alloc_new (w0.drewN q) (.cells #[.int .i64 0] 3)
  change ((w0.drewN q).alloc (.cells #[.int .i64 0] 3)).heap[w0.heap.size]? = _ at hz
  obtain ⟨z0, zf⟩ := box1 hz
  obtain ⟨w3, hw3⟩ : ∃ w3, ((w0.drewN q).alloc (.cells #[.int .i64 0] 3)).setCell ⟨w0.heap.size, 0, none⟩ (.int .i64 k0) = w3 := ⟨_, rfl⟩
  have hb3 : Below w0.heap.size w0 w3 := by
    rw [← hw3]
    exact (((below_drewN (Below.refl _ _) q).alloc (Nat.le_refl _) _).setCell (p := ⟨w0.heap.size, 0, none⟩) (Nat.le_refl _) _)
  have HX3 : Hid (w3.heap[w0.heap.size]? = some (.cells #[.int .i64 k0] 3)) := Lib.hid (by
    rw [← hw3]
    exact set1N hz)
  clear hz
  have HB3 := Lib.hid hb3
  have hg0 : g < w0.heap.size := (Array.getElem?_eq_some_iff.1 HG.out).1
  obtain ⟨M, hM⟩ : ∃ M, N - k0 = M := ⟨_, rfl⟩
  obtain ⟨K, hK⟩ : ∃ K, k0 + k1 = K := ⟨_, rfl⟩
  have hwr : IntKind.i64.wrap ((N : Int) - (k0 : Int)) = (M : Int) := by rw [IntKind.wrap_i64]; omega
  have hwr2 : IntKind.i64.wrap ((k0 : Int) + (k1 : Int)) = (K : Int) := by rw [IntKind.wrap_i64]; omega
  have HKK := Lib.hid hK
  obtain ⟨y3, yf3⟩ := box1 HX3.out
  obtain ⟨y0, yf0⟩ := box1 ((hb3.block w.heap.size (by omega)).trans HX0.out)
  obtain ⟨y1, yf1⟩ := box1 ((hb3.block (w.heap.size + 1) (by omega)).trans HX1.out)
  obtain ⟨yg, ygf⟩ := box1 ((hb3.block g hg0).trans HG.out)
  rw [HNN.out] at yg
  have h2 : ∀ j, Calls Tryz.prog 78 #[.int .i64 M, .func (.func 80) #[] #[.pointer (some ⟨w.heap.size, 0, none⟩), .pointer (some ⟨w0.heap.size, 0, none⟩), .pointer (some ⟨w.heap.size + 1, 0, none⟩)]] (w3.drewN j) fun e w' => e = .returned (.int .i64 k1) ∧ ∃ q, w' = (w3.drewN j).drewN q := fun j =>
    search2_calls (n := M) (k0 := k1) (bx := w.heap.size) (bf := w0.heap.size) (bs := w.heap.size + 1) (w3.drewN j) (by omega) (by omega) (fun h q hh => (span2_calls (from_ := k0) ((w3.drewN j).drewN q) ((HI.out.below HB3.out).drewN j |>.drewN q) ((HS.out.below HB3.out).drewN j |>.drewN q) y0 y3 y1 (by rw [HNN.out]; omega) (by rw [HNN.out]; exact hN)).mono (fun e w' ⟨e1, e2⟩ => ⟨by
      rw [e1]
      congr 2
      have h3 := HK3.out h (by rw [HNN.out]; omega)
      cases hb : begins (fp P (k0 + h)).syms S with
      | true => have := h3.1 hb; simp; omega
      | false =>
        have : ¬ h < k1 := fun h4 => by have := h3.2 h4; rw [hb] at this; cases this
        simp; omega, e2⟩))
  have hmix := mixedOrders
  have HW3 := Lib.hid hw3
  have HSZ0 := Lib.hid hsz0
  clear hw3 hb3 hM hK h1 g0 x0 x1 hg0 hsz0 hk1 hk
  go_wp2_with (fail)
  rw [HW3.out]
  go_quiet ((go_at_call 78; exact Calls.quiet_of (h2 _)))
  go_wp2_with (fail)
  go_quiet (fail)
  go_wp2_with (fail)
  refine bodyPost_ret (v := .tuple #[.int .i64 k0, .int .i64 K]) ?_ rfl ⟨by rw [HKK.out], ?_⟩
  · simp [results, Tryz.results51, go_sem]
  · exact HB0.out.trans ((below_drewN (below_drewN HB3.out _) _).mono HB0.out.size)

end Go.Proofs.YtnadelmbkaoeeaaGreatDoor

/- Plain laws: the document's loops over tokens; what a symbol more does. -/
namespace Go.Proofs.YtnadelmbkaoeeaaGreatDoor
open Go
set_option linter.unusedVariables false

/-- The rows of the first numbers. -/
def rowsTo (V : Vc) (N : List ByteArray) (k : Nat) : List Fr :=
  (List.range k).filterMap fun (i : Nat) => if (symsOf V N (i : Int)).2 = 0 then some ((symsOf V N (i : Int)).1, (i : Int)) else none
theorem rowsTo_yes {V : Vc} {N : List ByteArray} {k : Nat} (h : (symsOf V N (k : Int)).2 = 0) : rowsTo V N (k + 1) = rowsTo V N k ++ [((symsOf V N (k : Int)).1, (k : Int))] := by
  unfold rowsTo
  rw [List.range_succ, List.filterMap_append]
  simp [h]
theorem rowsTo_no {V : Vc} {N : List ByteArray} {k : Nat} (h : (symsOf V N (k : Int)).2 ≠ 0) : rowsTo V N (k + 1) = rowsTo V N k := by
  unfold rowsTo
  rw [List.range_succ, List.filterMap_append]
  simp [h]
theorem rowsTo_all {V : Vc} {N : List ByteArray} (hM : May V) : ∀ d, rowsTo V N (V.tokens.length + d) = rowsF V N
  | 0 => rfl
  | d + 1 => by
    rw [← Nat.add_assoc, rowsTo_no (symsOf_out hM (by omega))]
    exact rowsTo_all hM d
theorem rowsTo_le (V : Vc) (N : List ByteArray) (k : Nat) : (rowsTo V N k).length ≤ k := by
  unfold rowsTo
  refine Nat.le_trans (List.length_filterMap_le _ _) ?_
  simp

/-- What is allowed among rows. -/
def allowR (L : List Fr) (s : List Int) : List Int := (L.filter (fun r => begins r.1 s || begins s r.1)).map (·.2)
theorem allowR_nil (s : List Int) : allowR [] s = [] := rfl
theorem allowR_yes {L : List Fr} {s : List Int} {r : Fr} (h : (begins r.1 s || begins s r.1) = true) : allowR (L ++ [r]) s = allowR L s ++ [r.2] := by
  unfold allowR
  rw [List.filter_append, List.map_append]
  simp [h]
theorem allowR_no {L : List Fr} {s : List Int} {r : Fr} (h : (begins r.1 s || begins s r.1) = false) : allowR (L ++ [r]) s = allowR L s := by
  unfold allowR
  rw [List.filter_append, List.map_append]
  simp [h]
theorem allowR_all {L : List Fr} {s : List Int} (h : s ≠ []) : allowR L s = allowedF L s := by
  unfold allowR allowedF
  rw [if_neg h]
theorem allowR_le (L : List Fr) (s : List Int) : (allowR L s).length ≤ L.length := by
  unfold allowR
  rw [List.length_map]
  exact List.length_filter_le _ _

theorem BestOf.up {seen : List Fr} {s : List Int} {best most : Int} (h : BestOf seen s best most) {r : Fr} (hb : begins s r.1 = true) (hm : most < (r.1.length : Int)) : BestOf (seen ++ [r]) s r.2 (r.1.length : Int) := by
  refine .inr ⟨r, by simp, hb, rfl, rfl, fun q hq hqb => ?_⟩
  rcases List.mem_append.1 hq with hq | hq
  · rcases h with ⟨_, _, h3⟩ | ⟨r0, _, _, _, h4, h5⟩
    · rw [h3 q hq] at hqb; cases hqb
    · have := h5 q hq hqb
      omega
  · simp at hq; rw [hq]; exact Nat.le_refl _
theorem BestOf.no {seen : List Fr} {s : List Int} {best most : Int} (h : BestOf seen s best most) {r : Fr} (hb : begins s r.1 = false) : BestOf (seen ++ [r]) s best most := by
  rcases h with ⟨h1, h2, h3⟩ | ⟨r0, h1, h2, h3, h4, h5⟩
  · refine .inl ⟨h1, h2, fun q hq => ?_⟩
    rcases List.mem_append.1 hq with hq | hq
    · exact h3 q hq
    · simp at hq; rw [hq]; exact hb
  · refine .inr ⟨r0, by simp [h1], h2, h3, h4, fun q hq hqb => ?_⟩
    rcases List.mem_append.1 hq with hq | hq
    · exact h5 q hq hqb
    · simp at hq; rw [hq, hb] at hqb; cases hqb
theorem BestOf.low {seen : List Fr} {s : List Int} {best most : Int} (h : BestOf seen s best most) {r : Fr} (h1 : 1 ≤ r.1.length) (hm : ¬ most < (r.1.length : Int)) : BestOf (seen ++ [r]) s best most := by
  rcases h with ⟨g1, g2, g3⟩ | ⟨r0, g1, g2, g3, g4, g5⟩
  · omega
  · refine .inr ⟨r0, by simp [g1], g2, g3, g4, fun q hq hqb => ?_⟩
    rcases List.mem_append.1 hq with hq | hq
    · exact g5 q hq hqb
    · simp at hq; rw [hq]; omega

/-- A symbol more. -/
theorem begins_more {q s : List Int} {x : Int} (h : (begins q (s ++ [x]) || begins (s ++ [x]) q) = true) : (begins q s || begins s q) = true := by
  rw [Bool.or_eq_true] at h ⊢
  rcases h with h | h
  · left
    rw [begins_iff] at h ⊢
    exact (List.prefix_append s [x]).trans h
  · rw [begins_iff] at h
    rcases Nat.lt_or_ge s.length q.length with h2 | h2
    · left
      rw [begins_iff]
      exact List.prefix_of_prefix_length_le (List.prefix_append s [x]) h (by omega)
    · right
      rw [begins_iff]
      exact List.prefix_of_prefix_length_le h (List.prefix_append s [x]) h2
theorem more_mem {L : List Fr} {s : List Int} (h : s ≠ []) {x id : Int} (hm : id ∈ allowedF L (s ++ [x])) : id ∈ allowedF L s := by
  unfold allowedF at hm ⊢
  rw [if_neg (by simp)] at hm
  rw [if_neg h]
  simp only [List.mem_map, List.mem_filter] at hm ⊢
  obtain ⟨r, ⟨h1, h2⟩, h3⟩ := hm
  exact ⟨r, ⟨h1, begins_more h2⟩, h3⟩
theorem more_len {L : List Fr} {s : List Int} (h : s ≠ []) {x : Int} : (allowedF L (s ++ [x])).length ≤ (allowedF L s).length := by
  unfold allowedF
  rw [if_neg (by simp), if_neg h, List.length_map, List.length_map, ← List.countP_eq_length_filter, ← List.countP_eq_length_filter]
  exact List.countP_mono_left fun r _ hr => begins_more hr
theorem more_long {V : Vc} {N : List ByteArray} {rows' : List Fr} (hp : rows'.Perm (rowsF V N)) {s : List Int} {x a b : Int} (ha : a = longTo rows' s (min s.length 64)) (hb : b = longTo rows' (s ++ [x]) (min (s ++ [x]).length 64)) :
    a < 0 ∨ (0 ≤ b ∧ (symsOf V N a).1.length ≤ (symsOf V N b).1.length) := by
  have hr : ∀ {q : List Int} {y : Int}, (q, y) ∈ rows' → 0 ≤ y ∧ (symsOf V N y).1 = q := by
    intro q y h
    obtain ⟨i, _, _, e⟩ := rowsF_mem.1 (hp.mem_iff.1 h)
    simp only [Prod.mk.injEq] at e
    rw [e.2, e.1]
    exact ⟨by omega, rfl⟩
  rw [List.length_append, List.length_singleton] at hb
  rcases longTo_cases rows' s (min s.length 64) with ⟨e, _⟩ | ⟨n, e1, e2, _⟩
  · left; omega
  · right
    rw [← ha] at e2
    have ht : (s ++ [x]).take (n + 1) = s.take (n + 1) := by rw [List.take_append_of_le_length (by omega)]
    rcases longTo_cases rows' (s ++ [x]) (min (s.length + 1) 64) with ⟨_, g2⟩ | ⟨m, g1, g2, g3⟩
    · exact absurd (by rw [ht]; exact e2) (g2 n (by omega) a)
    · rw [← hb] at g2
      have hnm : n ≤ m := by
        rcases Nat.lt_or_ge m n with h | h
        · exact absurd (by rw [ht]; exact e2) (g3 n h (by omega) a)
        · exact h
      obtain ⟨_, q1⟩ := hr e2
      obtain ⟨q2, q3⟩ := hr g2
      refine ⟨q2, ?_⟩
      rw [q1, q3, List.length_take, List.length_take, List.length_append, List.length_singleton]
      omega

end Go.Proofs.YtnadelmbkaoeeaaGreatDoor

/- The shelf's contract of a sort, laid at this program, in plain words (written by the kit's lay-plain, by mkshelf2.sh). -/
namespace Go.Proofs
open Go.Shelf
def Tryz.sortI_ren : Go.Shelf.Ren := ⟨fun | 5 => 52 | 8 => 74 | 7 => 82 | 19 => 107 | 20 => 108 | 10 => 111 | 11 => 112 | 12 => 113 | 13 => 114 | 14 => 115 | 15 => 116 | 16 => 117 | 17 => 118 | 18 => 119 | 30 => 139 | 31 => 135 | 32 => 136 | 33 => 140 | 34 => 141 | 35 => 109 | 40 => 162 | n => n, fun | 23 => 41 | 25 => 3 | 3 => 3 | 32 => 127 | 22 => 41 | 0 => 0 | 44 => 164 | 46 => 166 | 4 => 4 | 36 => 158 | 35 => 157 | 41 => 87 | 5 => 5 | 9 => 9 | 53 => 194 | 57 => 198 | 63 => 228 | 64 => 98 | n => n, fun | n => n⟩
theorem Tryz.sortI : Go.Proofs.SlLaysM.n5 Tryz.prog Tryz.sortI_ren := {
  mixed := by kernel_rfl
  f5 := ⟨Tryz.f52.name, by decide, Tryz.func52.trans (congrArg some (by kernel_rfl))⟩
  f7 := ⟨Tryz.f82.name, by decide, Tryz.func82.trans (congrArg some (by kernel_rfl))⟩
  f8 := Tryz.func74.trans (congrArg some (by kernel_rfl))
  f10 := ⟨Tryz.f111.name, by decide, Tryz.func111.trans (congrArg some (by kernel_rfl))⟩
  f11 := ⟨Tryz.f112.name, by decide, Tryz.func112.trans (congrArg some (by kernel_rfl))⟩
  f12 := ⟨Tryz.f113.name, by decide, Tryz.func113.trans (congrArg some (by kernel_rfl))⟩
  f13 := ⟨Tryz.f114.name, by decide, Tryz.func114.trans (congrArg some (by kernel_rfl))⟩
  f14 := ⟨Tryz.f115.name, by decide, Tryz.func115.trans (congrArg some (by kernel_rfl))⟩
  f15 := ⟨Tryz.f116.name, by decide, Tryz.func116.trans (congrArg some (by kernel_rfl))⟩
  f16 := ⟨Tryz.f117.name, by decide, Tryz.func117.trans (congrArg some (by kernel_rfl))⟩
  f17 := ⟨Tryz.f118.name, by decide, Tryz.func118.trans (congrArg some (by kernel_rfl))⟩
  f18 := ⟨Tryz.f119.name, by decide, Tryz.func119.trans (congrArg some (by kernel_rfl))⟩
  f19 := Tryz.func107.trans (congrArg some (by kernel_rfl))
  f20 := Tryz.func108.trans (congrArg some (by kernel_rfl))
  f30 := ⟨Tryz.f139.name, by decide, Tryz.func139.trans (congrArg some (by kernel_rfl))⟩
  f31 := Tryz.func135.trans (congrArg some (by kernel_rfl))
  f32 := Tryz.func136.trans (congrArg some (by kernel_rfl))
  f33 := ⟨Tryz.f140.name, by decide, Tryz.func140.trans (congrArg some (by kernel_rfl))⟩
  f34 := ⟨Tryz.f141.name, by decide, Tryz.func141.trans (congrArg some (by kernel_rfl))⟩
  f35 := ⟨Tryz.f109.name, by decide, Tryz.func109.trans (congrArg some (by kernel_rfl))⟩
  f40 := ⟨Tryz.f162.name, by decide, Tryz.func162.trans (congrArg some (by kernel_rfl))⟩
  t0 := Tryz.underlying0
  a0 := Tryz.isAgg0
  z0 := Tryz.sizeOf0
  v0 := Tryz.zeroValue0
  t3 := Tryz.underlying3
  a3 := Tryz.isAgg3
  z3 := Tryz.sizeOf3
  v3 := Tryz.zeroValue3
  t4 := Tryz.underlying4
  a4 := Tryz.isAgg4
  z4 := Tryz.sizeOf4
  v4 := Tryz.zeroValue4
  t5 := Tryz.underlying5
  a5 := Tryz.isAgg5
  z5 := Tryz.sizeOf5
  v5 := Tryz.zeroValue5
  t9 := Tryz.underlying9
  a9 := Tryz.isAgg9
  z9 := Tryz.sizeOf9
  v9 := Tryz.zeroValue9
  t22 := Tryz.underlying41
  a22 := Tryz.isAgg41
  z22 := Tryz.sizeOf41
  v22 := Tryz.zeroValue41
  t23 := Tryz.underlying41
  a23 := Tryz.isAgg41
  z23 := Tryz.sizeOf41
  v23 := Tryz.zeroValue41
  t25 := Tryz.underlying3
  a25 := Tryz.isAgg3
  z25 := Tryz.sizeOf3
  v25 := Tryz.zeroValue3
  t32 := Tryz.underlying127
  a32 := Tryz.isAgg127
  z32 := Tryz.sizeOf127
  v32 := Tryz.zeroValue127
  t35 := Tryz.underlying157
  a35 := Tryz.isAgg157
  z35 := Tryz.sizeOf157
  v35 := Tryz.zeroValue157
  t36 := Tryz.underlying158
  a36 := Tryz.isAgg158
  z36 := Tryz.sizeOf158
  v36 := Tryz.zeroValue158
  t41 := Tryz.underlying87
  a41 := Tryz.isAgg87
  z41 := Tryz.sizeOf87
  v41 := Tryz.zeroValue87
  t44 := Tryz.underlying164
  a44 := Tryz.isAgg164
  z44 := Tryz.sizeOf164
  v44 := Tryz.zeroValue164
  t46 := Tryz.underlying166
  a46 := Tryz.isAgg166
  z46 := Tryz.sizeOf166
  v46 := Tryz.zeroValue166
  t53 := Tryz.underlying194
  a53 := Tryz.isAgg194
  z53 := Tryz.sizeOf194
  v53 := Tryz.zeroValue194
  t57 := Tryz.underlying198
  a57 := Tryz.isAgg198
  z57 := Tryz.sizeOf198
  v57 := Tryz.zeroValue198
  t63 := Tryz.underlying228
  a63 := Tryz.isAgg228
  z63 := Tryz.sizeOf228
  v63 := Tryz.zeroValue228
  t64 := Tryz.underlying98
  a64 := Tryz.isAgg98
  z64 := Tryz.sizeOf98
  v64 := Tryz.zeroValue98 }
end Go.Proofs

/- Plain laws of the index's searches; the row of a sort of integers; a part of a row of structs. -/
namespace Go.Proofs.YtnadelmbkaoeeaaGreatDoor
open Go.RowKit
open Go.Sort hiding Below
set_option linter.unusedVariables false

/-- What halving finds of just these symbols. -/
theorem exact_of {P : List FP} (hs : SortedF (P.map FP.fr)) (hu : ∀ a ∈ P.map FP.fr, ∀ b ∈ P.map FP.fr, a.1 = b.1 → a = b) (s : List Int) :
    ∃ (k0 : Nat) (bb : Bool), k0 ≤ P.length ∧ (∀ t, t < P.length → ((fp P t).syms < s ↔ t < k0)) ∧ (bb = true ↔ (k0 < P.length ∧ (fp P k0).syms = s)) ∧
      (bb = true → (P.map FP.fr).find? (fun r => decide (r.1 = s)) = some (fp P k0).fr) ∧ (bb = false → (P.map FP.fr).find? (fun r => decide (r.1 = s)) = none) := by
  obtain ⟨k0, hk⟩ : ∃ k0, k0 = (P.map FP.fr).countP (fun r => decide (r.1 < s)) := ⟨_, rfl⟩
  obtain ⟨h1, h2⟩ := cut_less hs s hk
  have hm : ∀ t, t < P.length → (P.map FP.fr)[t]? = some (fp P t).fr := fun t ht => by rw [List.getElem?_map, fp_eq ht]; rfl
  rcases hs.exact hu s hk with ⟨r, hr, e, hf⟩ | ⟨hn, hf⟩
  · have hlt : k0 < P.length := by have := (List.getElem?_eq_some_iff.1 hr).1; simpa using this
    rw [hm k0 hlt] at hr
    obtain rfl := Option.some.inj hr
    exact ⟨k0, true, h1, h2, ⟨fun _ => ⟨hlt, e⟩, fun _ => rfl⟩, fun _ => hf, (fun h => by cases h)⟩
  · refine ⟨k0, false, h1, h2, ⟨(fun h => by cases h), (fun ⟨hlt, e⟩ => ?_)⟩, (fun h => by cases h), fun _ => hf⟩
    exact absurd e (hn _ (hm k0 hlt))
theorem exactF_some {rows : List Fr} {s : List Int} {p : FP} (h : rows.find? (fun r => decide (r.1 = s)) = some p.fr) : exactF rows s = [p.id] := by
  unfold exactF; rw [h]; rfl
theorem exactF_none {rows : List Fr} {s : List Int} (h : rows.find? (fun r => decide (r.1 = s)) = none) : exactF rows s = [] := by
  unfold exactF; rw [h]; rfl
theorem partsF_succ (rows : List Fr) (s : List Int) (k : Nat) : partsF rows s (k + 1) = partsF rows s k ++ exactF rows (s.take (k + 1)) := by
  unfold partsF; rw [List.range_succ, List.flatMap_append]; simp
theorem exactF_le (rows : List Fr) (s : List Int) : (exactF rows s).length ≤ 1 := by
  unfold exactF
  cases rows.find? (fun r => decide (r.1 = s)) <;> simp
theorem partsF_le (rows : List Fr) (s : List Int) : ∀ k, (partsF rows s k).length ≤ k
  | 0 => by simp [partsF]
  | k + 1 => by
    rw [partsF_succ, List.length_append]
    have := partsF_le rows s k
    have := exactF_le rows (s.take (k + 1))
    omega
/-- The rows that begin with symbols, as halving finds them. -/
theorem span_of {P : List FP} (hs : SortedF (P.map FP.fr)) (s : List Int) :
    ∃ k0 k1 : Nat, k0 ≤ P.length ∧ (∀ t, t < P.length → ((fp P t).syms < s ↔ t < k0)) ∧ k0 + k1 ≤ P.length ∧ (∀ t, k0 + t < P.length → (begins (fp P (k0 + t)).syms s = true ↔ t < k1)) ∧
      ((P.drop k0).take k1).map (·.id) = spanF (P.map FP.fr) s := by
  obtain ⟨k0, hk⟩ : ∃ k0, k0 = (P.map FP.fr).countP (fun r => decide (r.1 < s)) := ⟨_, rfl⟩
  obtain ⟨k1, hk1⟩ : ∃ k1, k1 = ((P.map FP.fr).drop k0).countP (fun r => begins r.1 s) := ⟨_, rfl⟩
  obtain ⟨h1, h2⟩ := cut_less hs s hk
  have hsp := hs.span s hk hk1
  have hd : (P.map FP.fr).drop k0 = (P.drop k0).map FP.fr := by rw [List.map_drop]
  have hle : k1 ≤ P.length - k0 := by
    have := List.countP_le_length (p := fun r : Fr => begins r.1 s) (l := (P.map FP.fr).drop k0)
    rw [← hk1] at this
    simpa using this
  have hmon : ((P.map FP.fr).drop k0).Pairwise (fun a b => begins b.1 s = true → begins a.1 s = true) := by
    have h3 := (take_countP (hs.less s)).2
    rw [← hk] at h3
    rw [h3]
    refine List.Pairwise.imp_of_mem ?_ (hs.sublist List.filter_sublist)
    intro a b ha hb h4 h5
    have h6 := (List.mem_filter.1 ha).2
    simp only [Bool.not_eq_true', decide_eq_false_iff_not] at h6
    exact begins_iff.2 (lex_between h4 (begins_iff.1 h5) h6)
  have htc := take_countP hmon
  rw [← hk1] at htc
  refine ⟨k0, k1, h1, h2, by omega, fun t ht => ?_, ?_⟩
  · have hm : ((P.map FP.fr).drop k0)[t]? = some (fp P (k0 + t)).fr := by rw [List.getElem?_drop, List.getElem?_map, fp_eq ht]; rfl
    constructor
    · intro hb
      rcases Nat.lt_or_ge t k1 with h | h
      · exact h
      · exfalso
        have : (fp P (k0 + t)).fr ∈ ((P.map FP.fr).drop k0).drop k1 := List.mem_of_getElem? (i := t - k1) (by rw [List.getElem?_drop, show k1 + (t - k1) = t by omega]; exact hm)
        rw [htc.2, List.mem_filter] at this
        have h7 := this.2
        simp only [FP.fr] at h7
        rw [hb] at h7
        cases h7
    · intro h
      have : (fp P (k0 + t)).fr ∈ ((P.map FP.fr).drop k0).take k1 := List.mem_of_getElem? (i := t) (by rw [List.getElem?_take, if_pos h]; exact hm)
      rw [htc.1, List.mem_filter] at this
      exact this.2
  · unfold spanF
    rw [← hsp, hd, ← List.map_take, List.map_map]
    rfl

section
variable {α : Type} {enc : α → List Value} {s : Nat} {e : TypeId}
/-- 'x[l:h]', up to the length. -/
theorem wpList_flat_lh {P : Program} {w W : World} {ops : Array Oper} {rest : List Oper} {o : Oper} {a : Act} {Q : Exit → Act → World → Prop} (hgd : o.guard = .none) (t : TypeId) (x l r : Operand)
    (ho : o.op = .slice t x (some l) (some r) .none) (i : TypeInfo) (ht : P.underlying t = some (.slice e)) (hi : P.info? e = some i) (hsz : i.size = s) (hs : ∀ x, (enc x).length = s)
    {ao : Option Addr} {n cap : Nat} {L : List α} (hx : a.eval x = .slice ao n cap) (hS : SlF s W ao n cap (flat enc L)) {kl kr : IntKind} {K M : Int} {k m : Nat} (hl : a.eval l = .int kl K) (hL : K = (k : Int)) (hr' : a.eval r = .int kr M) (hM : M = (m : Int)) (hk : k ≤ m) (hm : m ≤ n)
    (h : ∀ ao', SlF s W ao' (m - k) (cap - k) (flat enc ((L.take m).drop k)) → wpList P ops Q rest (a.put o.dst (.slice ao' (m - k) (cap - k))) w) : wpList P ops Q (o :: rest) a w := by
  subst hL hM
  have hle := hS.le
  have hS2 : SlF s W ao m cap (flat enc (L.take m)) := by rw [flat_take hs]; exact hS.take hm
  refine wpList_val hgd (v := .slice (if cap = k then ao else ao.map (·.add (k * s))) (m - k) (cap - k)) (w' := w) ?_ (h _ (by rw [flat_drop hs]; exact hS2.drop hk))
  have hr := run_sliceAt_lh ht hi w ao n cap (some (.int kl k)) (some (.int kr m)) k m (fun w => by simp [Instr.sliceBounds, run_sliceBound, Nat.le_trans hm hle, hk])
  simp only [execOp, ho, hx, hl, hr', Option.map_some, Option.map_none, Sem.run_bind, hr, Result.andThen_ok, Sem.run_pure, hsz]
end

theorem heap_sorted {w : World} {g n : Nat} {cur : Array Value} {t : TypeId} {fr : Nat × Nat} (hg : w.heap[g]? = some (.cells cur t fr)) (m : Nat) (d : Array Int) (os : Array Obj) :
    (grow (putRow (Value.int .i64) (Sort.ahead w m) g 0 d) os).heap[g]? = some (.cells (Go.Sort.putCells (Value.int .i64) 0 d cur) t fr) := by
  have hlt := (Array.getElem?_eq_some_iff.1 hg).1
  show ((w.heap.modify g (Go.Sort.onCells (Go.Sort.putCells (Value.int .i64) 0 d))) ++ os)[g]? = _
  rw [Array.getElem?_append_left (by simpa using hlt), Array.getElem?_modify, if_pos rfl, hg]
  rfl
theorem below_sorted {w : World} {g B : Nat} (hB : B ≤ g) (hw : B ≤ w.heap.size) (m : Nat) (d : Array Int) (os : Array Obj) : RowKit.Below B w (grow (putRow (Value.int .i64) (Sort.ahead w m) g 0 d) os) :=
  ⟨rfl, rfl, rfl, by show w.heap.size ≤ ((w.heap.modify g _) ++ os).size; simp, fun q hq => by
    show ((w.heap.modify g (Go.Sort.onCells (Go.Sort.putCells (Value.int .i64) 0 d))) ++ os)[q]? = _
    rw [Array.getElem?_append_left (by simp; omega), Array.getElem?_modify, if_neg (by omega)]⟩

/-- slices.Sort of integers. -/
theorem sortI_calls {w : World} {base : Nat} {v : Value} {A : List Int} (h : Own w base v A) (hb : base ≤ w.heap.size) (hsz : A.length < 4611686018427387904) :
    Calls Tryz.prog 52 #[v] w fun e w' => e = .returned (.tuple #[]) ∧ Own w' base v (A.mergeSort fun x y => decide (x ≤ y)) ∧ RowKit.Below base w w' := by
  obtain ⟨ao, cap, rfl, _⟩ := h.sl
  obtain ⟨_, hbk⟩ := h.block
  rcases hbk with ⟨rfl, h0, rfl⟩ | ⟨g, cur, rfl, hg, hh, hn, hm, hc, ht⟩
  · have hA : A = [] := List.eq_nil_of_length_eq_zero h0
    subst hA
    have hcon := AnyM.slices_Sort_int_none Tryz.sortI none 0 w
    change Calls Tryz.prog 52 _ _ _ at hcon
    refine hcon.mono ?_
    rintro e w' ⟨rfl, rfl⟩
    exact ⟨rfl, by simpa using h, RowKit.Below.refl _ _⟩
  · have hlt := (Array.getElem?_eq_some_iff.1 hh).1
    have hH : Holds (Value.int .i64) w g 0 A.toArray := by
      intro j hj
      have hj' : j < A.length := by simpa using hj
      have hcj : cur[j]? = some (.int .i64 A[j]) := by
        have : (cur.take A.length)[j]? = (A.map (Value.int .i64))[j]? := by rw [ht]
        rw [List.getElem?_take, if_pos hj', List.getElem?_map, List.getElem?_eq_getElem hj'] at this
        exact this
      constructor
      · have e3 : (A.toArray)[j]! = A[j] := by simp [hj']
        rw [e3]
        simp [World.cell?, hh, hcj]
      · simp [World.frozen?, hh]
    have hcon := AnyM.slices_Sort_int Tryz.sortI g 0 cap A w hH hlt hsz
    change Calls Tryz.prog 52 _ _ _ at hcon
    refine hcon.mono ?_
    rintro e w' ⟨rfl, n, os, rfl⟩
    obtain ⟨S, hS⟩ : ∃ S, (A.mergeSort fun x y => decide (x ≤ y)) = S := ⟨_, rfl⟩
    have hSl : S.length = A.length := by rw [← hS, List.length_mergeSort]
    rw [hS]
    refine ⟨rfl, ?_, below_sorted hg hb _ _ _⟩
    have hh2 := heap_sorted (n := 0) hh n S.toArray os
    refine Own.mk (cur := (Go.Sort.putCells (Value.int .i64) 0 S.toArray cur.toArray).toList) hg (by simpa using hh2) hn hm (by simp [Go.Sort.putCells, hc]) hSl ?_
    apply List.ext_getElem?
    intro i
    rw [List.getElem?_take]
    by_cases hi : i < A.length
    · rw [if_pos hi, Array.getElem?_toList]
      have hi2 : i < cur.toArray.size := by simp; omega
      unfold Go.Sort.putCells
      rw [Array.getElem?_mapIdx, Array.getElem?_eq_getElem hi2]
      simp only [Option.map_some, Nat.zero_le, Nat.zero_add, true_and, Nat.sub_zero]
      have hi3 : i < S.length := by omega
      rw [if_pos (by simpa using hi3), List.getElem?_map, List.getElem?_eq_getElem hi3]
      have e3 : (S.toArray)[i]! = S[i] := by simp [hi3]
      rw [e3]; rfl
    · rw [if_neg hi, List.getElem?_eq_none (by simp; omega)]

/-- Sorted, what the program gathers is the document's. -/
theorem gather_sort {V : Vc} {N : List ByteArray} (h : May V) {rows : List Fr} (hp : rows.Perm (rowsF V N)) {s : List Int} (hs : s ≠ []) :
    (partsF rows s (min (s.length - 1) 64) ++ spanF rows s).mergeSort (fun x y => decide (x ≤ y)) = allowedF (rowsF V N) s := by
  refine gather_sorted h hp hs (List.mergeSort_perm _ _) ?_
  have := List.pairwise_mergeSort (le := fun x y : Int => decide (x ≤ y)) (fun a b c h1 h2 => by simp at h1 h2 ⊢; omega) (fun a b => by simp; omega) (partsF rows s (min (s.length - 1) 64) ++ spanF rows s)
  exact this.imp fun {a b} h => by simpa using h

end Go.Proofs.YtnadelmbkaoeeaaGreatDoor
