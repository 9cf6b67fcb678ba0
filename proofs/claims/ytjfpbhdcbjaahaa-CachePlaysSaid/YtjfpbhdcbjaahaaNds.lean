/- The cache in memory: its seven fields, its nodes; what stores do to them. Plain lemmas. -/
import Derived.Test.YtjfpbhdcbjaahaaLib
namespace Go.Proofs.Ytjfpbhdcbjaahaa
open Go.RowKit
set_option linter.unusedVariables false
set_option linter.unusedSimpArgs false

/-- A node: a key, a row of numbers (where it lies), the places of the elder and the younger one. -/
structure Nd where
  key : ByteArray
  ro : Option Addr
  rn : Nat
  rc : Nat
  el : Int
  yo : Int

def ndCells (n : Nd) : List Value := [.string n.key, .slice n.ro n.rn n.rc, .int .i64 n.el, .int .i64 n.yo]

/-- m nodes at the head of block nb, with room for cap. -/
structure Nds (w : World) (nb m cap : Nat) (N : Nat → Nd) : Prop where
  le : m ≤ cap
  max : cap ≤ maxLen
  blk : ∃ cur : List Value, w.heap[nb]? = some (.cells cur.toArray 58 (0, 0)) ∧ cur.length = cap * 4 ∧ ∀ i, i < m → ∀ j, j < 4 → cur[i * 4 + j]? = (ndCells (N i))[j]?

theorem Nds.cell {w : World} {nb m cap : Nat} {N : Nat → Nd} (h : Nds w nb m cap N) {i : Nat} (hi : i < m) {j : Nat} (hj : j < 4) : w.cell? ⟨nb, i * 4 + j, none⟩ = (ndCells (N i))[j]? := by
  obtain ⟨cur, hb, hl, hc⟩ := h.blk
  simp only [World.cell?, hb]
  simpa using hc i hi j hj

theorem Nds.free {w : World} {nb m cap : Nat} {N : Nat → Nd} (h : Nds w nb m cap N) (o : Nat) : w.frozen? ⟨nb, o, none⟩ = false := by
  obtain ⟨cur, hb, _⟩ := h.blk
  simp only [World.frozen?, hb]
  simp

theorem Nds.lt {w : World} {nb m cap : Nat} {N : Nat → Nd} (h : Nds w nb m cap N) : nb < w.heap.size := by
  obtain ⟨cur, hb, _⟩ := h.blk
  rcases Nat.lt_or_ge nb w.heap.size with h' | h'
  · exact h'
  · rw [Array.getElem?_eq_none h'] at hb; cases hb

theorem Nds.stay {w w' : World} {nb m cap : Nat} {N : Nat → Nd} (h : Nds w nb m cap N) (hb : w'.heap[nb]? = w.heap[nb]?) : Nds w' nb m cap N := by
  obtain ⟨cur, h1, h2, h3⟩ := h.blk
  exact ⟨h.le, h.max, cur, hb.trans h1, h2, h3⟩

/-- Node i is another one now. -/
def upd {α : Type} (N : Nat → α) (i : Nat) (x : α) : Nat → α := fun k => if k = i then x else N k
theorem upd_same {α : Type} (N : Nat → α) (i : Nat) (x : α) : upd N i x i = x := by simp [upd]
theorem upd_other {α : Type} (N : Nat → α) (i k : Nat) (x : α) (h : k ≠ i) : upd N i x k = N k := by simp [upd, h]

/-- A store into cell j of node i. -/
theorem Nds.store {w : World} {nb m cap : Nat} {N : Nat → Nd} (h : Nds w nb m cap N) {i : Nat} (hi : i < m) {j : Nat} (hj : j < 4) (v : Value) (n' : Nd) (hn : ndCells n' = (ndCells (N i)).set j v) :
    Nds (w.setCell ⟨nb, i * 4 + j, none⟩ v) nb m cap (upd N i n') := by
  obtain ⟨cur, hb, hl, hc⟩ := h.blk
  refine ⟨h.le, h.max, cur.set (i * 4 + j) v, ?_, by simpa using hl, ?_⟩
  · rw [heap_setCell_same w nb _ cur.toArray _ v hb]
    simp
  · intro i' hi' j' hj'
    by_cases e : i' = i
    · subst e
      rw [upd_same, hn]
      by_cases ej : j' = j
      · subst ej
        have h4 : j' < (ndCells (N i')).length := by simp [ndCells]; omega
        have hl' := h.le
        have h5 : i' * 4 + j' < cur.length := by rw [hl]; omega
        simp [h4, h5]
      · rw [List.getElem?_set, List.getElem?_set, if_neg (by omega), if_neg (fun e => ej e.symm)]
        exact hc i' hi' j' hj'
    · rw [upd_other _ _ _ _ e, List.getElem?_set, if_neg (by omega)]
      exact hc i' hi' j' hj'

/-- The cache's own seven fields. -/
structure Flds (w : World) (cb : Nat) (nodes : Value) (mb : Nat) (e y room hits misses : Int) : Prop where
  f0 : w.cell? ⟨cb, 0, none⟩ = some nodes
  f1 : w.cell? ⟨cb, 1, none⟩ = some (.map (some mb))
  f2 : w.cell? ⟨cb, 2, none⟩ = some (.int .i64 e)
  f3 : w.cell? ⟨cb, 3, none⟩ = some (.int .i64 y)
  f4 : w.cell? ⟨cb, 4, none⟩ = some (.int .i64 room)
  f5 : w.cell? ⟨cb, 5, none⟩ = some (.int .i64 hits)
  f6 : w.cell? ⟨cb, 6, none⟩ = some (.int .i64 misses)
  ff : ∀ o, w.frozen? ⟨cb, o, none⟩ = false

theorem Flds.stay {w w' : World} {cb : Nat} {nodes : Value} {mb : Nat} {e y room hits misses : Int} (h : Flds w cb nodes mb e y room hits misses) (hb : w'.heap[cb]? = w.heap[cb]?) : Flds w' cb nodes mb e y room hits misses := by
  have hc : ∀ o, w'.cell? ⟨cb, o, none⟩ = w.cell? ⟨cb, o, none⟩ := fun o => World.cell?_of_block (w := w) hb
  have hf : ∀ o, w'.frozen? ⟨cb, o, none⟩ = w.frozen? ⟨cb, o, none⟩ := fun o => World.frozen?_of_block (w := w) hb
  exact ⟨(hc 0).trans h.f0, (hc 1).trans h.f1, (hc 2).trans h.f2, (hc 3).trans h.f3, (hc 4).trans h.f4, (hc 5).trans h.f5, (hc 6).trans h.f6, fun o => (hf o).trans (h.ff o)⟩

theorem cell_set_same {w : World} {b o : Nat} {u v : Value} (h : w.cell? ⟨b, o, none⟩ = some u) : (w.setCell ⟨b, o, none⟩ v).cell? ⟨b, o, none⟩ = some v := by
  simp [go_sem, h]
theorem cell_set_off {w : World} {b o o' : Nat} {v : Value} (h : o' ≠ o) : (w.setCell ⟨b, o, none⟩ v).cell? ⟨b, o', none⟩ = w.cell? ⟨b, o', none⟩ := by
  simp [go_sem, h]
theorem heap_set_other {w : World} {b o : Nat} {v : Value} {k : Nat} (h : k ≠ b) : (w.setCell ⟨b, o, none⟩ v).heap[k]? = w.heap[k]? := Below.heap_setCell _ _ _ _ h
theorem frozen_set {w : World} {a p : Addr} {v : Value} : (w.setCell a v).frozen? p = w.frozen? p := by simp

section
variable {w : World} {cb : Nat} {nodes : Value} {mb : Nat} {e y room hits misses : Int}
theorem Flds.set0 (h : Flds w cb nodes mb e y room hits misses) (v : Value) : Flds (w.setCell ⟨cb, 0, none⟩ v) cb v mb e y room hits misses :=
  ⟨cell_set_same h.f0, (cell_set_off (by omega)).trans h.f1, (cell_set_off (by omega)).trans h.f2, (cell_set_off (by omega)).trans h.f3, (cell_set_off (by omega)).trans h.f4, (cell_set_off (by omega)).trans h.f5, (cell_set_off (by omega)).trans h.f6, fun o => frozen_set.trans (h.ff o)⟩
theorem Flds.set2 (h : Flds w cb nodes mb e y room hits misses) (x : Int) : Flds (w.setCell ⟨cb, 2, none⟩ (.int .i64 x)) cb nodes mb x y room hits misses :=
  ⟨(cell_set_off (by omega)).trans h.f0, (cell_set_off (by omega)).trans h.f1, cell_set_same h.f2, (cell_set_off (by omega)).trans h.f3, (cell_set_off (by omega)).trans h.f4, (cell_set_off (by omega)).trans h.f5, (cell_set_off (by omega)).trans h.f6, fun o => frozen_set.trans (h.ff o)⟩
theorem Flds.set3 (h : Flds w cb nodes mb e y room hits misses) (x : Int) : Flds (w.setCell ⟨cb, 3, none⟩ (.int .i64 x)) cb nodes mb e x room hits misses :=
  ⟨(cell_set_off (by omega)).trans h.f0, (cell_set_off (by omega)).trans h.f1, (cell_set_off (by omega)).trans h.f2, cell_set_same h.f3, (cell_set_off (by omega)).trans h.f4, (cell_set_off (by omega)).trans h.f5, (cell_set_off (by omega)).trans h.f6, fun o => frozen_set.trans (h.ff o)⟩
theorem Flds.set5 (h : Flds w cb nodes mb e y room hits misses) (x : Int) : Flds (w.setCell ⟨cb, 5, none⟩ (.int .i64 x)) cb nodes mb e y room x misses :=
  ⟨(cell_set_off (by omega)).trans h.f0, (cell_set_off (by omega)).trans h.f1, (cell_set_off (by omega)).trans h.f2, (cell_set_off (by omega)).trans h.f3, (cell_set_off (by omega)).trans h.f4, cell_set_same h.f5, (cell_set_off (by omega)).trans h.f6, fun o => frozen_set.trans (h.ff o)⟩
theorem Flds.set6 (h : Flds w cb nodes mb e y room hits misses) (x : Int) : Flds (w.setCell ⟨cb, 6, none⟩ (.int .i64 x)) cb nodes mb e y room hits x :=
  ⟨(cell_set_off (by omega)).trans h.f0, (cell_set_off (by omega)).trans h.f1, (cell_set_off (by omega)).trans h.f2, (cell_set_off (by omega)).trans h.f3, (cell_set_off (by omega)).trans h.f4, (cell_set_off (by omega)).trans h.f5, cell_set_same h.f6, fun o => frozen_set.trans (h.ff o)⟩
end

/-- Of what was there, only blocks of S have been written. -/
structure Keeps (S : Nat → Prop) (w w' : World) : Prop where
  os : w'.os = w.os
  tape : w'.tape = w.tape
  output : w'.output = w.output
  size : w.heap.size ≤ w'.heap.size
  block : ∀ k, k < w.heap.size → ¬ S k → w'.heap[k]? = w.heap[k]?

theorem Keeps.refl (S : Nat → Prop) (w : World) : Keeps S w w := ⟨rfl, rfl, rfl, Nat.le_refl _, fun _ _ _ => rfl⟩
theorem Keeps.trans {S : Nat → Prop} {a b c : World} (h : Keeps S a b) (k : Keeps S b c) : Keeps S a c :=
  ⟨k.os.trans h.os, k.tape.trans h.tape, k.output.trans h.output, Nat.le_trans h.size k.size, fun i hi hs => (k.block i (Nat.lt_of_lt_of_le hi h.size) hs).trans (h.block i hi hs)⟩
theorem Keeps.mono {S T : Nat → Prop} {a b : World} (h : Keeps S a b) (hst : ∀ k, k < a.heap.size → S k → T k) : Keeps T a b := ⟨h.os, h.tape, h.output, h.size, fun i hi hs => h.block i hi fun hi' => hs (hst i hi hi')⟩
theorem Keeps.set {S : Nat → Prop} {a w : World} (h : Keeps S a w) {p : Addr} (hp : S p.block) (v : Value) : Keeps S a (w.setCell p v) :=
  h.trans ⟨rfl, rfl, rfl, by simp [World.setCell], fun k hk hs => Below.heap_setCell _ _ _ _ (fun e => hs (e ▸ hp))⟩
theorem Keeps.alloc {S : Nat → Prop} {a w : World} (h : Keeps S a w) (o : Obj) : Keeps S a (w.alloc o) :=
  h.trans ⟨rfl, rfl, rfl, by simp, fun k hk hs => Below.heap_alloc _ _ _ hk⟩
theorem Keeps.drewN {S : Nat → Prop} {a w : World} (h : Keeps S a w) (n : Nat) : Keeps S a (w.drewN n) := ⟨h.os, h.tape, h.output, h.size, h.block⟩
theorem Keeps.drew {S : Nat → Prop} {a w : World} (h : Keeps S a w) : Keeps S a w.drew := ⟨h.os, h.tape, h.output, h.size, h.block⟩
theorem Keeps.of_below {S : Nat → Prop} {w w' : World} (h : Below w.heap.size w w') : Keeps S w w' := ⟨h.os, h.tape, h.output, h.size, fun k hk _ => h.block k hk⟩
theorem Keeps.below {S : Nat → Prop} {w w' : World} {B : Nat} (h : Keeps S w w') (hB : B ≤ w.heap.size) (hs : ∀ k, S k → B ≤ k) : Below B w w' :=
  ⟨h.os, h.tape, h.output, h.size, fun k hk => h.block k (by omega) fun hk' => by have := hs k hk'; omega⟩

end Go.Proofs.Ytjfpbhdcbjaahaa
