/- The whole cache in memory: fields, nodes, rows, map, chain. Plain lemmas. -/
import Derived.Test.YtjfpbhdcbjaahaaChain
import Derived.Test.YtjfpbhdcbjaahaaMapSI
import Derived.Test.YtjfpbhdcbjaahaaSame
import Derived.Test.YtjfpbhdcbjaahaaClone
namespace Go.Proofs.Ytjfpbhdcbjaahaa
open Go.RowKit
set_option linter.unusedVariables false

/-- The blocks that a cache writes. -/
def Ft (cb mb : Nat) (no : Option Addr) (k : Nat) : Prop := k = cb ∨ k = mb ∨ no = some ⟨k, 0, none⟩

/-- The nodes: none yet, or a row of the cache's own. -/
def NdsO (w : World) (base top cb mb : Nat) (no : Option Addr) (m cap : Nat) (N : Nat → Nd) : Prop :=
  (no = none ∧ m = 0 ∧ cap = 0) ∨ ∃ nb, no = some ⟨nb, 0, none⟩ ∧ Nds w nb m cap N ∧ cb ≠ nb ∧ mb ≠ nb ∧ base ≤ nb ∧ nb < top

/-- A row: it reads, and lies outside what the cache writes. -/
def RowOK (w : World) (base top cb mb : Nat) (no : Option Addr) (n : Nd) (A : List Int) : Prop :=
  SlI w n.ro n.rn n.rc A ∧ ∀ ad, n.ro = some ad → base ≤ ad.block ∧ ad.block < top ∧ ¬ Ft cb mb no ad.block

structure CSt (w : World) (base top cb mb : Nat) (no : Option Addr) (m cap : Nat) (N : Nat → Nd) (e y room hits misses : Int) (ord : List Nat) (sz : Nat) (f : ByteArray → Option Int) (R : Nat → List Int) : Prop where
  fl : Flds w cb (.slice no m cap) mb e y room hits misses
  nd : NdsO w base top cb mb no m cap N
  mp : MapSI w mb sz f
  ch : Chain ord N e y
  lt : ∀ i ∈ ord, i < m
  cm : cb ≠ mb
  bc : base ≤ cb ∧ cb < top
  bm : base ≤ mb ∧ mb < top
  rows : ∀ i, i < m → RowOK w base top cb mb no (N i) (R i)
  keys : ∀ i, i < m → (N i).key.size ≤ maxLen

theorem SlI.keep {w w' : World} {ao : Option Addr} {n cap : Nat} {A : List Int} (h : SlI w ao n cap A) (hb : ∀ ad, ao = some ad → w'.heap[ad.block]? = w.heap[ad.block]?) : SlI w' ao n cap A :=
  ⟨Sl.len h, Sl.le h, Sl.max h, Sl.nil h, fun i u hu => let ⟨b, o, e, c⟩ := Sl.at_ h i u hu; ⟨b, o, e, by rw [World.cell?_of_block (w := w) (a := ⟨b, o + i, none⟩) (hb ⟨b, o, none⟩ e)]; exact c⟩⟩

section
variable {w : World} {base top cb mb m cap sz : Nat} {no : Option Addr} {N : Nat → Nd} {e y room hits misses : Int} {ord : List Nat} {f : ByteArray → Option Int} {R : Nat → List Int}

theorem CSt.below {w' : World} (h : CSt w base top cb mb no m cap N e y room hits misses ord sz f R) (hb : Below top w w') : CSt w' base top cb mb no m cap N e y room hits misses ord sz f R := by
  refine ⟨h.fl.stay (hb.block _ h.bc.2), ?_, h.mp.stay (hb.block _ h.bm.2), h.ch, h.lt, h.cm, h.bc, h.bm, fun i hi => ?_, h.keys⟩
  · rcases h.nd with h' | ⟨nb, h1, h2, h3, h4, h5, h6⟩
    · exact .inl h'
    · exact .inr ⟨nb, h1, h2.stay (hb.block _ h6), h3, h4, h5, h6⟩
  · obtain ⟨h1, h2⟩ := h.rows i hi
    exact ⟨h1.keep fun ad e => hb.block _ (h2 ad e).2.1, h2⟩

theorem CSt.up {top' : Nat} (h : CSt w base top cb mb no m cap N e y room hits misses ord sz f R) (ht : top ≤ top') : CSt w base top' cb mb no m cap N e y room hits misses ord sz f R := by
  refine ⟨h.fl, ?_, h.mp, h.ch, h.lt, h.cm, ⟨h.bc.1, by have := h.bc.2; omega⟩, ⟨h.bm.1, by have := h.bm.2; omega⟩, fun i hi => ?_, h.keys⟩
  · rcases h.nd with h' | ⟨nb, h1, h2, h3, h4, h5, h6⟩
    · exact .inl h'
    · exact .inr ⟨nb, h1, h2, h3, h4, h5, by omega⟩
  · obtain ⟨h1, h2⟩ := h.rows i hi
    exact ⟨h1, fun ad e => ⟨(h2 ad e).1, by have := (h2 ad e).2.1; omega, (h2 ad e).2.2⟩⟩

/-- With a node there is a block of nodes. -/
theorem CSt.cmem (h : CSt w base top cb mb no m cap N e y room hits misses ord sz f R) (hm : 0 < m) : ∃ nb, no = some ⟨nb, 0, none⟩ ∧ CMem w cb nb mb m cap N e y room hits misses ∧ mb ≠ nb ∧ base ≤ nb ∧ nb < top := by
  rcases h.nd with ⟨_, h', _⟩ | ⟨nb, h1, h2, h3, h4, h5, h6⟩
  · omega
  · exact ⟨nb, h1, ⟨by rw [← h1]; exact h.fl, h2, h3⟩, h4, h5, h6⟩

/-- Nodes and ends turn (the blocks cb and nb alone are written); keys and rows stay. -/
theorem CSt.relink {w' : World} {nb : Nat} {N' : Nat → Nd} {e' y' : Int} {ord' : List Nat} (h : CSt w base top cb mb (some ⟨nb, 0, none⟩) m cap N e y room hits misses ord sz f R) (htop : top ≤ w.heap.size) (hmn : mb ≠ nb) (hbn : base ≤ nb ∧ nb < top)
    (hc : CMem w' cb nb mb m cap N' e' y' room hits misses) (hk : Keeps (Two cb nb) w w') (hN : ∀ i, (N' i).held = (N i).held) (hch : Chain ord' N' e' y') (hlt : ∀ i ∈ ord', i < m) :
    CSt w' base top cb mb (some ⟨nb, 0, none⟩) m cap N' e' y' room hits misses ord' sz f R := by
  have hb : ∀ k, k < top → k ≠ cb → k ≠ nb → w'.heap[k]? = w.heap[k]? := fun k hk1 h1 h2 => hk.block k (by omega) (fun h => by rcases h with h | h <;> omega)
  have e1 : ∀ i, (N' i).ro = (N i).ro ∧ (N' i).rn = (N i).rn ∧ (N' i).rc = (N i).rc ∧ (N' i).key = (N i).key := by
    intro i
    have := hN i
    simp only [Nd.held, Prod.mk.injEq] at this
    exact ⟨this.2.1, this.2.2.1, this.2.2.2, this.1⟩
  refine ⟨hc.f, .inr ⟨nb, rfl, hc.n, hc.ne, hmn, hbn.1, hbn.2⟩, h.mp.stay (hb mb h.bm.2 (fun e => h.cm e.symm) hmn), hch, hlt, h.cm, h.bc, h.bm, fun i hi => ?_, fun i hi => ?_⟩
  · obtain ⟨h1, h2⟩ := h.rows i hi
    obtain ⟨a1, a2, a3, a4⟩ := e1 i
    refine ⟨?_, ?_⟩
    · rw [a1, a2, a3]
      exact h1.keep fun ad e => hb _ (h2 ad e).2.1 (fun e' => (h2 ad e).2.2 (.inl e')) (fun e' => (h2 ad e).2.2 (.inr (.inr (by rw [e']))))
    · rw [a1]; exact h2
  · rw [(e1 i).2.2.2]; exact h.keys i hi
end

end Go.Proofs.Ytjfpbhdcbjaahaa
