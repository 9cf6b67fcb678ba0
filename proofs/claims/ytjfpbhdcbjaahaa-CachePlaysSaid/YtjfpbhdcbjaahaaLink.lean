/- Walks: unlink, link. -/
import Derived.Test.YtjfpbhdcbjaahaaNds
import Derived.BigRegion
namespace Go.Proofs.Ytjfpbhdcbjaahaa
open Go.RowKit
set_option linter.unusedVariables false

def setYoN (N : Nat → Nd) (p : Nat) (x : Int) : Nat → Nd := upd N p { N p with yo := x }
def setElN (N : Nat → Nd) (p : Nat) (x : Int) : Nat → Nd := upd N p { N p with el := x }
def unl1 (N : Nat → Nd) (el yo : Int) : Nat → Nd := if el = -1 then N else setYoN N el.toNat yo
def unl2 (N : Nat → Nd) (el yo : Int) : Nat → Nd := if yo = -1 then unl1 N el yo else setElN (unl1 N el yo) yo.toNat el
/-- The nodes behind 'unlink'. -/
def unlN (N : Nat → Nd) (i : Nat) : Nat → Nd := unl2 N (N i).el (N i).yo

/-- A place: none, or one of the first m. -/
def Pl (m : Nat) (x : Int) : Prop := x = -1 ∨ ∃ k : Nat, x = k ∧ k < m

/-- What unlink and link may write. -/
def Two (cb nb : Nat) (k : Nat) : Prop := k = cb ∨ k = nb

structure CMem (w : World) (cb nb mb m cap : Nat) (N : Nat → Nd) (e y room hits misses : Int) : Prop where
  f : Flds w cb (.slice (some ⟨nb, 0, none⟩) m cap) mb e y room hits misses
  n : Nds w nb m cap N
  ne : cb ≠ nb

theorem CMem.cells {w : World} {cb nb mb m cap : Nat} {N : Nat → Nd} {e y room hits misses : Int} (h : CMem w cb nb mb m cap N e y room hits misses) {i : Nat} (hi : i < m) :
    w.cell? ⟨nb, i * 4, none⟩ = some (.string (N i).key) ∧ w.cell? ⟨nb, i * 4 + 1, none⟩ = some (.slice (N i).ro (N i).rn (N i).rc) ∧ w.cell? ⟨nb, i * 4 + 2, none⟩ = some (.int .i64 (N i).el) ∧ w.cell? ⟨nb, i * 4 + 3, none⟩ = some (.int .i64 (N i).yo) :=
  ⟨h.n.cell hi (j := 0) (by omega), h.n.cell hi (j := 1) (by omega), h.n.cell hi (j := 2) (by omega), h.n.cell hi (j := 3) (by omega)⟩

section
variable {w : World} {cb nb mb m cap : Nat} {N : Nat → Nd} {e y room hits misses : Int}
theorem CMem.lt (h : CMem w cb nb mb m cap N e y room hits misses) : cb < w.heap.size := World.block_lt_of_cell? w _ h.f.f0
theorem CMem.stay {w' : World} (h : CMem w cb nb mb m cap N e y room hits misses) (h1 : w'.heap[cb]? = w.heap[cb]?) (h2 : w'.heap[nb]? = w.heap[nb]?) : CMem w' cb nb mb m cap N e y room hits misses :=
  ⟨h.f.stay h1, h.n.stay h2, h.ne⟩
theorem CMem.alloc (h : CMem w cb nb mb m cap N e y room hits misses) (o : Obj) : CMem (w.alloc o) cb nb mb m cap N e y room hits misses :=
  h.stay (Below.heap_alloc _ _ _ h.lt) (Below.heap_alloc _ _ _ h.n.lt)
theorem CMem.drew (h : CMem w cb nb mb m cap N e y room hits misses) : CMem w.drew cb nb mb m cap N e y room hits misses := h.stay rfl rfl
theorem CMem.drewN (h : CMem w cb nb mb m cap N e y room hits misses) (n : Nat) : CMem (w.drewN n) cb nb mb m cap N e y room hits misses := h.stay rfl rfl
theorem CMem.setE (h : CMem w cb nb mb m cap N e y room hits misses) (x : Int) : CMem (w.setCell ⟨cb, 2, none⟩ (.int .i64 x)) cb nb mb m cap N x y room hits misses :=
  ⟨h.f.set2 x, h.n.stay (heap_set_other h.ne.symm), h.ne⟩
theorem CMem.setY (h : CMem w cb nb mb m cap N e y room hits misses) (x : Int) : CMem (w.setCell ⟨cb, 3, none⟩ (.int .i64 x)) cb nb mb m cap N e x room hits misses :=
  ⟨h.f.set3 x, h.n.stay (heap_set_other h.ne.symm), h.ne⟩
theorem CMem.setEl (h : CMem w cb nb mb m cap N e y room hits misses) {k : Nat} (hk : k < m) (x : Int) : CMem (w.setCell ⟨nb, k * 4 + 2, none⟩ (.int .i64 x)) cb nb mb m cap (setElN N k x) e y room hits misses :=
  ⟨h.f.stay (heap_set_other h.ne), h.n.store hk (j := 2) (by omega) _ _ rfl, h.ne⟩
theorem CMem.setYo (h : CMem w cb nb mb m cap N e y room hits misses) {k : Nat} (hk : k < m) (x : Int) : CMem (w.setCell ⟨nb, k * 4 + 3, none⟩ (.int .i64 x)) cb nb mb m cap (setYoN N k x) e y room hits misses :=
  ⟨h.f.stay (heap_set_other h.ne), h.n.store hk (j := 3) (by omega) _ _ rfl, h.ne⟩
end

set_option maxHeartbeats 4000000 in
theorem unlink_calls {cb nb mb m cap : Nat} {N : Nat → Nd} {e y room hits misses : Int} (w : World) (h : CMem w cb nb mb m cap N e y room hits misses) (i : Nat) (hi : i < m) (hel : Pl m (N i).el) (hyo : Pl m (N i).yo) :
    Calls Try.prog 20 #[.pointer (some ⟨cb, 0, none⟩), .int .i64 i] w fun en w' => en = .returned (.tuple #[]) ∧
      CMem w' cb nb mb m cap (unlN N i) (if (N i).el = -1 then (N i).yo else e) (if (N i).yo = -1 then (N i).el else y) room hits misses ∧ Keeps (Two cb nb) w w' := by
  obtain ⟨c0, c1, c2, c3⟩ := h.cells hi
  obtain ⟨f0, f1, f2, f3, f4, f5, f6, ff⟩ := id h.f
  have nf := h.n.free
  have hle := h.n.le
  have hmax := h.n.max
  unfold maxLen at hmax
  have hne := h.ne
  have hne2 := hne.symm
  have hlt := h.n.lt
  have hlt2 := h.lt
  have him : (i : Int) < (m : Int) := by omega
  obtain ⟨el, hel'⟩ : ∃ x, (N i).el = x := ⟨_, rfl⟩
  obtain ⟨yo, hyo'⟩ : ∃ x, (N i).yo = x := ⟨_, rfl⟩
  rw [hel'] at c2 hel
  rw [hyo'] at c3 hyo
  rw [hel', hyo']
  have hunl : unlN N i = unl2 N el yo := by unfold unlN; rw [hel', hyo']
  rw [hunl]
  clear hunl hel' hyo'
  have H := Lib.hid h
  clear h
  rcases hel with rfl | ⟨p, rfl, hp⟩
  · rcases hyo with rfl | ⟨q, rfl, hq⟩
    · go_enter Try.func20, Try.ntmps20
      go_wp2
      go_end0
      refine ⟨rfl, ?_, ?_⟩
      · have := ((H.out.setE (-1)).setY (-1)).alloc (.cells #[.string (N i).key, .slice (N i).ro (N i).rn (N i).rc, .int .i64 (-1), .int .i64 (-1)] 58)
        simpa [unl2, unl1] using this
      · exact ((((Keeps.refl (Two cb nb) w).set (p := ⟨cb, 2, none⟩) (Or.inl rfl) _).set (p := ⟨cb, 3, none⟩) (Or.inl rfl) _).alloc _)
    · have hqm : (q : Int) < (m : Int) := by omega
      have hq1 : ((q : Int) == -1) = false := by simp
      have hq2 : ¬ (q : Int) = -1 := by omega
      have g2 := (H.out.cells hq).2.2.1
      go_enter Try.func20, Try.ntmps20
      go_wp2
      go_region
      all_goals go_wp2
      all_goals
        go_end0
        have e1 : unl2 N (-1) (q : Int) = setElN N q (-1) := by simp [unl2, unl1, hq2]
        rw [e1]
        exact ⟨rfl, (((H.out.setE _).setEl hq _).alloc _).drew, ((((Keeps.refl (Two cb nb) w).set (p := ⟨cb, 2, none⟩) (Or.inl rfl) _).set (p := ⟨nb, q * 4 + 2, none⟩) (Or.inr rfl) _).alloc _).drew⟩
  · have hpm : (p : Int) < (m : Int) := by omega
    have hp1 : ((p : Int) == -1) = false := by simp
    have hp2 : ¬ (p : Int) = -1 := by omega
    have g3 := (H.out.cells hp).2.2.2
    rcases hyo with rfl | ⟨q, rfl, hq⟩
    · go_enter Try.func20, Try.ntmps20
      go_wp2
      go_region
      all_goals go_wp2
      all_goals
        go_end0
        have e1 : unl2 N (p : Int) (-1) = setYoN N p (-1) := by simp [unl2, unl1, hp2]
        rw [e1]
        exact ⟨rfl, (((H.out.setYo hp _).setY _).alloc _).drew, ((((Keeps.refl (Two cb nb) w).set (p := ⟨nb, p * 4 + 3, none⟩) (Or.inr rfl) _).set (p := ⟨cb, 3, none⟩) (Or.inl rfl) _).alloc _).drew⟩
    · have hqm : (q : Int) < (m : Int) := by omega
      have hq1 : ((q : Int) == -1) = false := by simp
      have hq2 : ¬ (q : Int) = -1 := by omega
      have g2 := (H.out.cells hq).2.2.1
      go_enter Try.func20, Try.ntmps20
      go_wp2
      go_region
      all_goals go_wp2
      all_goals go_region
      all_goals go_wp2
      all_goals
        go_end0
        have e1 : unl2 N (p : Int) (q : Int) = setElN (setYoN N p q) q p := by simp [unl2, unl1, hp2, hq2]
        rw [e1]
        exact ⟨rfl, ((((H.out.setYo hp _).setEl hq _).alloc _).drew).drew, (((((Keeps.refl (Two cb nb) w).set (p := ⟨nb, p * 4 + 3, none⟩) (Or.inr rfl) _).set (p := ⟨nb, q * 4 + 2, none⟩) (Or.inr rfl) _).alloc _).drew).drew⟩

/-- The nodes behind 'link'. -/
def lnkN (N : Nat → Nd) (i : Nat) (y : Int) : Nat → Nd :=
  if y = -1 then setYoN (setElN N i y) i (-1) else setYoN (setYoN (setElN N i y) i (-1)) y.toNat i

set_option maxHeartbeats 4000000 in
theorem link_calls {cb nb mb m cap : Nat} {N : Nat → Nd} {e y room hits misses : Int} (w : World) (h : CMem w cb nb mb m cap N e y room hits misses) (i : Nat) (hi : i < m) (hy : Pl m y) (hyi : y ≠ i) :
    Calls Try.prog 23 #[.pointer (some ⟨cb, 0, none⟩), .int .i64 i] w fun en w' => en = .returned (.tuple #[]) ∧
      CMem w' cb nb mb m cap (lnkN N i y) (if y = -1 then i else e) i room hits misses ∧ Keeps (Two cb nb) w w' := by
  obtain ⟨c0, c1, c2, c3⟩ := h.cells hi
  obtain ⟨f0, f1, f2, f3, f4, f5, f6, ff⟩ := id h.f
  have nf := h.n.free
  have hle := h.n.le
  have hmax := h.n.max
  unfold maxLen at hmax
  have hne := h.ne
  have hne2 := hne.symm
  have hlt := h.n.lt
  have hlt2 := h.lt
  have him : (i : Int) < (m : Int) := by omega
  have H := Lib.hid h
  clear h
  rcases hy with rfl | ⟨q, rfl, hq⟩
  · go_enter Try.func23, Try.ntmps23
    go_wp2
    go_region
    all_goals go_wp2
    all_goals
      go_end0
      have e1 : lnkN N i (-1) = setYoN (setElN N i (-1)) i (-1) := by simp [lnkN]
      rw [e1]
      exact ⟨rfl, ((((H.out.setEl hi _).setYo hi _).setE _).setY _).drew, (((((Keeps.refl (Two cb nb) w).set (p := ⟨nb, i * 4 + 2, none⟩) (Or.inr rfl) _).set (p := ⟨nb, i * 4 + 3, none⟩) (Or.inr rfl) _).set (p := ⟨cb, 2, none⟩) (Or.inl rfl) _).set (p := ⟨cb, 3, none⟩) (Or.inl rfl) _).drew⟩
  · have hqm : (q : Int) < (m : Int) := by omega
    have hq1 : ((q : Int) == -1) = false := by simp
    have hq2 : ¬ (q : Int) = -1 := by omega
    have hqi : ¬ q = i := by omega
    have g3 := (H.out.cells hq).2.2.2
    go_enter Try.func23, Try.ntmps23
    go_wp2
    go_region
    all_goals go_wp2
    all_goals go_region
    all_goals go_wp2
    all_goals
      go_end0
      have e1 : lnkN N i (q : Int) = setYoN (setYoN (setElN N i q) i (-1)) q i := by simp [lnkN, hq2]
      rw [e1]
      exact ⟨rfl, (((((H.out.setEl hi _).setYo hi _).setYo hq _).setY _).drew).drew, ((((((Keeps.refl (Two cb nb) w).set (p := ⟨nb, i * 4 + 2, none⟩) (Or.inr rfl) _).set (p := ⟨nb, i * 4 + 3, none⟩) (Or.inr rfl) _).set (p := ⟨nb, q * 4 + 3, none⟩) (Or.inr rfl) _).set (p := ⟨cb, 3, none⟩) (Or.inl rfl) _).drew).drew⟩

end Go.Proofs.Ytjfpbhdcbjaahaa
