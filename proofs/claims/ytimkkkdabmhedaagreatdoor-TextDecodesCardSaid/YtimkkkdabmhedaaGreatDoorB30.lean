/- Walks: unlink, link. -/
import Derived.Test.YtimkkkdabmhedaaGreatDoorB29
import Derived.BigRegion
namespace Go.Proofs.YtimkkkdabmhedaaGreatDoor
open Go.RowKit
set_option linter.unusedVariables false

def setYoN (N : Nat → Nd) (p : Nat) (x : Int) : Nat → Nd := upd N p { N p with yo := x }
def setElN (N : Nat → Nd) (p : Nat) (x : Int) : Nat → Nd := upd N p { N p with el := x }
def unl1 (N : Nat → Nd) (el yo : Int) : Nat → Nd := if el = -1 then N else setYoN N el.toNat yo
def unl2 (N : Nat → Nd) (el yo : Int) : Nat → Nd := if yo = -1 then unl1 N el yo else setElN (unl1 N el yo) yo.toNat el
/-- The nodes behind 'unlink'. -/
def unlN (N : Nat → Nd) (i : Nat) : Nat → Nd := unl2 N (N i).el (N i).yo

/-- A place: none, or one of the first m. -/
def Pl (m : Nat) (x : Int) : Prop := x = -1 ∨ ∃ k : Nat, x = k ∧ k < m

/-- What unlink and link may write. -/
def Two (cb nb : Nat) (k : Nat) : Prop := k = cb ∨ k = nb

structure CMem (w : World) (cb nb mb m cap : Nat) (N : Nat → Nd) (e y room hits misses : Int) : Prop where
  f : Flds w cb (.slice (some ⟨nb, 0, none⟩) m cap) mb e y room hits misses
  n : Nds w nb m cap N
  ne : cb ≠ nb

theorem CMem.cells {w : World} {cb nb mb m cap : Nat} {N : Nat → Nd} {e y room hits misses : Int} (h : CMem w cb nb mb m cap N e y room hits misses) {i : Nat} (hi : i < m) :
    w.cell? ⟨nb, i * 4, none⟩ = some (.string (N i).key) ∧ w.cell? ⟨nb, i * 4 + 1, none⟩ = some (.slice (N i).ro (N i).rn (N i).rc) ∧ w.cell? ⟨nb, i * 4 + 2, none⟩ = some (.int .i64 (N i).el) ∧ w.cell? ⟨nb, i * 4 + 3, none⟩ = some (.int .i64 (N i).yo) :=
  ⟨h.n.cell hi (j := 0) (by omega), h.n.cell hi (j := 1) (by omega), h.n.cell hi (j := 2) (by omega), h.n.cell hi (j := 3) (by omega)⟩

section
variable {w : World} {cb nb mb m cap : Nat} {N : Nat → Nd} {e y room hits misses : Int}
theorem CMem.lt (h : CMem w cb nb mb m cap N e y room hits misses) : cb < w.heap.size := World.block_lt_of_cell? w _ h.f.f0
theorem CMem.stay {w' : World} (h : CMem w cb nb mb m cap N e y room hits misses) (h1 : w'.heap[cb]? = w.heap[cb]?) (h2 : w'.heap[nb]? = w.heap[nb]?) : CMem w' cb nb mb m cap N e y room hits misses :=
  ⟨h.f.stay h1, h.n.stay h2, h.ne⟩
theorem CMem.alloc (h : CMem w cb nb mb m cap N e y room hits misses) (o : Obj) : CMem (w.alloc o) cb nb mb m cap N e y room hits misses :=
  h.stay (Below.heap_alloc _ _ _ h.lt) (Below.heap_alloc _ _ _ h.n.lt)
theorem CMem.drew (h : CMem w cb nb mb m cap N e y room hits misses) : CMem w.drew cb nb mb m cap N e y room hits misses := h.stay rfl rfl
theorem CMem.drewN (h : CMem w cb nb mb m cap N e y room hits misses) (n : Nat) : CMem (w.drewN n) cb nb mb m cap N e y room hits misses := h.stay rfl rfl
theorem CMem.setE (h : CMem w cb nb mb m cap N e y room hits misses) (x : Int) : CMem (w.setCell ⟨cb, 2, none⟩ (.int .i64 x)) cb nb mb m cap N x y room hits misses :=
  ⟨h.f.set2 x, h.n.stay (heap_set_other h.ne.symm), h.ne⟩
theorem CMem.setY (h : CMem w cb nb mb m cap N e y room hits misses) (x : Int) : CMem (w.setCell ⟨cb, 3, none⟩ (.int .i64 x)) cb nb mb m cap N e x room hits misses :=
  ⟨h.f.set3 x, h.n.stay (heap_set_other h.ne.symm), h.ne⟩
theorem CMem.setEl (h : CMem w cb nb mb m cap N e y room hits misses) {k : Nat} (hk : k < m) (x : Int) : CMem (w.setCell ⟨nb, k * 4 + 2, none⟩ (.int .i64 x)) cb nb mb m cap (setElN N k x) e y room hits misses :=
  ⟨h.f.stay (heap_set_other h.ne), h.n.store hk (j := 2) (by omega) _ _ rfl, h.ne⟩
theorem CMem.setYo (h : CMem w cb nb mb m cap N e y room hits misses) {k : Nat} (hk : k < m) (x : Int) : CMem (w.setCell ⟨nb, k * 4 + 3, none⟩ (.int .i64 x)) cb nb mb m cap (setYoN N k x) e y room hits misses :=
  ⟨h.f.stay (heap_set_other h.ne), h.n.store hk (j := 3) (by omega) _ _ rfl, h.ne⟩
end

set_option maxHeartbeats 4000000 in
theorem unlink_calls {cb nb mb m cap : Nat} {N : Nat → Nd} {e y room hits misses : Int} (w : World) (h : CMem w cb nb mb m cap N e y room hits misses) (i : Nat) (hi : i < m) (hel : Pl m (N i).el) (hyo : Pl m (N i).yo) :
    Calls Tryz.prog 147 #[.pointer (some ⟨cb, 0, none⟩), .int .i64 i] w fun en w' => en = .returned (.tuple #[]) ∧
      CMem w' cb nb mb m cap (unlN N i) (if (N i).el = -1 then (N i).yo else e) (if (N i).yo = -1 then (N i).el else y) room hits misses ∧ Keeps (Two cb nb) w w' := by
  obtain ⟨c0, c1, c2, c3⟩ := h.cells hi
  obtain ⟨f0, f1, f2, f3, f4, f5, f6, ff⟩ := id h.f
  have nf := h.n.free
  have hle := h.n.le
  have hmax := h.n.max
  unfold maxLen at hmax
  have hne := h.ne
  have hne2 := hne.symm
  have hlt := h.n.lt
  have hlt2 := h.lt
  have him : (i : Int) < (m : Int) := by omega
  obtain ⟨el, hel'⟩ : ∃ x, (N i).el = x := ⟨_, rfl⟩
  obtain ⟨yo, hyo'⟩ : ∃ x, (N i).yo = x := ⟨_, rfl⟩
  rw [hel'] at c2 hel
  rw [hyo'] at c3 hyo
  rw [hel', hyo']
  have hunl : unlN N i = unl2 N el yo := by unfold unlN; rw [hel', hyo']
  rw [hunl]
  clear hunl hel' hyo'
  have H := Lib.hid h
  clear h
  rcases hel with rfl | ⟨p, rfl, hp⟩
  · rcases hyo with rfl | ⟨q, rfl, hq⟩
    · go_enter Tryz.func147, Tryz.ntmps147
      go_wp2
      go_end0
      refine ⟨rfl, ?_, ?_⟩
      · have := ((H.out.setE (-1)).setY (-1)).alloc (.cells #[.string (N i).key, .slice (N i).ro (N i).rn (N i).rc, .int .i64 (-1), .int .i64 (-1)] 208)
        simpa [unl2, unl1] using this
      · exact ((((Keeps.refl (Two cb nb) w).set (p := ⟨cb, 2, none⟩) (Or.inl rfl) _).set (p := ⟨cb, 3, none⟩) (Or.inl rfl) _).alloc _)
    · have hqm : (q : Int) < (m : Int) := by omega
      have hq1 : ((q : Int) == -1) = false := by simp
      have hq2 : ¬ (q : Int) = -1 := by omega
      have g2 := (H.out.cells hq).2.2.1
      go_enter Tryz.func147, Tryz.ntmps147
      go_wp2
      go_region
      all_goals go_wp2
      all_goals
        go_end0
        have e1 : unl2 N (-1) (q : Int) = setElN N q (-1) := by simp [unl2, unl1, hq2]
        rw [e1]
        exact ⟨rfl, (((H.out.setE _).setEl hq _).alloc _).drew, ((((Keeps.refl (Two cb nb) w).set (p := ⟨cb, 2, none⟩) (Or.inl rfl) _).set (p := ⟨nb, q * 4 + 2, none⟩) (Or.inr rfl) _).alloc _).drew⟩
  · have hpm : (p : Int) < (m : Int) := by omega
    have hp1 : ((p : Int) == -1) = false := by simp
    have hp2 : ¬ (p : Int) = -1 := by omega
    have g3 := (H.out.cells hp).2.2.2
    rcases hyo with rfl | ⟨q, rfl, hq⟩
    · go_enter Tryz.func147, Tryz.ntmps147
      go_wp2
      go_region
      all_goals go_wp2
      all_goals
        go_end0
        have e1 : unl2 N (p : Int) (-1) = setYoN N p (-1) := by simp [unl2, unl1, hp2]
        rw [e1]
        exact ⟨rfl, (((H.out.setYo hp _).setY _).alloc _).drew, ((((Keeps.refl (Two cb nb) w).set (p := ⟨nb, p * 4 + 3, none⟩) (Or.inr rfl) _).set (p := ⟨cb, 3, none⟩) (Or.inl rfl) _).alloc _).drew⟩
    · have hqm : (q : Int) < (m : Int) := by omega
      have hq1 : ((q : Int) == -1) = false := by simp
      have hq2 : ¬ (q : Int) = -1 := by omega
      have g2 := (H.out.cells hq).2.2.1
      go_enter Tryz.func147, Tryz.ntmps147
      go_wp2
      go_region
      all_goals go_wp2
      all_goals go_region
      all_goals go_wp2
      all_goals
        go_end0
        have e1 : unl2 N (p : Int) (q : Int) = setElN (setYoN N p q) q p := by simp [unl2, unl1, hp2, hq2]
        rw [e1]
        exact ⟨rfl, ((((H.out.setYo hp _).setEl hq _).alloc _).drew).drew, (((((Keeps.refl (Two cb nb) w).set (p := ⟨nb, p * 4 + 3, none⟩) (Or.inr rfl) _).set (p := ⟨nb, q * 4 + 2, none⟩) (Or.inr rfl) _).alloc _).drew).drew⟩

/-- The nodes behind 'link'. -/
def lnkN (N : Nat → Nd) (i : Nat) (y : Int) : Nat → Nd :=
  if y = -1 then setYoN (setElN N i y) i (-1) else setYoN (setYoN (setElN N i y) i (-1)) y.toNat i

set_option maxHeartbeats 4000000 in
theorem link_calls {cb nb mb m cap : Nat} {N : Nat → Nd} {e y room hits misses : Int} (w : World) (h : CMem w cb nb mb m cap N e y room hits misses) (i : Nat) (hi : i < m) (hy : Pl m y) (hyi : y ≠ i) :
    Calls Tryz.prog 148 #[.pointer (some ⟨cb, 0, none⟩), .int .i64 i] w fun en w' => en = .returned (.tuple #[]) ∧
      CMem w' cb nb mb m cap (lnkN N i y) (if y = -1 then i else e) i room hits misses ∧ Keeps (Two cb nb) w w' := by
  obtain ⟨c0, c1, c2, c3⟩ := h.cells hi
  obtain ⟨f0, f1, f2, f3, f4, f5, f6, ff⟩ := id h.f
  have nf := h.n.free
  have hle := h.n.le
  have hmax := h.n.max
  unfold maxLen at hmax
  have hne := h.ne
  have hne2 := hne.symm
  have hlt := h.n.lt
  have hlt2 := h.lt
  have him : (i : Int) < (m : Int) := by omega
  have H := Lib.hid h
  clear h
  rcases hy with rfl | ⟨q, rfl, hq⟩
  · go_enter Tryz.func148, Tryz.ntmps148
    go_wp2
    go_region
    all_goals go_wp2
    all_goals
      go_end0
      have e1 : lnkN N i (-1) = setYoN (setElN N i (-1)) i (-1) := by simp [lnkN]
      rw [e1]
      exact ⟨rfl, ((((H.out.setEl hi _).setYo hi _).setE _).setY _).drew, (((((Keeps.refl (Two cb nb) w).set (p := ⟨nb, i * 4 + 2, none⟩) (Or.inr rfl) _).set (p := ⟨nb, i * 4 + 3, none⟩) (Or.inr rfl) _).set (p := ⟨cb, 2, none⟩) (Or.inl rfl) _).set (p := ⟨cb, 3, none⟩) (Or.inl rfl) _).drew⟩
  · have hqm : (q : Int) < (m : Int) := by omega
    have hq1 : ((q : Int) == -1) = false := by simp
    have hq2 : ¬ (q : Int) = -1 := by omega
    have hqi : ¬ q = i := by omega
    have g3 := (H.out.cells hq).2.2.2
    go_enter Tryz.func148, Tryz.ntmps148
    go_wp2
    go_region
    all_goals go_wp2
    all_goals go_region
    all_goals go_wp2
    all_goals
      go_end0
      have e1 : lnkN N i (q : Int) = setYoN (setYoN (setElN N i q) i (-1)) q i := by simp [lnkN, hq2]
      rw [e1]
      exact ⟨rfl, (((((H.out.setEl hi _).setYo hi _).setYo hq _).setY _).drew).drew, ((((((Keeps.refl (Two cb nb) w).set (p := ⟨nb, i * 4 + 2, none⟩) (Or.inr rfl) _).set (p := ⟨nb, i * 4 + 3, none⟩) (Or.inr rfl) _).set (p := ⟨nb, q * 4 + 3, none⟩) (Or.inr rfl) _).set (p := ⟨cb, 3, none⟩) (Or.inl rfl) _).drew).drew⟩

end Go.Proofs.YtimkkkdabmhedaaGreatDoor

/- The chain of nodes, in plain Lean: from the eldest to the youngest; what unlinking and linking make of it. -/
namespace Go.Proofs.YtimkkkdabmhedaaGreatDoor
set_option linter.unusedVariables false

def lstD (l : List Nat) : Int := match l.getLast? with | none => -1 | some x => x
def hdD (l : List Nat) : Int := match l with | [] => -1 | x :: _ => x

theorem nil_or_snoc {α : Type} (l : List α) : l = [] ∨ ∃ l' x, l = l' ++ [x] := by
  rcases List.eq_nil_or_concat l with h | ⟨l', x, h⟩
  · exact .inl h
  · exact .inr ⟨l', x, by rw [h, List.concat_eq_append]⟩

theorem lstD_nil : lstD [] = -1 := rfl
theorem lstD_snoc (l : List Nat) (x : Nat) : lstD (l ++ [x]) = x := by simp [lstD]
theorem lstD_app (l : List Nat) (x : Nat) (r : List Nat) : lstD (l ++ x :: r) = lstD (x :: r) := by
  simp [lstD, List.getLast?_append, List.getLast?_cons]
theorem hdD_app (x : Nat) (l r : List Nat) : hdD ((x :: l) ++ r) = x := rfl
theorem lstD_pl {l : List Nat} {m : Nat} (h : ∀ k ∈ l, k < m) : Pl m (lstD l) := by
  rcases nil_or_snoc l with rfl | ⟨l', x, rfl⟩
  · exact .inl rfl
  · exact .inr ⟨x, lstD_snoc _ _, h x (by simp)⟩
theorem hdD_pl {l : List Nat} {m : Nat} (h : ∀ k ∈ l, k < m) : Pl m (hdD l) := by
  cases l with
  | nil => exact .inl rfl
  | cons x l => exact .inr ⟨x, rfl, h x (by simp)⟩

/-- The nodes of ord, in this order, are linked; e and y are its ends. -/
structure Chain (ord : List Nat) (N : Nat → Nd) (e y : Int) : Prop where
  nd : ord.Nodup
  e_ : e = hdD ord
  y_ : y = lstD ord
  at_ : ∀ pre i post, ord = pre ++ i :: post → (N i).el = lstD pre ∧ (N i).yo = hdD post

theorem setYoN_el (N : Nat → Nd) (p : Nat) (x : Int) (j : Nat) : (setYoN N p x j).el = (N j).el := by unfold setYoN upd; split <;> simp_all
theorem setYoN_yo (N : Nat → Nd) (p : Nat) (x : Int) (j : Nat) : (setYoN N p x j).yo = if j = p then x else (N j).yo := by unfold setYoN upd; split <;> simp_all
theorem setElN_el (N : Nat → Nd) (p : Nat) (x : Int) (j : Nat) : (setElN N p x j).el = if j = p then x else (N j).el := by unfold setElN upd; split <;> simp_all
theorem setElN_yo (N : Nat → Nd) (p : Nat) (x : Int) (j : Nat) : (setElN N p x j).yo = (N j).yo := by unfold setElN upd; split <;> simp_all

/-- What a node holds, but for its places. -/
def Nd.held (n : Nd) : ByteArray × Option Addr × Nat × Nat := (n.key, n.ro, n.rn, n.rc)
theorem setYoN_held (N : Nat → Nd) (p : Nat) (x : Int) (j : Nat) : (setYoN N p x j).held = (N j).held := by unfold setYoN upd Nd.held; split <;> simp_all
theorem setElN_held (N : Nat → Nd) (p : Nat) (x : Int) (j : Nat) : (setElN N p x j).held = (N j).held := by unfold setElN upd Nd.held; split <;> simp_all
theorem unlN_held (N : Nat → Nd) (i j : Nat) : (unlN N i j).held = (N j).held := by
  unfold unlN unl2 unl1
  split <;> split <;> simp [setYoN_held, setElN_held]
theorem lnkN_held (N : Nat → Nd) (i : Nat) (y : Int) (j : Nat) : (lnkN N i y j).held = (N j).held := by
  unfold lnkN
  split <;> simp [setYoN_held, setElN_held]

theorem unl_el {N : Nat → Nd} {i : Nat} {pre post : List Nat} (he : (N i).el = lstD pre) (hy : (N i).yo = hdD post) (j : Nat) : (unlN N i j).el = if (j : Int) = hdD post then lstD pre else (N j).el := by
  unfold unlN unl2 unl1
  rw [he, hy]
  have hN : ∀ x : Int, ((if lstD pre = -1 then N else setYoN N (lstD pre).toNat x) j).el = (N j).el := by
    intro x
    by_cases h : lstD pre = -1
    · rw [if_pos h]
    · rw [if_neg h, setYoN_el]
  cases post with
  | nil =>
    rw [if_pos (show hdD [] = -1 from rfl), if_neg (show ¬ (j : Int) = hdD [] from by simp [hdD])]
    exact hN _
  | cons q r =>
    rw [if_neg (show ¬ hdD (q :: r) = -1 from by show ¬ (q : Int) = -1; omega), setElN_el]
    have hq : (hdD (q :: r)).toNat = q := rfl
    rw [hq]
    by_cases e : j = q
    · rw [if_pos e, if_pos (show (j : Int) = hdD (q :: r) from by rw [e]; rfl)]
    · rw [if_neg e, if_neg (show ¬ (j : Int) = hdD (q :: r) from fun h => e (Int.ofNat.inj h))]
      exact hN _

theorem unl_yo {N : Nat → Nd} {i : Nat} {pre post : List Nat} (he : (N i).el = lstD pre) (hy : (N i).yo = hdD post) (j : Nat) : (unlN N i j).yo = if (j : Int) = lstD pre then hdD post else (N j).yo := by
  unfold unlN unl2 unl1
  rw [he, hy]
  have key : ((if lstD pre = -1 then N else setYoN N (lstD pre).toNat (hdD post)) j).yo = if (j : Int) = lstD pre then hdD post else (N j).yo := by
    rcases nil_or_snoc pre with rfl | ⟨pre', p, rfl⟩
    · rw [if_pos (show lstD [] = -1 from rfl), if_neg (show ¬ (j : Int) = lstD [] from by rw [lstD_nil]; omega)]
    · rw [lstD_snoc, if_neg (by omega), setYoN_yo, Int.toNat_natCast]
      by_cases e : j = p
      · rw [if_pos e, if_pos (by rw [e])]
      · rw [if_neg e, if_neg (by omega)]
  by_cases h : hdD post = -1
  · rw [if_pos h, key]
  · rw [if_neg h, setElN_yo, key]

theorem app_split {α : Type} {pre' post' pre post : List α} {j : α} (h : pre ++ post = pre' ++ j :: post') :
    (∃ a, pre = pre' ++ j :: a ∧ post' = a ++ post) ∨ (∃ c, pre' = pre ++ c ∧ post = c ++ j :: post') := by
  rcases List.append_eq_append_iff.1 h with ⟨a, h1, h2⟩ | ⟨a, h1, h2⟩
  · exact .inr ⟨a, h1, h2⟩
  · cases a with
    | nil =>
      simp at h1 h2
      exact .inr ⟨[], by simp [h1], by simp [h2]⟩
    | cons b a =>
      simp at h2
      obtain ⟨rfl, h2⟩ := h2
      exact .inl ⟨a, h1, h2⟩

theorem Chain.unlink {pre post : List Nat} {i : Nat} {N : Nat → Nd} {e y : Int} (h : Chain (pre ++ i :: post) N e y) :
    Chain (pre ++ post) (unlN N i) (if (N i).el = -1 then (N i).yo else e) (if (N i).yo = -1 then (N i).el else y) := by
  obtain ⟨he, hy⟩ := h.at_ pre i post rfl
  have hnd := h.nd
  have hnd2 : (pre ++ post).Nodup := by
    have : (pre ++ post).Sublist (pre ++ i :: post) := (List.Sublist.refl _).append (List.sublist_cons_self _ _)
    exact hnd.sublist this
  have hdis : ∀ x ∈ pre, x ∉ post := by
    intro x hx hx2
    exact (List.nodup_append.1 hnd2).2.2 x hx x hx2 rfl
  refine ⟨hnd2, ?_, ?_, ?_⟩
  · rw [he, hy, h.e_]
    rcases nil_or_snoc pre with rfl | ⟨pre', p, rfl⟩
    · simp [lstD_nil]
    · rw [lstD_snoc, if_neg (by omega)]
      cases pre' <;> simp [hdD]
  · rw [he, hy, h.y_]
    cases post with
    | nil => simp [hdD]
    | cons q r =>
      rw [if_neg (show ¬ hdD (q :: r) = -1 from by show ¬ (q : Int) = -1; omega), lstD_app, lstD_app]
      show lstD ([i] ++ q :: r) = _
      rw [lstD_app]
  · intro pre' j post' hs
    rw [unl_el he hy, unl_yo he hy]
    rcases app_split hs with ⟨a, rfl, rfl⟩ | ⟨c, rfl, rfl⟩
    · have ho := h.at_ pre' j (a ++ i :: post) (by simp)
      have hj : j ∉ post := hdis j (by simp)
      have h1 : ¬ (j : Int) = hdD post := by
        cases post with
        | nil => simp [hdD]
        | cons q r =>
          simp only [hdD, Int.natCast_inj]
          intro e
          exact hj (by simp [e])
      rw [if_neg h1]
      refine ⟨ho.1, ?_⟩
      cases a with
      | nil =>
        rw [lstD_snoc, if_pos rfl]
        simp
      | cons b a =>
        have h2 : ¬ (j : Int) = lstD (pre' ++ j :: b :: a) := by
          rw [lstD_app]
          show ¬ (j : Int) = lstD ([j] ++ b :: a)
          rw [lstD_app]
          intro e
          have hja : j ∉ b :: a := by
            have h3 : (pre' ++ j :: b :: a).Nodup := (List.nodup_append.1 hnd2).1
            have h4 := (List.nodup_append.1 h3).2.1
            exact (List.nodup_cons.1 h4).1
          rcases nil_or_snoc (b :: a) with h5 | ⟨l', x, h5⟩
          · simp at h5
          · rw [h5, lstD_snoc] at e
            have e' : j = x := by omega
            exact hja (by rw [h5, e']; simp)
        rw [if_neg h2, ho.2]
        rfl
    · have ho := h.at_ (pre ++ i :: c) j post' (by simp)
      have hj : j ∉ pre := fun hx => hdis j hx (by simp)
      have h1 : ¬ (j : Int) = lstD pre := by
        rcases nil_or_snoc pre with rfl | ⟨l', x, rfl⟩
        · rw [lstD_nil]; omega
        · rw [lstD_snoc]
          intro e
          exact hj (by simp; omega)
      rw [if_neg h1]
      refine ⟨?_, ho.2⟩
      cases c with
      | nil => simp [hdD]
      | cons b c =>
        have h2 : ¬ (j : Int) = hdD ((b :: c) ++ j :: post') := by
          rw [hdD_app]
          intro e
          have e' : j = b := by omega
          have h3 := (List.nodup_append.1 hnd2).2.1
          subst e'
          exact (List.nodup_cons.1 h3).1 (by simp)
        rw [if_neg h2, ho.1, lstD_app, lstD_app]
        show lstD ([i] ++ b :: c) = _
        rw [lstD_app]

theorem Chain.link {ord : List Nat} {i : Nat} {N : Nat → Nd} {e y : Int} (h : Chain ord N e y) (hi : i ∉ ord) : Chain (ord ++ [i]) (lnkN N i y) (if y = -1 then (i : Int) else e) i := by
  have hy := h.y_
  have hnd : (ord ++ [i]).Nodup := by
    rw [List.nodup_append]
    exact ⟨h.nd, by simp, fun a ha b hb => by simp at hb; subst hb; exact fun e => hi (e ▸ ha)⟩
  have hyi : ¬ (i : Int) = y := by
    rw [hy]
    rcases nil_or_snoc ord with rfl | ⟨l', x, rfl⟩
    · rw [lstD_nil]; omega
    · rw [lstD_snoc]
      intro e
      exact hi (by simp; omega)
  have el : ∀ j, (lnkN N i y j).el = if j = i then y else (N j).el := by
    intro j
    unfold lnkN
    split <;> simp [setYoN_el, setElN_el]
  have yo : ∀ j, (lnkN N i y j).yo = if (j : Int) = y then (i : Int) else if j = i then -1 else (N j).yo := by
    intro j
    unfold lnkN
    by_cases h1 : y = -1
    · have : ¬ (j : Int) = -1 := by omega
      rw [if_pos h1, setYoN_yo, setElN_yo, h1, if_neg this]
    · rw [if_neg h1, setYoN_yo, setYoN_yo, setElN_yo]
      have h2 : (j = y.toNat) ↔ ((j : Int) = y) := by
        rw [hy] at h1 ⊢
        rcases nil_or_snoc ord with rfl | ⟨l', x, rfl⟩
        · exact absurd lstD_nil h1
        · rw [lstD_snoc]; omega
      simp only [h2]
  refine ⟨hnd, ?_, by rw [lstD_snoc], ?_⟩
  · rw [h.e_, hy]
    rcases nil_or_snoc ord with rfl | ⟨l', x, rfl⟩
    · simp [lstD_nil, hdD]
    · rw [lstD_snoc, if_neg (by omega)]
      cases l' <;> simp [hdD]
  · intro pre j post hs
    rw [el, yo]
    rcases app_split hs with ⟨a, rfl, rfl⟩ | ⟨c, rfl, hc⟩
    · have hj : ¬ j = i := fun e => hi (by simp [e])
      have ho := h.at_ pre j a rfl
      rw [if_neg hj, if_neg hj]
      refine ⟨ho.1, ?_⟩
      cases a with
      | nil =>
        have : (j : Int) = y := by rw [hy, lstD_snoc]
        rw [if_pos this]
        rfl
      | cons b a =>
        have : ¬ (j : Int) = y := by
          rw [hy, lstD_app]
          show ¬ (j : Int) = lstD ([j] ++ b :: a)
          rw [lstD_app]
          intro e
          have h3 := (List.nodup_append.1 h.nd).2.1
          have hja := (List.nodup_cons.1 h3).1
          rcases nil_or_snoc (b :: a) with h5 | ⟨l', x, h5⟩
          · simp at h5
          · rw [h5, lstD_snoc] at e
            have e' : j = x := by omega
            exact hja (by rw [h5, e']; simp)
        rw [if_neg this, ho.2]
        rfl
    · cases c with
      | nil =>
        simp at hc
        obtain ⟨rfl, rfl⟩ := hc
        rw [if_neg hyi, if_pos rfl, if_pos rfl, hy]
        simp [hdD]
      | cons b c =>
        simp at hc

end Go.Proofs.YtimkkkdabmhedaaGreatDoor
