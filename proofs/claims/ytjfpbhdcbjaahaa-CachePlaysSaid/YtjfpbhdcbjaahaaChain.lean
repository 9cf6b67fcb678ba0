/- The chain of nodes, in plain Lean: from the eldest to the youngest; what unlinking and linking make of it. -/
import Derived.Test.YtjfpbhdcbjaahaaLink
namespace Go.Proofs.Ytjfpbhdcbjaahaa
set_option linter.unusedVariables false

def lstD (l : List Nat) : Int := match l.getLast? with | none => -1 | some x => x
def hdD (l : List Nat) : Int := match l with | [] => -1 | x :: _ => x

theorem nil_or_snoc {α : Type} (l : List α) : l = [] ∨ ∃ l' x, l = l' ++ [x] := by
  rcases List.eq_nil_or_concat l with h | ⟨l', x, h⟩
  · exact .inl h
  · exact .inr ⟨l', x, by rw [h, List.concat_eq_append]⟩

theorem lstD_nil : lstD [] = -1 := rfl
theorem lstD_snoc (l : List Nat) (x : Nat) : lstD (l ++ [x]) = x := by simp [lstD]
theorem lstD_app (l : List Nat) (x : Nat) (r : List Nat) : lstD (l ++ x :: r) = lstD (x :: r) := by
  simp [lstD, List.getLast?_append, List.getLast?_cons]
theorem hdD_cons (x : Nat) (l : List Nat) : hdD (x :: l) = x := rfl
theorem hdD_app (x : Nat) (l r : List Nat) : hdD ((x :: l) ++ r) = x := rfl
theorem lstD_pl {l : List Nat} {m : Nat} (h : ∀ k ∈ l, k < m) : Pl m (lstD l) := by
  rcases nil_or_snoc l with rfl | ⟨l', x, rfl⟩
  · exact .inl rfl
  · exact .inr ⟨x, lstD_snoc _ _, h x (by simp)⟩
theorem hdD_pl {l : List Nat} {m : Nat} (h : ∀ k ∈ l, k < m) : Pl m (hdD l) := by
  cases l with
  | nil => exact .inl rfl
  | cons x l => exact .inr ⟨x, rfl, h x (by simp)⟩

/-- The nodes of ord, in this order, are linked; e and y are its ends. -/
structure Chain (ord : List Nat) (N : Nat → Nd) (e y : Int) : Prop where
  nd : ord.Nodup
  e_ : e = hdD ord
  y_ : y = lstD ord
  at_ : ∀ pre i post, ord = pre ++ i :: post → (N i).el = lstD pre ∧ (N i).yo = hdD post

theorem setYoN_el (N : Nat → Nd) (p : Nat) (x : Int) (j : Nat) : (setYoN N p x j).el = (N j).el := by unfold setYoN upd; split <;> simp_all
theorem setYoN_yo (N : Nat → Nd) (p : Nat) (x : Int) (j : Nat) : (setYoN N p x j).yo = if j = p then x else (N j).yo := by unfold setYoN upd; split <;> simp_all
theorem setElN_el (N : Nat → Nd) (p : Nat) (x : Int) (j : Nat) : (setElN N p x j).el = if j = p then x else (N j).el := by unfold setElN upd; split <;> simp_all
theorem setElN_yo (N : Nat → Nd) (p : Nat) (x : Int) (j : Nat) : (setElN N p x j).yo = (N j).yo := by unfold setElN upd; split <;> simp_all

/-- What a node holds, but for its places. -/
def Nd.held (n : Nd) : ByteArray × Option Addr × Nat × Nat := (n.key, n.ro, n.rn, n.rc)
theorem setYoN_held (N : Nat → Nd) (p : Nat) (x : Int) (j : Nat) : (setYoN N p x j).held = (N j).held := by unfold setYoN upd Nd.held; split <;> simp_all
theorem setElN_held (N : Nat → Nd) (p : Nat) (x : Int) (j : Nat) : (setElN N p x j).held = (N j).held := by unfold setElN upd Nd.held; split <;> simp_all
theorem unlN_held (N : Nat → Nd) (i j : Nat) : (unlN N i j).held = (N j).held := by
  unfold unlN unl2 unl1
  split <;> split <;> simp [setYoN_held, setElN_held]
theorem lnkN_held (N : Nat → Nd) (i : Nat) (y : Int) (j : Nat) : (lnkN N i y j).held = (N j).held := by
  unfold lnkN
  split <;> simp [setYoN_held, setElN_held]

theorem unl_el {N : Nat → Nd} {i : Nat} {pre post : List Nat} (he : (N i).el = lstD pre) (hy : (N i).yo = hdD post) (j : Nat) : (unlN N i j).el = if (j : Int) = hdD post then lstD pre else (N j).el := by
  unfold unlN unl2 unl1
  rw [he, hy]
  have hN : ∀ x : Int, ((if lstD pre = -1 then N else setYoN N (lstD pre).toNat x) j).el = (N j).el := by
    intro x
    by_cases h : lstD pre = -1
    · rw [if_pos h]
    · rw [if_neg h, setYoN_el]
  cases post with
  | nil =>
    rw [if_pos (show hdD [] = -1 from rfl), if_neg (show ¬ (j : Int) = hdD [] from by simp [hdD])]
    exact hN _
  | cons q r =>
    rw [if_neg (show ¬ hdD (q :: r) = -1 from by show ¬ (q : Int) = -1; omega), setElN_el]
    have hq : (hdD (q :: r)).toNat = q := rfl
    rw [hq]
    by_cases e : j = q
    · rw [if_pos e, if_pos (show (j : Int) = hdD (q :: r) from by rw [e]; rfl)]
    · rw [if_neg e, if_neg (show ¬ (j : Int) = hdD (q :: r) from fun h => e (Int.ofNat.inj h))]
      exact hN _

theorem unl_yo {N : Nat → Nd} {i : Nat} {pre post : List Nat} (he : (N i).el = lstD pre) (hy : (N i).yo = hdD post) (j : Nat) : (unlN N i j).yo = if (j : Int) = lstD pre then hdD post else (N j).yo := by
  unfold unlN unl2 unl1
  rw [he, hy]
  have key : ((if lstD pre = -1 then N else setYoN N (lstD pre).toNat (hdD post)) j).yo = if (j : Int) = lstD pre then hdD post else (N j).yo := by
    rcases nil_or_snoc pre with rfl | ⟨pre', p, rfl⟩
    · rw [if_pos (show lstD [] = -1 from rfl), if_neg (show ¬ (j : Int) = lstD [] from by rw [lstD_nil]; omega)]
    · rw [lstD_snoc, if_neg (by omega), setYoN_yo, Int.toNat_natCast]
      by_cases e : j = p
      · rw [if_pos e, if_pos (by rw [e])]
      · rw [if_neg e, if_neg (by omega)]
  by_cases h : hdD post = -1
  · rw [if_pos h, key]
  · rw [if_neg h, setElN_yo, key]

theorem app_split {α : Type} {pre' post' pre post : List α} {j : α} (h : pre ++ post = pre' ++ j :: post') :
    (∃ a, pre = pre' ++ j :: a ∧ post' = a ++ post) ∨ (∃ c, pre' = pre ++ c ∧ post = c ++ j :: post') := by
  rcases List.append_eq_append_iff.1 h with ⟨a, h1, h2⟩ | ⟨a, h1, h2⟩
  · exact .inr ⟨a, h1, h2⟩
  · cases a with
    | nil =>
      simp at h1 h2
      exact .inr ⟨[], by simp [h1], by simp [h2]⟩
    | cons b a =>
      simp at h2
      obtain ⟨rfl, h2⟩ := h2
      exact .inl ⟨a, h1, h2⟩

theorem Chain.unlink {pre post : List Nat} {i : Nat} {N : Nat → Nd} {e y : Int} (h : Chain (pre ++ i :: post) N e y) :
    Chain (pre ++ post) (unlN N i) (if (N i).el = -1 then (N i).yo else e) (if (N i).yo = -1 then (N i).el else y) := by
  obtain ⟨he, hy⟩ := h.at_ pre i post rfl
  have hnd := h.nd
  have hnd2 : (pre ++ post).Nodup := by
    have : (pre ++ post).Sublist (pre ++ i :: post) := (List.Sublist.refl _).append (List.sublist_cons_self _ _)
    exact hnd.sublist this
  have hdis : ∀ x ∈ pre, x ∉ post := by
    intro x hx hx2
    exact (List.nodup_append.1 hnd2).2.2 x hx x hx2 rfl
  refine ⟨hnd2, ?_, ?_, ?_⟩
  · rw [he, hy, h.e_]
    rcases nil_or_snoc pre with rfl | ⟨pre', p, rfl⟩
    · simp [lstD_nil]
    · rw [lstD_snoc, if_neg (by omega)]
      cases pre' <;> simp [hdD]
  · rw [he, hy, h.y_]
    cases post with
    | nil => simp [hdD]
    | cons q r =>
      rw [if_neg (show ¬ hdD (q :: r) = -1 from by show ¬ (q : Int) = -1; omega), lstD_app, lstD_app]
      show lstD ([i] ++ q :: r) = _
      rw [lstD_app]
  · intro pre' j post' hs
    rw [unl_el he hy, unl_yo he hy]
    rcases app_split hs with ⟨a, rfl, rfl⟩ | ⟨c, rfl, rfl⟩
    · have ho := h.at_ pre' j (a ++ i :: post) (by simp)
      have hj : j ∉ post := hdis j (by simp)
      have h1 : ¬ (j : Int) = hdD post := by
        cases post with
        | nil => simp [hdD]
        | cons q r =>
          simp only [hdD, Int.natCast_inj]
          intro e
          exact hj (by simp [e])
      rw [if_neg h1]
      refine ⟨ho.1, ?_⟩
      cases a with
      | nil =>
        rw [lstD_snoc, if_pos rfl]
        simp
      | cons b a =>
        have h2 : ¬ (j : Int) = lstD (pre' ++ j :: b :: a) := by
          rw [lstD_app]
          show ¬ (j : Int) = lstD ([j] ++ b :: a)
          rw [lstD_app]
          intro e
          have hja : j ∉ b :: a := by
            have h3 : (pre' ++ j :: b :: a).Nodup := (List.nodup_append.1 hnd2).1
            have h4 := (List.nodup_append.1 h3).2.1
            exact (List.nodup_cons.1 h4).1
          rcases nil_or_snoc (b :: a) with h5 | ⟨l', x, h5⟩
          · simp at h5
          · rw [h5, lstD_snoc] at e
            have e' : j = x := by omega
            exact hja (by rw [h5, e']; simp)
        rw [if_neg h2, ho.2]
        rfl
    · have ho := h.at_ (pre ++ i :: c) j post' (by simp)
      have hj : j ∉ pre := fun hx => hdis j hx (by simp)
      have h1 : ¬ (j : Int) = lstD pre := by
        rcases nil_or_snoc pre with rfl | ⟨l', x, rfl⟩
        · rw [lstD_nil]; omega
        · rw [lstD_snoc]
          intro e
          exact hj (by simp; omega)
      rw [if_neg h1]
      refine ⟨?_, ho.2⟩
      cases c with
      | nil => simp [hdD]
      | cons b c =>
        have h2 : ¬ (j : Int) = hdD ((b :: c) ++ j :: post') := by
          rw [hdD_app]
          intro e
          have e' : j = b := by omega
          have h3 := (List.nodup_append.1 hnd2).2.1
          subst e'
          exact (List.nodup_cons.1 h3).1 (by simp)
        rw [if_neg h2, ho.1, lstD_app, lstD_app]
        show lstD ([i] ++ b :: c) = _
        rw [lstD_app]

theorem Chain.link {ord : List Nat} {i : Nat} {N : Nat → Nd} {e y : Int} (h : Chain ord N e y) (hi : i ∉ ord) : Chain (ord ++ [i]) (lnkN N i y) (if y = -1 then (i : Int) else e) i := by
  have hy := h.y_
  have hnd : (ord ++ [i]).Nodup := by
    rw [List.nodup_append]
    exact ⟨h.nd, by simp, fun a ha b hb => by simp at hb; subst hb; exact fun e => hi (e ▸ ha)⟩
  have hyi : ¬ (i : Int) = y := by
    rw [hy]
    rcases nil_or_snoc ord with rfl | ⟨l', x, rfl⟩
    · rw [lstD_nil]; omega
    · rw [lstD_snoc]
      intro e
      exact hi (by simp; omega)
  have el : ∀ j, (lnkN N i y j).el = if j = i then y else (N j).el := by
    intro j
    unfold lnkN
    split <;> simp [setYoN_el, setElN_el]
  have yo : ∀ j, (lnkN N i y j).yo = if (j : Int) = y then (i : Int) else if j = i then -1 else (N j).yo := by
    intro j
    unfold lnkN
    by_cases h1 : y = -1
    · have : ¬ (j : Int) = -1 := by omega
      rw [if_pos h1, setYoN_yo, setElN_yo, h1, if_neg this]
    · rw [if_neg h1, setYoN_yo, setYoN_yo, setElN_yo]
      have h2 : (j = y.toNat) ↔ ((j : Int) = y) := by
        rw [hy] at h1 ⊢
        rcases nil_or_snoc ord with rfl | ⟨l', x, rfl⟩
        · exact absurd lstD_nil h1
        · rw [lstD_snoc]; omega
      simp only [h2]
  refine ⟨hnd, ?_, by rw [lstD_snoc], ?_⟩
  · rw [h.e_, hy]
    rcases nil_or_snoc ord with rfl | ⟨l', x, rfl⟩
    · simp [lstD_nil, hdD]
    · rw [lstD_snoc, if_neg (by omega)]
      cases l' <;> simp [hdD]
  · intro pre j post hs
    rw [el, yo]
    rcases app_split hs with ⟨a, rfl, rfl⟩ | ⟨c, rfl, hc⟩
    · have hj : ¬ j = i := fun e => hi (by simp [e])
      have ho := h.at_ pre j a rfl
      rw [if_neg hj, if_neg hj]
      refine ⟨ho.1, ?_⟩
      cases a with
      | nil =>
        have : (j : Int) = y := by rw [hy, lstD_snoc]
        rw [if_pos this]
        rfl
      | cons b a =>
        have : ¬ (j : Int) = y := by
          rw [hy, lstD_app]
          show ¬ (j : Int) = lstD ([j] ++ b :: a)
          rw [lstD_app]
          intro e
          have h3 := (List.nodup_append.1 h.nd).2.1
          have hja := (List.nodup_cons.1 h3).1
          rcases nil_or_snoc (b :: a) with h5 | ⟨l', x, h5⟩
          · simp at h5
          · rw [h5, lstD_snoc] at e
            have e' : j = x := by omega
            exact hja (by rw [h5, e']; simp)
        rw [if_neg this, ho.2]
        rfl
    · cases c with
      | nil =>
        simp at hc
        obtain ⟨rfl, rfl⟩ := hc
        rw [if_neg hyi, if_pos rfl, if_pos rfl, hy]
        simp [hdD]
      | cons b c =>
        simp at hc

end Go.Proofs.Ytjfpbhdcbjaahaa
