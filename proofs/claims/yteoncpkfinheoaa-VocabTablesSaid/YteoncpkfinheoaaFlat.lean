/- Slices of elements of several cells, read and made. Plain lemmas over any program. -/
import Derived.Test.YteoncpkfinheoaaLib
namespace Go.Proofs.Yteoncpkfinheoaa
open Go.RowKit
set_option linter.unusedVariables false

/-- The slice value `.slice ao n cap` reads, in w, as the cells xs, s cells an element. -/
structure SlF (s : Nat) (w : World) (ao : Option Addr) (n cap : Nat) (xs : List Value) : Prop where
  len : xs.length = n * s
  le : n ≤ cap
  max : cap ≤ maxLen
  nil : ao = .none → cap = 0
  at_ : ∀ i u, xs[i]? = some u → ∃ b o, ao = some ⟨b, o, .none⟩ ∧ w.cell? ⟨b, o + i, .none⟩ = some u

theorem SlF.stay {s : Nat} {w w' : World} {ao : Option Addr} {n cap : Nat} {xs : List Value} (h : SlF s w ao n cap xs) (hc : ∀ p u, w.cell? p = some u → w'.cell? p = some u) : SlF s w' ao n cap xs :=
  ⟨h.len, h.le, h.max, h.nil, fun i u hu => let ⟨b, o, e, c⟩ := h.at_ i u hu; ⟨b, o, e, hc _ _ c⟩⟩
theorem SlF.below {s : Nat} {w w' : World} {ao : Option Addr} {n cap : Nat} {xs : List Value} (h : SlF s w ao n cap xs) (hb : Below w.heap.size w w') : SlF s w' ao n cap xs := h.stay (cell_below hb)
theorem SlF.alloc {s : Nat} {w : World} {ao : Option Addr} {n cap : Nat} {xs : List Value} (h : SlF s w ao n cap xs) (o : Obj) : SlF s (w.alloc o) ao n cap xs := h.below (below_alloc w o)
theorem SlF.drewN {s : Nat} {w : World} {ao : Option Addr} {n cap : Nat} {xs : List Value} (h : SlF s w ao n cap xs) (k : Nat) : SlF s (w.drewN k) ao n cap xs := h.stay fun _ _ h => h
theorem SlF.drew {s : Nat} {w : World} {ao : Option Addr} {n cap : Nat} {xs : List Value} (h : SlF s w ao n cap xs) : SlF s w.drew ao n cap xs := h.stay fun _ _ h => h
theorem SlF.keep0 {s : Nat} {w w' : World} {ao : Option Addr} {n cap : Nat} {xs : List Value} (h : SlF s w ao n cap xs) (hb : ∀ ad, ao = some ad → 0 < n → w'.heap[ad.block]? = w.heap[ad.block]?) : SlF s w' ao n cap xs :=
  ⟨h.len, h.le, h.max, h.nil, fun i u hu => let ⟨b, o, e, c⟩ := h.at_ i u hu; ⟨b, o, e, by
    have hl := h.len
    have h1 := (List.getElem?_eq_some_iff.1 hu).1
    have h0 : 0 < n := by
      rcases Nat.eq_zero_or_pos n with h' | h'
      · subst h'; rw [Nat.zero_mul] at hl; omega
      · exact h'
    rw [World.cell?_of_block (w := w) (a := ⟨b, o + i, .none⟩) (hb ⟨b, o, .none⟩ e h0)]; exact c⟩⟩
theorem SlF.lt {s : Nat} {w : World} {ao : Option Addr} {n cap : Nat} {xs : List Value} (h : SlF s w ao n cap xs) (h0 : 0 < s) : ∀ ad, ao = some ad → 0 < n → ad.block < w.heap.size := by
  intro ad e hn
  have hl := h.len
  have hp : 0 < xs.length := by rw [hl]; exact Nat.mul_pos hn h0
  obtain ⟨b, o, e', hc⟩ := h.at_ 0 _ (List.getElem?_eq_getElem hp)
  rw [e] at e'
  cases e'
  exact World.block_lt_of_cell? w _ hc
theorem SlF.nothing {s : Nat} (w : World) : SlF s w .none 0 0 [] := ⟨by simp, Nat.le_refl _, by unfold maxLen; omega, fun _ => rfl, fun _ _ h => by simp at h⟩

theorem SlF.drop {s : Nat} {w : World} {ao : Option Addr} {n cap : Nat} {xs : List Value} (h : SlF s w ao n cap xs) {k : Nat} (hk : k ≤ n) :
    SlF s w (if cap = k then ao else ao.map (·.add (k * s))) (n - k) (cap - k) (xs.drop (k * s)) := by
  have hl := h.len
  have := h.le
  have := h.max
  refine ⟨by rw [List.length_drop, hl, Nat.sub_mul], by omega, by omega, ?_, fun i u hu => ?_⟩
  · intro e
    split at e
    · omega
    · simp at e
      have := h.nil e
      omega
  · rw [List.getElem?_drop] at hu
    obtain ⟨b, o, e, hc⟩ := h.at_ _ _ hu
    have h1 : k * s + i < n * s := by have := (List.getElem?_eq_some_iff.1 hu).1; omega
    have h2 : k < n := by
      rcases Nat.lt_or_ge k n with h' | h'
      · exact h'
      · have := Nat.mul_le_mul_right s h'; omega
    rw [if_neg (by omega), e]
    exact ⟨b, o + k * s, by simp [Addr.add_lit], by rw [← hc, Nat.add_assoc]⟩

theorem SlF.of_own {s : Nat} {w : World} {base : Nat} {e : TypeId} {v : Value} {n : Nat} {xs : List Value} (h : w.ownsRow base e s v n xs) : ∃ ao cap, v = .slice ao n cap ∧ SlF s w ao n cap xs := by
  have hcell := fun (g : Nat) (hg : v.ownBlock = some g) => h.cells hg
  obtain ⟨h1, h2⟩ := h
  rcases h2 with ⟨rfl, rfl⟩ | ⟨g, cap, cur, rfl, hg, hh, hn, hm, hs, ht⟩
  · have : xs = [] := List.eq_nil_of_length_eq_zero (by simpa using h1)
    subst this
    exact ⟨_, _, rfl, SlF.nothing _⟩
  · refine ⟨_, _, rfl, ⟨by simpa using h1, hn, hm, by simp, fun i u hu => ⟨g, 0, rfl, ?_⟩⟩⟩
    have := hcell g rfl i u hu
    rw [Addr.add_lit] at this
    simpa using this

section
variable {α : Type} {enc : α → List Value} {s : Nat}

/-- Elements as cells, one behind the other. -/
def flat (enc : α → List Value) (L : List α) : List Value := L.flatMap enc

theorem flat_nil : flat enc [] = [] := rfl
theorem flat_cons (x : α) (L : List α) : flat enc (x :: L) = enc x ++ flat enc L := by simp [flat]
theorem flat_append (L M : List α) : flat enc (L ++ M) = flat enc L ++ flat enc M := by simp [flat]
theorem flat_one (x : α) : flat enc [x] = enc x := by simp [flat]
theorem flat_len (hs : ∀ x, (enc x).length = s) (L : List α) : (flat enc L).length = L.length * s := by
  induction L with
  | nil => simp [flat]
  | cons x L ih => rw [flat_cons, List.length_append, ih, hs, List.length_cons, Nat.add_mul]; omega
theorem flat_at (hs : ∀ x, (enc x).length = s) : ∀ {L : List α} {k j : Nat} {x : α}, L[k]? = some x → j < s → (flat enc L)[k * s + j]? = (enc x)[j]?
  | [], k, j, x, h, _ => by simp at h
  | y :: L, 0, j, x, h, hj => by
    simp at h
    subst h
    rw [flat_cons, List.getElem?_append_left (by rw [hs]; omega)]
    simp
  | y :: L, k + 1, j, x, h, hj => by
    rw [flat_cons, List.getElem?_append_right (by rw [hs, Nat.add_mul]; omega), hs]
    have := flat_at hs (L := L) (k := k) (j := j) (x := x) (by simpa using h) hj
    rw [← this]
    congr 1
    rw [Nat.add_mul]
    omega
theorem flat_drop (hs : ∀ x, (enc x).length = s) : ∀ (L : List α) (k : Nat), flat enc (L.drop k) = (flat enc L).drop (k * s)
  | [], k => by simp [flat]
  | y :: L, 0 => by simp
  | y :: L, k + 1 => by
    rw [flat_cons, List.drop_succ_cons, flat_drop hs L k]
    have e : (k + 1) * s = (enc y).length + k * s := by rw [hs, Nat.add_mul]; omega
    rw [e, ← List.drop_drop, List.drop_left]

/-- The cells of element k. -/
theorem SlF.elem {w : World} {ao : Option Addr} {n cap : Nat} {L : List α} (h : SlF s w ao n cap (flat enc L)) (hs : ∀ x, (enc x).length = s) (h0 : 0 < s) {k : Nat} {x : α} (hk : L[k]? = some x) :
    ∃ b o, ao = some ⟨b, o, .none⟩ ∧ ∀ j u, (enc x)[j]? = some u → w.cell? ⟨b, o + k * s + j, .none⟩ = some u := by
  have hu0 : ∃ u, (enc x)[0]? = some u := ⟨(enc x)[0]'(by rw [hs]; exact h0), List.getElem?_eq_getElem _⟩
  obtain ⟨u0, hu0⟩ := hu0
  obtain ⟨b, o, e, _⟩ := h.at_ (k * s + 0) u0 (by rw [flat_at hs hk h0]; exact hu0)
  refine ⟨b, o, e, fun j u hu => ?_⟩
  have hj : j < s := by have := (List.getElem?_eq_some_iff.1 hu).1; rw [hs] at this; exact this
  obtain ⟨b', o', e', hc⟩ := h.at_ (k * s + j) u (by rw [flat_at hs hk hj]; exact hu)
  rw [e] at e'
  simp at e'
  obtain ⟨rfl, rfl⟩ := e'
  rw [Nat.add_assoc]
  exact hc

theorem SlF.count {w : World} {ao : Option Addr} {n cap : Nat} {L : List α} (h : SlF s w ao n cap (flat enc L)) (hs : ∀ x, (enc x).length = s) (h0 : 0 < s) : L.length = n := by
  have := h.len
  rw [flat_len hs] at this
  exact Nat.eq_of_mul_eq_mul_right h0 this

/-- A row of such elements that the call made. -/
def OwnF (enc : α → List Value) (s : Nat) (e : TypeId) (w : World) (base : Nat) (v : Value) (L : List α) : Prop := w.ownsRow base e s v L.length (flat enc L)

variable {e : TypeId}
theorem OwnF.sl {w : World} {base : Nat} {v : Value} {L : List α} (h : OwnF enc s e w base v L) : ∃ ao cap, v = .slice ao L.length cap ∧ SlF s w ao L.length cap (flat enc L) := SlF.of_own h
theorem OwnF.nil (w : World) (base : Nat) : OwnF enc s e w base (.slice .none 0 0) [] := World.ownsRow_nil _ _ _ _
theorem OwnF.made0 (w : World) : OwnF enc s e (w.alloc (.cells #[] e)) w.heap.size (.slice (some ⟨w.heap.size, 0, .none⟩) 0 0) [] :=
  World.ownsRow_made w #[] 0 (Nat.le_refl _) (by unfold maxLen; omega) (by simp)
theorem OwnF.alloc {w : World} {base : Nat} {v : Value} {L : List α} (h : OwnF enc s e w base v L) (o : Obj) : OwnF enc s e (w.alloc o) base v L := World.ownsRow.alloc h o
theorem OwnF.mono {w : World} {base base' : Nat} {v : Value} {L : List α} (h : OwnF enc s e w base v L) (hb : base' ≤ base) : OwnF enc s e w base' v L := by
  obtain ⟨h1, h2⟩ := h
  refine ⟨h1, ?_⟩
  rcases h2 with h2 | ⟨g, cap, cur, hv, hg, r⟩
  · exact .inl h2
  · exact .inr ⟨g, cap, cur, hv, by omega, r⟩
theorem OwnF.below {w w' : World} {base : Nat} {v : Value} {L : List α} (h : OwnF enc s e w base v L) (hb : Below w.heap.size w w') : OwnF enc s e w' base v L := by
  have hlt := World.ownsRow.lt h
  obtain ⟨h1, h2⟩ := h
  refine ⟨h1, ?_⟩
  rcases h2 with h2 | ⟨g, cap, cur, hv, hg, hh, r⟩
  · exact .inl h2
  · exact .inr ⟨g, cap, cur, hv, hg, by rw [hb.block g (hlt g (by rw [hv]; rfl)).2]; exact hh, r⟩
theorem OwnF.drewN {w : World} {base : Nat} {v : Value} {L : List α} (h : OwnF enc s e w base v L) (k : Nat) : OwnF enc s e (w.drewN k) base v L := h.below (below_drewN (Below.refl _ _) k)

/-- One element in a new block. -/
theorem SlF.one (hs : ∀ x, (enc x).length = s) (w : World) (x : α) (t : TypeId) {cs : Array Value} (hcs : cs.toList = enc x) : SlF s (w.alloc (.cells cs t)) (some ⟨w.heap.size, 0, .none⟩) 1 1 (flat enc [x]) := by
  refine ⟨by rw [flat_one, hs, Nat.one_mul], Nat.le_refl _, by unfold maxLen; omega, by simp, fun i u hu => ⟨_, _, rfl, ?_⟩⟩
  rw [flat_one, ← hcs] at hu
  simp
  simpa using hu

/-- append onto a row of the call's own. -/
theorem wpList_flat_app {P : Program} {w : World} {ops : Array Oper} {rest : List Oper} {o : Oper} {a : Act} {Q : Exit → Act → World → Prop} (hgd : o.guard = .none) (y x : Operand) (t : TypeId)
    (ho : o.op = .call { callee := .builtin .append, args := #[y, x], argTypes := #[t, t] })
    {base : Nat} (i : TypeInfo) (z : Value) (bytes : Nat) (ht : P.underlying t = some (.slice e)) (hi : P.info? e = some i) (hz : i.zero = some z)
    (hsize : i.size = s) (hby : i.bytes = bytes) (hzs : z.cells.size = s) (hs : ∀ x, (enc x).length = s) (h0 : 0 < s) (hone : ∀ x, ∀ u ∈ enc x, u.oneCell' = true)
    {v : Value} {L M : List α} (hy : a.eval y = v) (hown : OwnF enc s e w base v L)
    {ao : Option Addr} {m c : Nat} (hx : a.eval x = .slice ao m c) (hl : SlF s w ao m c (flat enc M))
    (h63 : L.length + m ≤ maxLen) (hbytes : (L.length + m) * bytes ≤ 140737488355328) (hbase : base ≤ w.heap.size)
    (h : ∀ v' w', OwnF enc s e w' base v' (L ++ M) → w.grownBy w' v.ownBlock → Below base w w' → wpList P ops Q rest (a.put o.dst v') w') : wpList P ops Q (o :: rest) a w := by
  have hM := hl.count hs h0
  have hlt := World.ownsRow.lt hown
  have fin : ∀ v' w', w'.ownsRow base e s v' (L.length + m) (flat enc L ++ flat enc M) → w.grownBy w' v.ownBlock → wpList P ops Q rest (a.put o.dst v') w' := fun v' w' h1 h2 =>
    h v' w' (by unfold OwnF; rw [List.length_append, hM, flat_append]; exact h1) h2 ((Below.refl _ _).grown h2 hbase fun k hk => (hlt k hk).1)
  cases ao with
  | none =>
    have hc := hl.nil rfl
    have hm : m = 0 := by have := hl.le; omega
    subst hc hm
    have hn : M = [] := List.eq_nil_of_length_eq_zero hM
    subst hn
    refine wpList_append_own_none hgd y x t ho base e i s ht hi v L.length _ hy hown hx ?_
    exact fin v w (by rw [flat_nil, List.append_nil]; exact hown) (World.grownBy.refl _ _)
  | some ad =>
    refine wpList_append_own _ hgd y x t ho base e i z s bytes ht hi hz hsize hby hzs h0 v L.length _ hy hown ad m c (flat enc M) hx (by rw [flat_len hs, hM]) ?_ ?_ h63 hbytes hbase (fun v' w' h1 h2 _ => fin v' w' h1 h2)
    · intro j u hu
      obtain ⟨b, of, e, hc⟩ := hl.at_ j u hu
      obtain rfl := Option.some.inj e
      rw [Addr.add_lit]; exact hc
    · intro u hu
      obtain ⟨q, _, hq⟩ := List.mem_flatMap.1 hu
      exact hone q u hq

/-- 'x[k:]'. -/
theorem wpList_flat_low {P : Program} {w : World} {ops : Array Oper} {rest : List Oper} {o : Oper} {a : Act} {Q : Exit → Act → World → Prop} (hgd : o.guard = .none) (t : TypeId) (x l : Operand)
    (ho : o.op = .slice t x (some l) .none .none) (i : TypeInfo) (ht : P.underlying t = some (.slice e)) (hi : P.info? e = some i) (hsz : i.size = s) (hs : ∀ x, (enc x).length = s)
    {ao : Option Addr} {n cap : Nat} {L : List α} (hx : a.eval x = .slice ao n cap) (hS : SlF s w ao n cap (flat enc L)) {kl : IntKind} {K : Int} {k : Nat} (hl : a.eval l = .int kl K) (hL : K = (k : Int)) (hk : k ≤ n)
    (h : ∀ ao', SlF s w ao' (n - k) (cap - k) (flat enc (L.drop k)) → (∀ ad', ao' = some ad' → ∃ ad, ao = some ad ∧ ad'.block = ad.block) → wpList P ops Q rest (a.put o.dst (.slice ao' (n - k) (cap - k))) w) : wpList P ops Q (o :: rest) a w := by
  subst hL
  refine wpList_val hgd (v := .slice (if cap = k then ao else ao.map (·.add (k * s))) (n - k) (cap - k)) (w' := w) ?_ (h _ (by rw [flat_drop hs]; exact hS.drop hk) (by
    intro ad' e
    split at e
    · exact ⟨ad', e, rfl⟩
    · cases ao with
      | none => simp at e
      | some ad => simp at e; subst e; exact ⟨ad, rfl, by simp [Addr.add]; split <;> rfl⟩))
  have hr := run_sliceAt_lh ht hi w ao n cap (some (.int kl k)) .none k n (fun w => by simp [Instr.sliceBounds, run_sliceBound, hk])
  simp only [execOp, ho, hx, hl, Option.map_some, Option.map_none, Sem.run_bind, hr, Result.andThen_ok, Sem.run_pure, hsz]

end
end Go.Proofs.Yteoncpkfinheoaa
