/- Small words for slices that are read, and for slices that a call has made. Plain lemmas over any program. -/
import Derived.Test.YteoncpkfinheoaaFrame
import Derived.WalkSpells
import Derived.WalkLawsBesides
import Derived.Lib.Hide
import Derived.BigQuiet
import Derived.Deep.QuietTactic
import Derived.Laws.AppendOwnNone
import Derived.Laws.CopyOwn
namespace Go.Proofs.Yteoncpkfinheoaa
open Go.RowKit
set_option linter.unusedVariables false

/-- Element i of a list of integers, behind a name that the walk's rules leave alone. -/
def ix (A : List Int) (i : Nat) : Int := A.getD i 0

theorem ix_eq {A : List Int} {i : Nat} (h : i < A.length) : A[i]? = some (ix A i) := by
  simp [ix, List.getD, h]

/-- The slice value `.slice ao n cap` reads, in w, as the n values vs, one cell each. -/
structure Sl (w : World) (ao : Option Addr) (n cap : Nat) (vs : List Value) : Prop where
  len : vs.length = n
  le : n ≤ cap
  max : cap ≤ maxLen
  nil : ao = none → cap = 0
  at_ : ∀ i u, vs[i]? = some u → ∃ b o, ao = some ⟨b, o, none⟩ ∧ w.cell? ⟨b, o + i, none⟩ = some u

/-- ... as the integers A. -/
def SlI (w : World) (ao : Option Addr) (n cap : Nat) (A : List Int) : Prop := Sl w ao n cap (A.map (.int .i64))

theorem SlI.len {w : World} {ao : Option Addr} {n cap : Nat} {A : List Int} (h : SlI w ao n cap A) : A.length = n := by simpa using Sl.len h

theorem SlI.at_ {w : World} {ao : Option Addr} {n cap : Nat} {A : List Int} (h : SlI w ao n cap A) {i : Nat} (hi : i < n) :
    ∃ b o, ao = some ⟨b, o, none⟩ ∧ w.cell? ⟨b, o + i, none⟩ = some (.int .i64 (ix A i)) :=
  Sl.at_ h i _ (by rw [List.getElem?_map, ix_eq (by rw [h.len]; exact hi)]; rfl)

theorem Sl.stay {w w' : World} {ao : Option Addr} {n cap : Nat} {vs : List Value} (h : Sl w ao n cap vs) (hc : ∀ p u, w.cell? p = some u → w'.cell? p = some u) : Sl w' ao n cap vs :=
  ⟨h.len, h.le, h.max, h.nil, fun i u hu => let ⟨b, o, e, c⟩ := h.at_ i u hu; ⟨b, o, e, hc _ _ c⟩⟩

theorem cell_below {w w' : World} (h : Below w.heap.size w w') : ∀ p u, w.cell? p = some u → w'.cell? p = some u :=
  fun p u hc => (h.cell (World.block_lt_of_cell? w p hc)).trans hc

theorem Sl.below {w w' : World} {ao : Option Addr} {n cap : Nat} {vs : List Value} (h : Sl w ao n cap vs) (hb : Below w.heap.size w w') : Sl w' ao n cap vs := h.stay (cell_below hb)
theorem SlI.below {w w' : World} {ao : Option Addr} {n cap : Nat} {A : List Int} (h : SlI w ao n cap A) (hb : Below w.heap.size w w') : SlI w' ao n cap A := Sl.below h hb
theorem SlI.drewN {w : World} {ao : Option Addr} {n cap : Nat} {A : List Int} (h : SlI w ao n cap A) (k : Nat) : SlI (w.drewN k) ao n cap A := Sl.stay h fun _ _ h => h
theorem SlI.drew {w : World} {ao : Option Addr} {n cap : Nat} {A : List Int} (h : SlI w ao n cap A) : SlI w.drew ao n cap A := Sl.stay h fun _ _ h => h
theorem below_drewN {B : Nat} {a w : World} (h : Below B a w) (n : Nat) : Below B a (w.drewN n) := ⟨h.os, h.tape, h.output, h.size, h.block⟩
theorem below_alloc (w : World) (o : Obj) : Below w.heap.size w (w.alloc o) := (Below.refl _ _).alloc (Nat.le_refl _) o
theorem SlI.alloc {w : World} {ao : Option Addr} {n cap : Nat} {A : List Int} (h : SlI w ao n cap A) (o : Obj) : SlI (w.alloc o) ao n cap A := h.below (below_alloc w o)

theorem Sl.take {w : World} {ao : Option Addr} {n cap : Nat} {vs : List Value} (h : Sl w ao n cap vs) {k : Nat} (hk : k ≤ n) : Sl w ao k cap (vs.take k) := by
  have := h.len
  have := h.le
  refine ⟨by simp; omega, by omega, h.max, h.nil, fun i u hu => h.at_ i u ?_⟩
  rw [List.getElem?_take] at hu
  split at hu <;> simp_all
theorem SlI.take {w : World} {ao : Option Addr} {n cap : Nat} {A : List Int} (h : SlI w ao n cap A) {k : Nat} (hk : k ≤ n) : SlI w ao k cap (A.take k) := by
  unfold SlI
  rw [List.map_take]
  exact Sl.take h hk

theorem Sl.drop {w : World} {ao : Option Addr} {n cap : Nat} {vs : List Value} (h : Sl w ao n cap vs) {k : Nat} (hk : k ≤ n) :
    Sl w (if cap = k then ao else ao.map (·.add k)) (n - k) (cap - k) (vs.drop k) := by
  have := h.len
  have := h.le
  have := h.max
  refine ⟨by simp; omega, by omega, by omega, ?_, fun i u hu => ?_⟩
  · intro e
    split at e
    · omega
    · simp at e
      have := h.nil e
      omega
  · rw [List.getElem?_drop] at hu
    obtain ⟨b, o, e, hc⟩ := h.at_ _ _ hu
    have : k + i < n := by have := (List.getElem?_eq_some_iff.1 hu).1; omega
    rw [if_neg (by omega), e]
    exact ⟨b, o + k, by simp [Addr.add_lit], by rw [← hc, Nat.add_assoc]⟩
theorem SlI.drop {w : World} {ao : Option Addr} {n cap : Nat} {A : List Int} (h : SlI w ao n cap A) {k : Nat} (hk : k ≤ n) :
    SlI w (if cap = k then ao else ao.map (·.add k)) (n - k) (cap - k) (A.drop k) := by
  unfold SlI
  rw [List.map_drop]
  exact Sl.drop h hk

theorem Sl.none {w : World} : Sl w none 0 0 [] := ⟨rfl, Nat.le_refl _, by unfold maxLen; omega, fun _ => rfl, fun _ _ h => by simp at h⟩

/-- What a call owns reads. -/
theorem Sl.of_own {w : World} {base : Nat} {e : TypeId} {v : Value} {n : Nat} {xs : List Value} (h : w.ownsRow base e 1 v n xs) : ∃ ao cap, v = .slice ao n cap ∧ Sl w ao n cap xs := by
  have hcell := fun (g : Nat) (hg : v.ownBlock = some g) => h.cells hg
  obtain ⟨h1, h2⟩ := h
  rcases h2 with ⟨rfl, rfl⟩ | ⟨g, cap, cur, rfl, hg, hh, hn, hm, hs, ht⟩
  · have : xs = [] := List.eq_nil_of_length_eq_zero (by simpa using h1)
    subst this
    exact ⟨_, _, rfl, Sl.none⟩
  · refine ⟨_, _, rfl, ⟨by simpa using h1, hn, hm, by simp, fun i u hu => ⟨g, 0, rfl, ?_⟩⟩⟩
    have := hcell g rfl i u hu
    rw [Addr.add_lit] at this
    simpa using this

/-- A row of integers that the call made. -/
def Own (w : World) (base : Nat) (v : Value) (A : List Int) : Prop := w.ownsRow base 3 1 v A.length (A.map (.int .i64))

theorem Own.sl {w : World} {base : Nat} {v : Value} {A : List Int} (h : Own w base v A) : ∃ ao cap, v = .slice ao A.length cap ∧ SlI w ao A.length cap A := Sl.of_own h

theorem Own.nil (w : World) (base : Nat) : Own w base (.slice none 0 0) [] := World.ownsRow_nil _ _ _ _

theorem Own.mono {w : World} {base base' : Nat} {v : Value} {A : List Int} (h : Own w base v A) (hb : base' ≤ base) : Own w base' v A := by
  obtain ⟨h1, h2⟩ := h
  refine ⟨h1, ?_⟩
  rcases h2 with h2 | ⟨g, cap, cur, hv, hg, r⟩
  · exact .inl h2
  · exact .inr ⟨g, cap, cur, hv, by omega, r⟩

theorem Own.below {w w' : World} {base : Nat} {v : Value} {A : List Int} (h : Own w base v A) (hb : Below w.heap.size w w') : Own w' base v A := by
  have hlt := World.ownsRow.lt h
  obtain ⟨h1, h2⟩ := h
  refine ⟨h1, ?_⟩
  rcases h2 with h2 | ⟨g, cap, cur, hv, hg, hh, r⟩
  · exact .inl h2
  · exact .inr ⟨g, cap, cur, hv, hg, by rw [hb.block g (hlt g (by rw [hv]; rfl)).2]; exact hh, r⟩

/-- append of a slice that reads onto one that the call owns. -/
theorem wpList_app {P : Program} {w : World} {ops : Array Oper} {rest : List Oper} {o : Oper} {a : Act} {Q : Exit → Act → World → Prop} (hgd : o.guard = .none) (s x : Operand) (t : TypeId)
    (ho : o.op = .call { callee := .builtin .append, args := #[s, x], argTypes := #[t, t] })
    (base : Nat) (e : TypeId) (i : TypeInfo) (z : Value) (bytes : Nat) (ht : P.underlying t = some (.slice e)) (hi : P.info? e = some i) (hz : i.zero = some z)
    (hsize : i.size = 1) (hby : i.bytes = bytes) (hzs : z.cells.size = 1)
    (v : Value) (n : Nat) (xs : List Value) (hs : a.eval s = v) (hown : w.ownsRow base e 1 v n xs)
    (ao : Option Addr) (m c : Nat) (news : List Value) (hx : a.eval x = .slice ao m c) (hl : Sl w ao m c news) (h1 : ∀ u ∈ news, u.oneCell' = true)
    (h63 : n + m ≤ maxLen) (hbytes : (n + m) * bytes ≤ 140737488355328) (hbase : base ≤ w.heap.size)
    (h : ∀ v' w', w'.ownsRow base e 1 v' (n + m) (xs ++ news) → w.grownBy w' v.ownBlock → (v' = .slice .none 0 0 ↔ v = .slice .none 0 0 ∧ m = 0) → wpList P ops Q rest (a.put o.dst v') w') : wpList P ops Q (o :: rest) a w := by
  cases ao with
  | none =>
    have hc := hl.nil rfl
    have hm : m = 0 := by have := hl.le; omega
    subst hc hm
    have hn : news = [] := List.eq_nil_of_length_eq_zero hl.len
    subst hn
    refine wpList_append_own_none hgd s x t ho base e i 1 ht hi v n xs hs hown hx ?_
    exact h v w (by simpa using hown) (World.grownBy.refl _ _) (by simp)
  | some ad =>
    refine wpList_append_own _ hgd s x t ho base e i z 1 bytes ht hi hz hsize hby hzs (by decide) v n xs hs hown ad m c news hx (by simpa using hl.len) ?_ h1 h63 hbytes hbase h
    intro j u hu
    obtain ⟨b, of, e, hc⟩ := hl.at_ j u hu
    obtain rfl := Option.some.inj e
    rw [Addr.add_lit]; exact hc

theorem typeInfo_run {P : Program} {t : TypeId} {i : TypeInfo} (h : P.info? t = some i) {w : World} : (typeInfo t).run P w = .ok i w := by
  simp [typeInfo, h]

/-- An operation that is run to a value. -/
theorem wpList_val {P : Program} {w : World} {ops : Array Oper} {rest : List Oper} {o : Oper} {a : Act} {Q : Exit → Act → World → Prop} (hgd : o.guard = .none) {v : Value} {w' : World}
    (hr : (execOp a.eval o).run P w = .ok (.value v) w') (h : wpList P ops Q rest (a.put o.dst v) w') : wpList P ops Q (o :: rest) a w := by
  refine wpList_plain hgd fun K hK => ?_
  unfold Oper.wp
  simp [hr]
  exact hK _ _ h

theorem run_sliceAt_lh {P : Program} {t e : TypeId} {i : TypeInfo} (ht : P.underlying t = some (.slice e)) (hi : P.info? e = some i) (w : World) (ao : Option Addr) (n cap : Nat) (lo hi' : Option Value) (l h : Nat)
    (hb : ∀ w, (Instr.sliceBounds true n cap lo hi' .none).run P w = .ok (l, h, cap) w) :
    (Instr.sliceAt t (.slice ao n cap) lo hi' .none).run P w = .ok (.slice (if cap = l then ao else ao.map (·.add (l * i.size))) (h - l) (cap - l)) w := by
  have e1 : P.elem t = e := by simp [Program.elem, ht]
  have ht' : P.underlying t = some (.slice (P.elem t)) := by rw [e1]; exact ht
  rw [run_sliceAt_slice w t _ _ _ _ ht', run_slice_any w t ao n cap ht', hb, e1]
  simp [Result.andThen, sizeOf, typeInfo_run hi, sliced]

/-- 'x[k:]' of a slice that reads: what comes out reads, at an address of which no more is said. -/
theorem wpList_slice_low {P : Program} {w : World} {ops : Array Oper} {rest : List Oper} {o : Oper} {a : Act} {Q : Exit → Act → World → Prop} (hgd : o.guard = .none) (t : TypeId) (x l : Operand)
    (ho : o.op = .slice t x (some l) .none .none) (e : TypeId) (i : TypeInfo) (ht : P.underlying t = some (.slice e)) (hi : P.info? e = some i) (hsz : i.size = 1)
    (ao : Option Addr) (n cap : Nat) (vs : List Value) (hx : a.eval x = .slice ao n cap) (hS : Sl w ao n cap vs) (kl : IntKind) (L : Int) (k : Nat) (hl : a.eval l = .int kl L) (hL : L = (k : Int)) (hk : k ≤ n)
    (h : ∀ ao', Sl w ao' (n - k) (cap - k) (vs.drop k) → wpList P ops Q rest (a.put o.dst (.slice ao' (n - k) (cap - k))) w) : wpList P ops Q (o :: rest) a w := by
  subst hL
  refine wpList_val hgd (v := .slice (if cap = k then ao else ao.map (·.add k)) (n - k) (cap - k)) (w' := w) ?_ (h _ (hS.drop hk))
  have hr := run_sliceAt_lh ht hi w ao n cap (some (.int kl k)) .none k n (fun w => by simp [Instr.sliceBounds, run_sliceBound, hk])
  simp only [execOp, ho, hx, hl, Option.map_some, Option.map_none, Sem.run_bind, hr, Result.andThen_ok, Sem.run_pure, hsz, Nat.mul_one]

/-- 'x[:k]', up to the length. -/
theorem wpList_slice_high {P : Program} {w : World} {ops : Array Oper} {rest : List Oper} {o : Oper} {a : Act} {Q : Exit → Act → World → Prop} (hgd : o.guard = .none) (t : TypeId) (x l : Operand)
    (ho : o.op = .slice t x .none (some l) .none) (e : TypeId) (i : TypeInfo) (ht : P.underlying t = some (.slice e)) (hi : P.info? e = some i) (hsz : i.size = 1)
    (ao : Option Addr) (n cap : Nat) (vs : List Value) (hx : a.eval x = .slice ao n cap) (hS : Sl w ao n cap vs) (kl : IntKind) (L : Int) (k : Nat) (hl : a.eval l = .int kl L) (hL : L = (k : Int)) (hk : k ≤ n)
    (h : Sl w ao k cap (vs.take k) → wpList P ops Q rest (a.put o.dst (.slice ao k cap)) w) : wpList P ops Q (o :: rest) a w := by
  subst hL
  have hle := hS.le
  refine wpList_val hgd (v := .slice ao k cap) (w' := w) ?_ (h (hS.take hk))
  have hr := run_sliceAt_lh ht hi w ao n cap .none (some (.int kl k)) 0 k (fun w => by simp [Instr.sliceBounds, run_sliceBound, Nat.le_trans hk hle])
  simp only [execOp, ho, hx, hl, Option.map_some, Option.map_none, Sem.run_bind, hr, Result.andThen_ok, Sem.run_pure, hsz, Nat.mul_one]
  congr 3
  cases ao <;> simp [Addr.add]

/-- The same two at integers. -/
theorem wpList_int_low {P : Program} {w : World} {ops : Array Oper} {rest : List Oper} {o : Oper} {a : Act} {Q : Exit → Act → World → Prop} (hgd : o.guard = .none) (t : TypeId) (x l : Operand)
    (ho : o.op = .slice t x (some l) .none .none) (e : TypeId) (i : TypeInfo) (ht : P.underlying t = some (.slice e)) (hi : P.info? e = some i) (hsz : i.size = 1)
    {ao : Option Addr} {n cap : Nat} {A : List Int} (hx : a.eval x = .slice ao n cap) (hS : SlI w ao n cap A) {kl : IntKind} {L : Int} {k : Nat} (hl : a.eval l = .int kl L) (hL : L = (k : Int)) (hk : k ≤ n)
    (h : ∀ ao', SlI w ao' (n - k) (cap - k) (A.drop k) → wpList P ops Q rest (a.put o.dst (.slice ao' (n - k) (cap - k))) w) : wpList P ops Q (o :: rest) a w :=
  wpList_slice_low hgd t x l ho e i ht hi hsz ao n cap _ hx hS kl L k hl hL hk fun ao' h' => h ao' (by unfold SlI; rw [List.map_drop]; exact h')

theorem wpList_int_high {P : Program} {w : World} {ops : Array Oper} {rest : List Oper} {o : Oper} {a : Act} {Q : Exit → Act → World → Prop} (hgd : o.guard = .none) (t : TypeId) (x l : Operand)
    (ho : o.op = .slice t x .none (some l) .none) (e : TypeId) (i : TypeInfo) (ht : P.underlying t = some (.slice e)) (hi : P.info? e = some i) (hsz : i.size = 1)
    {ao : Option Addr} {n cap : Nat} {A : List Int} (hx : a.eval x = .slice ao n cap) (hS : SlI w ao n cap A) {kl : IntKind} {L : Int} {k : Nat} (hl : a.eval l = .int kl L) (hL : L = (k : Int)) (hk : k ≤ n)
    (h : SlI w ao k cap (A.take k) → wpList P ops Q rest (a.put o.dst (.slice ao k cap)) w) : wpList P ops Q (o :: rest) a w :=
  wpList_slice_high hgd t x l ho e i ht hi hsz ao n cap _ hx hS kl L k hl hL hk fun h' => h (by unfold SlI; rw [List.map_take]; exact h')

theorem int_one (A : List Int) : ∀ u ∈ A.map (Value.int .i64), u.oneCell' = true := by
  intro u hu
  obtain ⟨_, _, rfl⟩ := List.mem_map.1 hu
  rfl

theorem wpList_int_app {P : Program} {w : World} {ops : Array Oper} {rest : List Oper} {o : Oper} {a : Act} {Q : Exit → Act → World → Prop} (hgd : o.guard = .none) (s x : Operand) (t : TypeId)
    (ho : o.op = .call { callee := .builtin .append, args := #[s, x], argTypes := #[t, t] })
    {base : Nat} (i : TypeInfo) (ht : P.underlying t = some (.slice 3)) (hi : P.info? 3 = some i) (hz : i.zero = some (.int .i64 0)) (hsize : i.size = 1) (hby : i.bytes = 8)
    {v : Value} {A : List Int} (hs : a.eval s = v) (hown : Own w base v A) {ao : Option Addr} {m c : Nat} {B : List Int} (hx : a.eval x = .slice ao m c) (hl : SlI w ao m c B)
    (hlen : (A.length + m) * 8 ≤ 140737488355328) (hbase : base ≤ w.heap.size)
    (h : ∀ v' w', Own w' base v' (A ++ B) → w.grownBy w' v.ownBlock → Below base w w' → wpList P ops Q rest (a.put o.dst v') w') : wpList P ops Q (o :: rest) a w :=
  wpList_app hgd s x t ho base _ i (.int .i64 0) 8 ht hi hz hsize hby rfl v A.length _ hs hown ao m c _ hx hl (int_one B) (by unfold maxLen; omega) hlen hbase
    fun v' w' h1 h2 _ => h v' w' (by unfold Own; have := hl.len; rw [List.length_append, List.map_append, this]; exact h1) h2
      ((Below.refl _ _).grown h2 hbase fun k hk => (World.ownsRow.lt hown k hk).1)

theorem SlI.one (w : World) (x : Int) (t : TypeId) : SlI (w.alloc (.cells #[.int .i64 x] t)) (some ⟨w.heap.size, 0, .none⟩) 1 1 [x] := by
  refine ⟨rfl, Nat.le_refl _, by unfold maxLen; omega, by simp, fun i u hu => ⟨_, _, rfl, ?_⟩⟩
  match i, hu with
  | 0, hu => simp at hu; subst hu; simp
  | i + 1, hu => simp at hu

theorem take_snoc {A : List Int} {k : Nat} (h : k < A.length) : A.take k ++ [ix A k] = A.take (k + 1) := by
  rw [List.take_add_one, ix_eq h]; rfl

theorem Own.alloc {w : World} {base : Nat} {v : Value} {A : List Int} (h : Own w base v A) (o : Obj) : Own (w.alloc o) base v A := World.ownsRow.alloc h o

/-- 'make([]int, L, C)'. -/
theorem wpList_int_make {P : Program} {w : World} {ops : Array Oper} {rest : List Oper} {o : Oper} {a : Act} {Q : Exit → Act → World → Prop} (hgd : o.guard = .none) (t : TypeId) (l c : Operand)
    (ho : o.op = .makeSlice t l c) (i : TypeInfo) (ht : P.underlying t = some (.slice 3)) (hi : P.info? 3 = some i) (hz : i.zero = some (.int .i64 0)) (hsize : i.size = 1) (hby : i.bytes = 8)
    {kl kc : IntKind} {L C : Int} {n m : Nat} (hl : a.eval l = .int kl L) (hc : a.eval c = .int kc C) (hL : L = (n : Int)) (hC : C = (m : Int)) (hle : n ≤ m) (hb : 8 * m ≤ 281474976710656)
    (h : ∀ w', Own w' w.heap.size (.slice (some ⟨w.heap.size, 0, .none⟩) n m) (List.replicate n 0) → Below w.heap.size w w' → wpList P ops Q rest (a.put o.dst (.slice (some ⟨w.heap.size, 0, .none⟩) n m)) w') : wpList P ops Q (o :: rest) a w := by
  subst hL hC
  have hr := run_make (P := P) w t 3 i (.int .i64 0) ht hi hz kl kc n m (by omega) (by omega) (by rw [hby]; omega) (by omega)
  refine wpList_val hgd (v := .slice (some ⟨w.heap.size, 0, .none⟩) n m) (w' := w.alloc (.cells (madeCells (Value.int .i64 0).cells (m * i.size)) 3)) ?_ (h _ ?_ (below_alloc _ _))
  · simp only [execOp, ho, hl, hc, Sem.run_bind, hr, Result.andThen_ok, Sem.run_pure, Int.toNat_natCast]
  · rw [hsize, Nat.mul_one]
    have e : (madeCells (Value.int .i64 0).cells m) = (List.replicate m (Value.int .i64 0)).toArray := by
      apply Array.ext'
      exact toList_madeCells_one _ m
    rw [e]
    refine ⟨by simp, .inr ⟨w.heap.size, m, _, by simp, Nat.le_refl _, heap_alloc_new w _, by simpa using hle, by unfold maxLen; omega, by simp, ?_⟩⟩
    simp [Nat.min_eq_left hle]

theorem Own.block {w : World} {base : Nat} {vo : Option Addr} {n c : Nat} {A : List Int} (h : Own w base (.slice vo n c) A) :
    A.length = n ∧ (vo = .none ∧ n = 0 ∧ c = 0 ∨ ∃ g cur, vo = some ⟨g, 0, .none⟩ ∧ base ≤ g ∧ w.heap[g]? = some (.cells (cur : List Value).toArray 3 (0, 0)) ∧ n ≤ c ∧ c ≤ maxLen ∧ cur.length = c ∧ cur.take n = A.map (.int .i64)) := by
  obtain ⟨_, h2⟩ := h
  rcases h2 with ⟨hv, hn⟩ | ⟨g, cap, cur, hv, hg, hh, hn, hm, hs, ht⟩
  · simp at hv
    exact ⟨by omega, .inl hv⟩
  · simp at hv
    obtain ⟨rfl, rfl, rfl⟩ := hv
    refine ⟨rfl, .inr ⟨g, cur.toList, rfl, hg, by simpa using hh, hn, hm, by simpa using hs, by simpa using ht⟩⟩

theorem Own.mk {w : World} {base g n c : Nat} {cur : List Value} {A : List Int} (hg : base ≤ g) (hh : w.heap[g]? = some (.cells cur.toArray 3 (0, 0))) (hn : n ≤ c) (hm : c ≤ maxLen) (hc : cur.length = c) (hA : A.length = n)
    (ht : cur.take n = A.map (.int .i64)) : Own w base (.slice (some ⟨g, 0, .none⟩) n c) A := by
  subst hA
  exact ⟨by simp, .inr ⟨g, c, cur.toArray, rfl, hg, hh, hn, hm, by simpa using hc, by simpa using ht⟩⟩

/-- 'copy(dst, src)', dst the call's own. -/
theorem wpList_int_copy {P : Program} {w : World} {ops : Array Oper} {rest : List Oper} {o : Oper} {a : Act} {Q : Exit → Act → World → Prop} (hgd : o.guard = .none) (d s : Operand) (t : TypeId)
    (ho : o.op = .call { callee := .builtin .copy, args := #[d, s], argTypes := #[t, t] }) (i : TypeInfo) (ht : P.underlying t = some (.slice 3)) (hi : P.info? 3 = some i) (hsize : i.size = 1)
    {base : Nat} {vo so : Option Addr} {n c m k : Nat} {A B : List Int} (hd : a.eval d = .slice vo n c) (hown : Own w base (.slice vo n c) A) (hs : a.eval s = .slice so m k) (hS : SlI w so m k B)
    (h : ∀ w', Own w' base (.slice vo n c) (B.take n ++ A.drop m) → Below base w w' → wpList P ops Q rest (a.put o.dst (goInt (Nat.min m n))) w') : wpList P ops Q (o :: rest) a w := by
  have hsz : (P.info? 3).map (·.size) = some 1 := by rw [hi]; simp [hsize]
  have hB := hS.len
  obtain ⟨hA, hcase⟩ := hown.block
  by_cases h0 : Nat.min m n = 0
  · refine wpList_copy_nothing hgd d s t t ho 3 ht hsz vo so n c m k hd hs h0 ?_
    have hfin := fun ho => h w ho (Below.refl _ _)
    rw [h0] at hfin
    refine hfin ?_
    have e : B.take n ++ A.drop m = A := by
      rcases Nat.min_eq_zero_iff.1 h0 with e | e
      · subst e
        have : B = [] := List.eq_nil_of_length_eq_zero hB
        simp [this]
      · subst e
        have : A = [] := List.eq_nil_of_length_eq_zero hA
        simp [this]
    rw [e]
    exact hown
  · rcases hcase with ⟨_, hn, _⟩ | ⟨g, cur, rfl, hg, hh, hnc, hmax, hcl, htk⟩
    · subst hn
      exact absurd (Nat.min_eq_zero_iff.2 (.inr rfl)) h0
    · have hmn : Nat.min m n ≤ n := Nat.min_le_right _ _
      have hmm : Nat.min m n ≤ m := Nat.min_le_left _ _
      have hcs : ((B.map (Value.int .i64)).take n).length = Nat.min m n := by rw [List.length_take, List.length_map, hB]; exact Nat.min_comm _ _
      have key : wpList P ops Q rest (a.put o.dst (goInt ((B.map (Value.int .i64)).take n).length)) = wpList P ops Q rest (a.put o.dst (goInt (Nat.min m n))) := by rw [hcs]
      refine wpList_copy_splice hgd d s t t ho 3 ht hsz (some ⟨g, 0, .none⟩) so n c m k hd hs g 0 cur 3 hh ((B.map (Value.int .i64)).take n) hcs ?_ (by rw [hcs]; omega)
        (fun v hv => int_one B v (List.mem_of_mem_take hv)) base w (Below.refl _ _) hg ?_
      · intro _
        refine ⟨rfl, ?_⟩
        have hpos : 0 < m := by omega
        obtain ⟨b, o', e, _⟩ := hS.at_ hpos
        refine ⟨⟨b, o', .none⟩, e, fun j u hu => ?_⟩
        have hu' : (B.map (Value.int .i64))[j]? = some u := by
          rw [List.getElem?_take] at hu
          split at hu <;> simp_all
        obtain ⟨b2, o2, e2, hc2⟩ := Sl.at_ hS j u hu'
        rw [e] at e2
        simp at e2
        obtain ⟨rfl, rfl⟩ := e2
        rw [Addr.add_lit]
        exact hc2
      · intro w' hw' hb
        rw [hcs]
        refine h w' ?_ hb
        have hl2 : (splice cur 0 ((B.map (Value.int .i64)).take n)).length = c := by rw [length_splice _ _ _ (by rw [hcs]; omega), hcl]
        refine Own.mk hg hw'.out hnc hmax hl2 (by simp [hA, hB]; omega) ?_
        simp only [splice, List.take_zero, List.nil_append, Nat.zero_add, hcs]
        rw [List.map_append, List.map_take, List.map_drop, ← htk]
        by_cases hle : m ≤ n
        · have e1 : Nat.min m n = m := Nat.min_eq_left hle
          rw [e1, List.take_append, List.take_of_length_le (by simp [hB]; omega), List.take_of_length_le (by simp [hB]; omega)]
          simp [hB, List.take_drop, hle]
        · have e1 : Nat.min m n = n := Nat.min_eq_right (by omega)
          rw [e1, List.take_append, List.take_of_length_le (by simp [hB]; omega)]
          have : ((cur.take n).drop m) = [] := by apply List.drop_of_length_le; simp; omega
          simp [this, hB]
          omega

/-- A builtin append whose run is known. -/
theorem wpList_append_run {P : Program} {w : World} {ops : Array Oper} {rest : List Oper} {o : Oper} {a : Act} {Q : Exit → Act → World → Prop} (hgd : o.guard = .none) (s x : Operand) (t u : TypeId)
    (ho : o.op = .call { callee := .builtin .append, args := #[s, x], argTypes := #[t, u] }) {v1 v2 v : Value} {w' : World} (hs : a.eval s = v1) (hx : a.eval x = v2)
    (hr : ∀ ty, (Builtin.append_ #[t, u] ty #[v1, v2]).run P w = .ok v w') (h : wpList P ops Q rest (a.put o.dst v) w') : wpList P ops Q (o :: rest) a w := by
  refine wpList_plain hgd fun K hK => ?_
  unfold Oper.wp
  simp [execOp, ho, resolve, invoke, builtin, hs, hx, hr, Result.andThen]
  exact hK _ _ h

/-- Row i of a list of rows, behind a name. -/
def rx (R : List (List Int)) (i : Nat) : List Int := R.getD i []
theorem rx_eq {R : List (List Int)} {i : Nat} (h : i < R.length) : R[i]? = some (rx R i) := by
  simp [rx, List.getD, h]

/-- A slice of slices of integers that reads. -/
structure SlRows (w : World) (ao : Option Addr) (n cap : Nat) (R : List (List Int)) : Prop where
  len : R.length = n
  le : n ≤ cap
  max : cap ≤ maxLen
  nil : ao = none → cap = 0
  at_ : ∀ i, i < n → ∃ b o ra rc, ao = some ⟨b, o, none⟩ ∧ w.cell? ⟨b, o + i, none⟩ = some (.slice ra (rx R i).length rc) ∧ SlI w ra (rx R i).length rc (rx R i)

theorem SlRows.stay {w w' : World} {ao : Option Addr} {n cap : Nat} {R : List (List Int)} (h : SlRows w ao n cap R) (hc : ∀ p u, w.cell? p = some u → w'.cell? p = some u) : SlRows w' ao n cap R :=
  ⟨h.len, h.le, h.max, h.nil, fun i hi => let ⟨b, o, ra, rc, e, c, r⟩ := h.at_ i hi; ⟨b, o, ra, rc, e, hc _ _ c, Sl.stay r hc⟩⟩
theorem SlRows.below {w w' : World} {ao : Option Addr} {n cap : Nat} {R : List (List Int)} (h : SlRows w ao n cap R) (hb : Below w.heap.size w w') : SlRows w' ao n cap R := h.stay (cell_below hb)
theorem SlRows.alloc {w : World} {ao : Option Addr} {n cap : Nat} {R : List (List Int)} (h : SlRows w ao n cap R) (o : Obj) : SlRows (w.alloc o) ao n cap R := h.below (below_alloc w o)

/-- How many numbers the first k rows have. -/
def tot (R : List (List Int)) (k : Nat) : Nat := (R.take k).flatten.length
theorem tot_zero (R : List (List Int)) : tot R 0 = 0 := by simp [tot]
theorem flat_succ {R : List (List Int)} {k : Nat} (h : k < R.length) : (R.take (k + 1)).flatten = (R.take k).flatten ++ rx R k := by
  rw [List.take_add_one, rx_eq h]; simp
theorem tot_succ {R : List (List Int)} {k : Nat} (h : k < R.length) : tot R (k + 1) = tot R k + (rx R k).length := by
  unfold tot; rw [flat_succ h]; simp
theorem tot_le (R : List (List Int)) (k : Nat) : tot R k ≤ R.flatten.length := by
  unfold tot
  have e : R.flatten = (R.take k).flatten ++ (R.drop k).flatten := by rw [← List.flatten_append, List.take_append_drop]
  rw [e, List.length_append]
  exact Nat.le_add_right _ _
theorem tot_all (R : List (List Int)) : tot R R.length = R.flatten.length := by simp [tot]

theorem SlRows.drew {w : World} {ao : Option Addr} {n cap : Nat} {R : List (List Int)} (h : SlRows w ao n cap R) : SlRows w.drew ao n cap R := h.stay fun _ _ h => h

/-- Two rows, one behind the other, in a new block. -/
theorem SlRows.two {w : World} {ao bo : Option Addr} {c d : Nat} {A B : List Int} (hA : SlI w ao A.length c A) (hB : SlI w bo B.length d B) (t : TypeId) (g : Nat) (hg : g = w.heap.size) :
    SlRows (w.alloc (.cells #[.slice ao A.length c, .slice bo B.length d] t)) (some ⟨g, 0, none⟩) 2 2 [A, B] := by
  subst hg
  refine ⟨rfl, Nat.le_refl _, by unfold maxLen; omega, by simp, fun i hi => ?_⟩
  match i, hi with
  | 0, _ => exact ⟨_, _, ao, c, rfl, by simp [rx], hA.alloc _⟩
  | 1, _ => exact ⟨_, _, bo, d, rfl, by simp [rx], hB.alloc _⟩

/-- What four cells hold stays. -/
theorem keep4 {w w' : World} {p1 p2 p3 p4 : Addr} {v1 v2 v3 v4 : Value} (h : w.cell? p1 = some v1 ∧ w.cell? p2 = some v2 ∧ w.cell? p3 = some v3 ∧ w.cell? p4 = some v4) (hb : Below w.heap.size w w') :
    w'.cell? p1 = some v1 ∧ w'.cell? p2 = some v2 ∧ w'.cell? p3 = some v3 ∧ w'.cell? p4 = some v4 :=
  ⟨cell_below hb _ _ h.1, cell_below hb _ _ h.2.1, cell_below hb _ _ h.2.2.1, cell_below hb _ _ h.2.2.2⟩

theorem keep4_set {w : World} {p p1 p2 p3 p4 : Addr} {v v1 v2 v3 v4 : Value} (h : w.cell? p1 = some v1 ∧ w.cell? p2 = some v2 ∧ w.cell? p3 = some v3 ∧ w.cell? p4 = some v4)
    (hp : p1.block < p.block ∧ p2.block < p.block ∧ p3.block < p.block ∧ p4.block < p.block) :
    (w.setCell p v).cell? p1 = some v1 ∧ (w.setCell p v).cell? p2 = some v2 ∧ (w.setCell p v).cell? p3 = some v3 ∧ (w.setCell p v).cell? p4 = some v4 := by
  have e : ∀ q : Addr, q.block < p.block → (w.setCell p v).cell? q = w.cell? q := fun q hq => World.cell?_of_block (w := w) (Below.heap_setCell _ _ _ _ (by omega))
  exact ⟨(e _ hp.1).trans h.1, (e _ hp.2.1).trans h.2.1, (e _ hp.2.2.1).trans h.2.2.1, (e _ hp.2.2.2).trans h.2.2.2⟩

/-- A struct by value, looked into. -/
theorem asAgg_run {P : Program} (cs : Array Value) (w : World) : (asAgg (.agg cs)).run P w = .ok cs w := rfl

end Go.Proofs.Yteoncpkfinheoaa
