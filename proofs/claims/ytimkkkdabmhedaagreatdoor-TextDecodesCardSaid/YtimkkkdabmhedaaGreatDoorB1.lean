/- The frame that is common to all laws: a law's statement follows from its walk. Plain lemmas over any program. -/
import Derived.Test.YtimkkkdabmhedaaGreatDoorRows
import Derived.WalkKit
import Derived.ProofKit
import Derived.OpenShut
import Derived.ShutString
import Derived.ChangeOld
import Derived.Below
import Derived.WalkSpells
import Derived.WalkLawsBesides
import Derived.Lib.Hide
import Derived.BigQuiet
import Derived.Deep.QuietTactic
import Derived.Laws.AppendOwnNone
import Derived.Laws.CopyOwn
import Derived.Maps.OwnOps
import Derived.Maps.OwnSet
import Derived.Maps.Views
namespace Go.Proofs.YtimkkkdabmhedaaGreatDoor.Frame
open Go.ChangeShapes Go.WideShapes Go.ChangeAt Go.RowKit
set_option linter.unusedVariables false

section
variable {H : Type} {enc : TypeId × Value → H} {P : Program}

theorem dataLength {w : World} {base : Nat} {sp : Nat → Bool} {held : Bool} : ∀ {ts : List TypeId} {vs : List Value} {ds : List (DataW H)} {ps : List MemPlace}, DataW.TrodAll enc P w base sp held ts vs ds ps → ds.length = ts.length
  | [], _, _, _, h => by
    obtain ⟨_, rfl, _⟩ := trodAll_nil h
    rfl
  | _ :: _, _, _, _, h => by
    obtain ⟨v, vs1, d, ds1, a, b, rfl, rfl, rfl, _, h2⟩ := trodAll_cons h
    have := dataLength h2
    simp [this]

theorem trodAll_lt {W : World} {b : Nat} {sp : Nat → Bool} {held : Bool} : ∀ {ts : List TypeId} {vs : List Value} {ds : List (DataW H)} {ps : List MemPlace},
    DataW.TrodAll enc P W b sp held ts vs ds ps → ∀ x ∈ ps, x.block < W.heap.size := by
  intro ts vs ds ps h
  exact DataW.TrodAll.lt h

theorem below_trodAll (hl : laidOutB P = true) {W W' : World} (hb : Below W.heap.size W W') : ∀ {ts : List TypeId} {vs : List Value} {ds : List (DataW H)} {ps : List MemPlace},
    (∀ t ∈ ts, P.readableRec t = true ∧ t < P.types.size) → DataW.TrodAll enc P W 0 (fun _ => true) true ts vs ds ps → (∀ x ∈ ps, x.block < W.heap.size) →
    DataW.TrodAll enc P W' 0 (fun b => decide (b < W.heap.size)) true ts vs ds ps := by
  intro ts
  induction ts with
  | nil =>
    intro vs ds ps _ h _
    cases vs <;> cases ds <;> simp_all [DataW.TrodAll]
  | cons t ts ih =>
    intro vs ds ps ht h hlt
    obtain ⟨v, vs', d, ds', p, q, rfl, rfl, rfl, h0, h1⟩ := trodAll_cons h
    exact trodAll_cons_mk (Below.trod hl (ht t (by simp)).1 (ht t (by simp)).2 h0 hb (fun x hx => hlt x (by simp [hx])))
      (ih (fun t' h' => ht t' (by simp [h'])) h1 (fun x hx => hlt x (by simp [hx])))

/-- What a law's walk gives: true; nothing that was there has turned. -/
def Law (P : Program) (f : FuncId) (args : Array Value) (W : World) : Prop :=
  Calls P f args W fun e W' => e = .returned (.bool true) ∧ Below W.heap.size W W'

theorem law_post {fn : Func} {s : ChangeSpec} {tb : TypeId} (hl : laidOutB P = true) (hp : ∀ t ∈ fn.params.toList, P.readableRec t = true ∧ t < P.types.size)
    (hr : fn.resultTypes = #[tb]) (hb : P.underlying tb = some .bool) (hv : s.vars = [])
    (hs : ∀ ds : List (DataW H), ds.length = fn.params.size → s.fn H ds = { results := [.lit (.bool true)], args := ds })
    {f : FuncId} {W : World} {args : Array Value} {ds gs : List (DataW H)} {before : List MemPlace} (hW : DataW.Whole enc P fn.params.toList s.vars false W args.toList ds gs before)
    (walk : Law P f args W) : Calls P f args W fun e W' => ∃ v, e = .returned v ∧ s.post enc P fn false true false false W args v W' := by
  have hW' := hW
  obtain ⟨p, q, hA, hV, rfl, hfz, hnd⟩ := hW
  rw [hv] at hV
  obtain ⟨rfl, rfl⟩ := trodVars_none hV
  have hlen : ds.length = fn.params.size := by
    have := dataLength hA
    simpa using this
  refine Calls.mono walk fun e W' ⟨he, bel⟩ => ?_
  subst he
  have e1 : s.fn H (ds ++ []) = { results := [.lit (.bool true)], args := ds } := by rw [List.append_nil]; exact hs ds hlen
  refine ⟨_, rfl, ds, [], _, [], p, [], hW', ?_, ?_, ?_, bel.frame _, fun h => by cases h⟩
  · rw [e1, hr]; exact trodAll_mk1 (shut_bool hb _)
  · rw [e1]; exact below_trodAll hl bel hp hA (trodAll_lt hA)
  · rw [e1, hv]; rfl

end
end Go.Proofs.YtimkkkdabmhedaaGreatDoor.Frame

/- Small words for slices that are read, and for slices that a call has made. Plain lemmas over any program. -/
namespace Go.Proofs.YtimkkkdabmhedaaGreatDoor
open Go.RowKit
set_option linter.unusedVariables false

/-- Element i of a list of integers, behind a name that the walk's rules leave alone. -/
def ix (A : List Int) (i : Nat) : Int := A.getD i 0

theorem ix_eq {A : List Int} {i : Nat} (h : i < A.length) : A[i]? = some (ix A i) := by
  simp [ix, List.getD, h]

/-- The slice value `.slice ao n cap` reads, in w, as the n values vs, one cell each. -/
structure Sl (w : World) (ao : Option Addr) (n cap : Nat) (vs : List Value) : Prop where
  len : vs.length = n
  le : n ≤ cap
  max : cap ≤ maxLen
  nil : ao = none → cap = 0
  at_ : ∀ i u, vs[i]? = some u → ∃ b o, ao = some ⟨b, o, none⟩ ∧ w.cell? ⟨b, o + i, none⟩ = some u

/-- ... as the integers A. -/
def SlI (w : World) (ao : Option Addr) (n cap : Nat) (A : List Int) : Prop := Sl w ao n cap (A.map (.int .i64))

theorem SlI.len {w : World} {ao : Option Addr} {n cap : Nat} {A : List Int} (h : SlI w ao n cap A) : A.length = n := by simpa using Sl.len h

theorem SlI.at_ {w : World} {ao : Option Addr} {n cap : Nat} {A : List Int} (h : SlI w ao n cap A) {i : Nat} (hi : i < n) :
    ∃ b o, ao = some ⟨b, o, none⟩ ∧ w.cell? ⟨b, o + i, none⟩ = some (.int .i64 (ix A i)) :=
  Sl.at_ h i _ (by rw [List.getElem?_map, ix_eq (by rw [h.len]; exact hi)]; rfl)

theorem Sl.stay {w w' : World} {ao : Option Addr} {n cap : Nat} {vs : List Value} (h : Sl w ao n cap vs) (hc : ∀ p u, w.cell? p = some u → w'.cell? p = some u) : Sl w' ao n cap vs :=
  ⟨h.len, h.le, h.max, h.nil, fun i u hu => let ⟨b, o, e, c⟩ := h.at_ i u hu; ⟨b, o, e, hc _ _ c⟩⟩

theorem cell_below {w w' : World} (h : Below w.heap.size w w') : ∀ p u, w.cell? p = some u → w'.cell? p = some u :=
  fun p u hc => (h.cell (World.block_lt_of_cell? w p hc)).trans hc

theorem Sl.below {w w' : World} {ao : Option Addr} {n cap : Nat} {vs : List Value} (h : Sl w ao n cap vs) (hb : Below w.heap.size w w') : Sl w' ao n cap vs := h.stay (cell_below hb)
theorem SlI.below {w w' : World} {ao : Option Addr} {n cap : Nat} {A : List Int} (h : SlI w ao n cap A) (hb : Below w.heap.size w w') : SlI w' ao n cap A := Sl.below h hb
theorem SlI.drewN {w : World} {ao : Option Addr} {n cap : Nat} {A : List Int} (h : SlI w ao n cap A) (k : Nat) : SlI (w.drewN k) ao n cap A := Sl.stay h fun _ _ h => h
theorem SlI.drew {w : World} {ao : Option Addr} {n cap : Nat} {A : List Int} (h : SlI w ao n cap A) : SlI w.drew ao n cap A := Sl.stay h fun _ _ h => h
theorem below_drewN {B : Nat} {a w : World} (h : Below B a w) (n : Nat) : Below B a (w.drewN n) := ⟨h.os, h.tape, h.output, h.size, h.block⟩
theorem below_alloc (w : World) (o : Obj) : Below w.heap.size w (w.alloc o) := (Below.refl _ _).alloc (Nat.le_refl _) o
theorem SlI.alloc {w : World} {ao : Option Addr} {n cap : Nat} {A : List Int} (h : SlI w ao n cap A) (o : Obj) : SlI (w.alloc o) ao n cap A := h.below (below_alloc w o)

theorem Sl.take {w : World} {ao : Option Addr} {n cap : Nat} {vs : List Value} (h : Sl w ao n cap vs) {k : Nat} (hk : k ≤ n) : Sl w ao k cap (vs.take k) := by
  have := h.len
  have := h.le
  refine ⟨by simp; omega, by omega, h.max, h.nil, fun i u hu => h.at_ i u ?_⟩
  rw [List.getElem?_take] at hu
  split at hu <;> simp_all
theorem SlI.take {w : World} {ao : Option Addr} {n cap : Nat} {A : List Int} (h : SlI w ao n cap A) {k : Nat} (hk : k ≤ n) : SlI w ao k cap (A.take k) := by
  unfold SlI
  rw [List.map_take]
  exact Sl.take h hk

theorem Sl.drop {w : World} {ao : Option Addr} {n cap : Nat} {vs : List Value} (h : Sl w ao n cap vs) {k : Nat} (hk : k ≤ n) :
    Sl w (if cap = k then ao else ao.map (·.add k)) (n - k) (cap - k) (vs.drop k) := by
  have := h.len
  have := h.le
  have := h.max
  refine ⟨by simp; omega, by omega, by omega, ?_, fun i u hu => ?_⟩
  · intro e
    split at e
    · omega
    · simp at e
      have := h.nil e
      omega
  · rw [List.getElem?_drop] at hu
    obtain ⟨b, o, e, hc⟩ := h.at_ _ _ hu
    have : k + i < n := by have := (List.getElem?_eq_some_iff.1 hu).1; omega
    rw [if_neg (by omega), e]
    exact ⟨b, o + k, by simp [Addr.add_lit], by rw [← hc, Nat.add_assoc]⟩
theorem SlI.drop {w : World} {ao : Option Addr} {n cap : Nat} {A : List Int} (h : SlI w ao n cap A) {k : Nat} (hk : k ≤ n) :
    SlI w (if cap = k then ao else ao.map (·.add k)) (n - k) (cap - k) (A.drop k) := by
  unfold SlI
  rw [List.map_drop]
  exact Sl.drop h hk

theorem Sl.none {w : World} : Sl w none 0 0 [] := ⟨rfl, Nat.le_refl _, by unfold maxLen; omega, fun _ => rfl, fun _ _ h => by simp at h⟩

/-- What a call owns reads. -/
theorem Sl.of_own {w : World} {base : Nat} {e : TypeId} {v : Value} {n : Nat} {xs : List Value} (h : w.ownsRow base e 1 v n xs) : ∃ ao cap, v = .slice ao n cap ∧ Sl w ao n cap xs := by
  have hcell := fun (g : Nat) (hg : v.ownBlock = some g) => h.cells hg
  obtain ⟨h1, h2⟩ := h
  rcases h2 with ⟨rfl, rfl⟩ | ⟨g, cap, cur, rfl, hg, hh, hn, hm, hs, ht⟩
  · have : xs = [] := List.eq_nil_of_length_eq_zero (by simpa using h1)
    subst this
    exact ⟨_, _, rfl, Sl.none⟩
  · refine ⟨_, _, rfl, ⟨by simpa using h1, hn, hm, by simp, fun i u hu => ⟨g, 0, rfl, ?_⟩⟩⟩
    have := hcell g rfl i u hu
    rw [Addr.add_lit] at this
    simpa using this

/-- A row of integers that the call made. -/
def Own (w : World) (base : Nat) (v : Value) (A : List Int) : Prop := w.ownsRow base 3 1 v A.length (A.map (.int .i64))

theorem Own.sl {w : World} {base : Nat} {v : Value} {A : List Int} (h : Own w base v A) : ∃ ao cap, v = .slice ao A.length cap ∧ SlI w ao A.length cap A := Sl.of_own h

theorem Own.nil (w : World) (base : Nat) : Own w base (.slice none 0 0) [] := World.ownsRow_nil _ _ _ _

theorem Own.mono {w : World} {base base' : Nat} {v : Value} {A : List Int} (h : Own w base v A) (hb : base' ≤ base) : Own w base' v A := by
  obtain ⟨h1, h2⟩ := h
  refine ⟨h1, ?_⟩
  rcases h2 with h2 | ⟨g, cap, cur, hv, hg, r⟩
  · exact .inl h2
  · exact .inr ⟨g, cap, cur, hv, by omega, r⟩

theorem Own.below {w w' : World} {base : Nat} {v : Value} {A : List Int} (h : Own w base v A) (hb : Below w.heap.size w w') : Own w' base v A := by
  have hlt := World.ownsRow.lt h
  obtain ⟨h1, h2⟩ := h
  refine ⟨h1, ?_⟩
  rcases h2 with h2 | ⟨g, cap, cur, hv, hg, hh, r⟩
  · exact .inl h2
  · exact .inr ⟨g, cap, cur, hv, hg, by rw [hb.block g (hlt g (by rw [hv]; rfl)).2]; exact hh, r⟩

/-- append of a slice that reads onto one that the call owns. -/
theorem wpList_app {P : Program} {w : World} {ops : Array Oper} {rest : List Oper} {o : Oper} {a : Act} {Q : Exit → Act → World → Prop} (hgd : o.guard = .none) (s x : Operand) (t : TypeId)
    (ho : o.op = .call { callee := .builtin .append, args := #[s, x], argTypes := #[t, t] })
    (base : Nat) (e : TypeId) (i : TypeInfo) (z : Value) (bytes : Nat) (ht : P.underlying t = some (.slice e)) (hi : P.info? e = some i) (hz : i.zero = some z)
    (hsize : i.size = 1) (hby : i.bytes = bytes) (hzs : z.cells.size = 1)
    (v : Value) (n : Nat) (xs : List Value) (hs : a.eval s = v) (hown : w.ownsRow base e 1 v n xs)
    (ao : Option Addr) (m c : Nat) (news : List Value) (hx : a.eval x = .slice ao m c) (hl : Sl w ao m c news) (h1 : ∀ u ∈ news, u.oneCell' = true)
    (h63 : n + m ≤ maxLen) (hbytes : (n + m) * bytes ≤ 140737488355328) (hbase : base ≤ w.heap.size)
    (h : ∀ v' w', w'.ownsRow base e 1 v' (n + m) (xs ++ news) → w.grownBy w' v.ownBlock → (v' = .slice .none 0 0 ↔ v = .slice .none 0 0 ∧ m = 0) → wpList P ops Q rest (a.put o.dst v') w') : wpList P ops Q (o :: rest) a w := by
  cases ao with
  | none =>
    have hc := hl.nil rfl
    have hm : m = 0 := by have := hl.le; omega
    subst hc hm
    have hn : news = [] := List.eq_nil_of_length_eq_zero hl.len
    subst hn
    refine wpList_append_own_none hgd s x t ho base e i 1 ht hi v n xs hs hown hx ?_
    exact h v w (by simpa using hown) (World.grownBy.refl _ _) (by simp)
  | some ad =>
    refine wpList_append_own _ hgd s x t ho base e i z 1 bytes ht hi hz hsize hby hzs (by decide) v n xs hs hown ad m c news hx (by simpa using hl.len) ?_ h1 h63 hbytes hbase h
    intro j u hu
    obtain ⟨b, of, e, hc⟩ := hl.at_ j u hu
    obtain rfl := Option.some.inj e
    rw [Addr.add_lit]; exact hc

theorem typeInfo_run {P : Program} {t : TypeId} {i : TypeInfo} (h : P.info? t = some i) {w : World} : (typeInfo t).run P w = .ok i w := by
  simp [typeInfo, h]

/-- An operation that is run to a value. -/
theorem wpList_val {P : Program} {w : World} {ops : Array Oper} {rest : List Oper} {o : Oper} {a : Act} {Q : Exit → Act → World → Prop} (hgd : o.guard = .none) {v : Value} {w' : World}
    (hr : (execOp a.eval o).run P w = .ok (.value v) w') (h : wpList P ops Q rest (a.put o.dst v) w') : wpList P ops Q (o :: rest) a w := by
  refine wpList_plain hgd fun K hK => ?_
  unfold Oper.wp
  simp [hr]
  exact hK _ _ h

theorem run_sliceAt_lh {P : Program} {t e : TypeId} {i : TypeInfo} (ht : P.underlying t = some (.slice e)) (hi : P.info? e = some i) (w : World) (ao : Option Addr) (n cap : Nat) (lo hi' : Option Value) (l h : Nat)
    (hb : ∀ w, (Instr.sliceBounds true n cap lo hi' .none).run P w = .ok (l, h, cap) w) :
    (Instr.sliceAt t (.slice ao n cap) lo hi' .none).run P w = .ok (.slice (if cap = l then ao else ao.map (·.add (l * i.size))) (h - l) (cap - l)) w := by
  have e1 : P.elem t = e := by simp [Program.elem, ht]
  have ht' : P.underlying t = some (.slice (P.elem t)) := by rw [e1]; exact ht
  rw [run_sliceAt_slice w t _ _ _ _ ht', run_slice_any w t ao n cap ht', hb, e1]
  simp [Result.andThen, sizeOf, typeInfo_run hi, sliced]

/-- 'x[k:]' of a slice that reads: what comes out reads, at an address of which no more is said. -/
theorem wpList_slice_low {P : Program} {w : World} {ops : Array Oper} {rest : List Oper} {o : Oper} {a : Act} {Q : Exit → Act → World → Prop} (hgd : o.guard = .none) (t : TypeId) (x l : Operand)
    (ho : o.op = .slice t x (some l) .none .none) (e : TypeId) (i : TypeInfo) (ht : P.underlying t = some (.slice e)) (hi : P.info? e = some i) (hsz : i.size = 1)
    (ao : Option Addr) (n cap : Nat) (vs : List Value) (hx : a.eval x = .slice ao n cap) (hS : Sl w ao n cap vs) (kl : IntKind) (L : Int) (k : Nat) (hl : a.eval l = .int kl L) (hL : L = (k : Int)) (hk : k ≤ n)
    (h : ∀ ao', Sl w ao' (n - k) (cap - k) (vs.drop k) → wpList P ops Q rest (a.put o.dst (.slice ao' (n - k) (cap - k))) w) : wpList P ops Q (o :: rest) a w := by
  subst hL
  refine wpList_val hgd (v := .slice (if cap = k then ao else ao.map (·.add k)) (n - k) (cap - k)) (w' := w) ?_ (h _ (hS.drop hk))
  have hr := run_sliceAt_lh ht hi w ao n cap (some (.int kl k)) .none k n (fun w => by simp [Instr.sliceBounds, run_sliceBound, hk])
  simp only [execOp, ho, hx, hl, Option.map_some, Option.map_none, Sem.run_bind, hr, Result.andThen_ok, Sem.run_pure, hsz, Nat.mul_one]

/-- 'x[:k]', up to the length. -/
theorem wpList_slice_high {P : Program} {w : World} {ops : Array Oper} {rest : List Oper} {o : Oper} {a : Act} {Q : Exit → Act → World → Prop} (hgd : o.guard = .none) (t : TypeId) (x l : Operand)
    (ho : o.op = .slice t x .none (some l) .none) (e : TypeId) (i : TypeInfo) (ht : P.underlying t = some (.slice e)) (hi : P.info? e = some i) (hsz : i.size = 1)
    (ao : Option Addr) (n cap : Nat) (vs : List Value) (hx : a.eval x = .slice ao n cap) (hS : Sl w ao n cap vs) (kl : IntKind) (L : Int) (k : Nat) (hl : a.eval l = .int kl L) (hL : L = (k : Int)) (hk : k ≤ n)
    (h : Sl w ao k cap (vs.take k) → wpList P ops Q rest (a.put o.dst (.slice ao k cap)) w) : wpList P ops Q (o :: rest) a w := by
  subst hL
  have hle := hS.le
  refine wpList_val hgd (v := .slice ao k cap) (w' := w) ?_ (h (hS.take hk))
  have hr := run_sliceAt_lh ht hi w ao n cap .none (some (.int kl k)) 0 k (fun w => by simp [Instr.sliceBounds, run_sliceBound, Nat.le_trans hk hle])
  simp only [execOp, ho, hx, hl, Option.map_some, Option.map_none, Sem.run_bind, hr, Result.andThen_ok, Sem.run_pure, hsz, Nat.mul_one]
  congr 3
  cases ao <;> simp [Addr.add]

/-- The same two at integers. -/
theorem wpList_int_low {P : Program} {w : World} {ops : Array Oper} {rest : List Oper} {o : Oper} {a : Act} {Q : Exit → Act → World → Prop} (hgd : o.guard = .none) (t : TypeId) (x l : Operand)
    (ho : o.op = .slice t x (some l) .none .none) (e : TypeId) (i : TypeInfo) (ht : P.underlying t = some (.slice e)) (hi : P.info? e = some i) (hsz : i.size = 1)
    {ao : Option Addr} {n cap : Nat} {A : List Int} (hx : a.eval x = .slice ao n cap) (hS : SlI w ao n cap A) {kl : IntKind} {L : Int} {k : Nat} (hl : a.eval l = .int kl L) (hL : L = (k : Int)) (hk : k ≤ n)
    (h : ∀ ao', SlI w ao' (n - k) (cap - k) (A.drop k) → wpList P ops Q rest (a.put o.dst (.slice ao' (n - k) (cap - k))) w) : wpList P ops Q (o :: rest) a w :=
  wpList_slice_low hgd t x l ho e i ht hi hsz ao n cap _ hx hS kl L k hl hL hk fun ao' h' => h ao' (by unfold SlI; rw [List.map_drop]; exact h')

theorem wpList_int_high {P : Program} {w : World} {ops : Array Oper} {rest : List Oper} {o : Oper} {a : Act} {Q : Exit → Act → World → Prop} (hgd : o.guard = .none) (t : TypeId) (x l : Operand)
    (ho : o.op = .slice t x .none (some l) .none) (e : TypeId) (i : TypeInfo) (ht : P.underlying t = some (.slice e)) (hi : P.info? e = some i) (hsz : i.size = 1)
    {ao : Option Addr} {n cap : Nat} {A : List Int} (hx : a.eval x = .slice ao n cap) (hS : SlI w ao n cap A) {kl : IntKind} {L : Int} {k : Nat} (hl : a.eval l = .int kl L) (hL : L = (k : Int)) (hk : k ≤ n)
    (h : SlI w ao k cap (A.take k) → wpList P ops Q rest (a.put o.dst (.slice ao k cap)) w) : wpList P ops Q (o :: rest) a w :=
  wpList_slice_high hgd t x l ho e i ht hi hsz ao n cap _ hx hS kl L k hl hL hk fun h' => h (by unfold SlI; rw [List.map_take]; exact h')

theorem int_one (A : List Int) : ∀ u ∈ A.map (Value.int .i64), u.oneCell' = true := by
  intro u hu
  obtain ⟨_, _, rfl⟩ := List.mem_map.1 hu
  rfl

theorem SlI.one (w : World) (x : Int) (t : TypeId) : SlI (w.alloc (.cells #[.int .i64 x] t)) (some ⟨w.heap.size, 0, .none⟩) 1 1 [x] := by
  refine ⟨rfl, Nat.le_refl _, by unfold maxLen; omega, by simp, fun i u hu => ⟨_, _, rfl, ?_⟩⟩
  match i, hu with
  | 0, hu => simp at hu; subst hu; simp
  | i + 1, hu => simp at hu

theorem take_snoc {A : List Int} {k : Nat} (h : k < A.length) : A.take k ++ [ix A k] = A.take (k + 1) := by
  rw [List.take_add_one, ix_eq h]; rfl

theorem Own.alloc {w : World} {base : Nat} {v : Value} {A : List Int} (h : Own w base v A) (o : Obj) : Own (w.alloc o) base v A := World.ownsRow.alloc h o

theorem Own.block {w : World} {base : Nat} {vo : Option Addr} {n c : Nat} {A : List Int} (h : Own w base (.slice vo n c) A) :
    A.length = n ∧ (vo = .none ∧ n = 0 ∧ c = 0 ∨ ∃ g cur, vo = some ⟨g, 0, .none⟩ ∧ base ≤ g ∧ w.heap[g]? = some (.cells (cur : List Value).toArray 3 (0, 0)) ∧ n ≤ c ∧ c ≤ maxLen ∧ cur.length = c ∧ cur.take n = A.map (.int .i64)) := by
  obtain ⟨_, h2⟩ := h
  rcases h2 with ⟨hv, hn⟩ | ⟨g, cap, cur, hv, hg, hh, hn, hm, hs, ht⟩
  · simp at hv
    exact ⟨by omega, .inl hv⟩
  · simp at hv
    obtain ⟨rfl, rfl, rfl⟩ := hv
    refine ⟨rfl, .inr ⟨g, cur.toList, rfl, hg, by simpa using hh, hn, hm, by simpa using hs, by simpa using ht⟩⟩

theorem Own.mk {w : World} {base g n c : Nat} {cur : List Value} {A : List Int} (hg : base ≤ g) (hh : w.heap[g]? = some (.cells cur.toArray 3 (0, 0))) (hn : n ≤ c) (hm : c ≤ maxLen) (hc : cur.length = c) (hA : A.length = n)
    (ht : cur.take n = A.map (.int .i64)) : Own w base (.slice (some ⟨g, 0, .none⟩) n c) A := by
  subst hA
  exact ⟨by simp, .inr ⟨g, c, cur.toArray, rfl, hg, hh, hn, hm, by simpa using hc, by simpa using ht⟩⟩

/-- Row i of a list of rows, behind a name. -/
def rx (R : List (List Int)) (i : Nat) : List Int := R.getD i []
/-- A slice of slices of integers that reads. -/
structure SlRows (w : World) (ao : Option Addr) (n cap : Nat) (R : List (List Int)) : Prop where
  len : R.length = n
  le : n ≤ cap
  max : cap ≤ maxLen
  nil : ao = none → cap = 0
  at_ : ∀ i, i < n → ∃ b o ra rc, ao = some ⟨b, o, none⟩ ∧ w.cell? ⟨b, o + i, none⟩ = some (.slice ra (rx R i).length rc) ∧ SlI w ra (rx R i).length rc (rx R i)

theorem SlRows.stay {w w' : World} {ao : Option Addr} {n cap : Nat} {R : List (List Int)} (h : SlRows w ao n cap R) (hc : ∀ p u, w.cell? p = some u → w'.cell? p = some u) : SlRows w' ao n cap R :=
  ⟨h.len, h.le, h.max, h.nil, fun i hi => let ⟨b, o, ra, rc, e, c, r⟩ := h.at_ i hi; ⟨b, o, ra, rc, e, hc _ _ c, Sl.stay r hc⟩⟩
theorem SlRows.below {w w' : World} {ao : Option Addr} {n cap : Nat} {R : List (List Int)} (h : SlRows w ao n cap R) (hb : Below w.heap.size w w') : SlRows w' ao n cap R := h.stay (cell_below hb)
theorem SlRows.alloc {w : World} {ao : Option Addr} {n cap : Nat} {R : List (List Int)} (h : SlRows w ao n cap R) (o : Obj) : SlRows (w.alloc o) ao n cap R := h.below (below_alloc w o)

theorem SlRows.drew {w : World} {ao : Option Addr} {n cap : Nat} {R : List (List Int)} (h : SlRows w ao n cap R) : SlRows w.drew ao n cap R := h.stay fun _ _ h => h

/-- Two rows, one behind the other, in a new block. -/
theorem SlRows.two {w : World} {ao bo : Option Addr} {c d : Nat} {A B : List Int} (hA : SlI w ao A.length c A) (hB : SlI w bo B.length d B) (t : TypeId) (g : Nat) (hg : g = w.heap.size) :
    SlRows (w.alloc (.cells #[.slice ao A.length c, .slice bo B.length d] t)) (some ⟨g, 0, none⟩) 2 2 [A, B] := by
  subst hg
  refine ⟨rfl, Nat.le_refl _, by unfold maxLen; omega, by simp, fun i hi => ?_⟩
  match i, hi with
  | 0, _ => exact ⟨_, _, ao, c, rfl, by simp [rx], hA.alloc _⟩
  | 1, _ => exact ⟨_, _, bo, d, rfl, by simp [rx], hB.alloc _⟩

end Go.Proofs.YtimkkkdabmhedaaGreatDoor

/- Small words for strings and for what is returned. Plain lemmas. -/
namespace Go.Proofs.YtimkkkdabmhedaaGreatDoor
open Go.RowKit
set_option linter.unusedVariables false

theorem ret_bool {a b : Bool} (h : a = b) : Ending.returned (.bool a) = .returned (.bool b) := by rw [h]
theorem ret_i64 {a b : Int} (h : a = b) : Ending.returned (.int .i64 a) = .returned (.int .i64 b) := by rw [h]

theorem bytes_of {s t : ByteArray} (h : s.toList = t.toList) : s = t := by
  rw [ByteArray.toList_eq, ByteArray.toList_eq] at h
  have := Array.toList_inj.1 h
  cases s; cases t; simp_all
theorem beqS_yes {s t : ByteArray} (h : s = t) : (s.toList == t.toList) = true := by rw [h]; simp
theorem beqS_no {s t : ByteArray} (h : s ≠ t) : (s.toList == t.toList) = false := beq_eq_false_iff_ne.2 fun e => h (bytes_of e)
theorem bneS_yes {s t : ByteArray} (h : s = t) : (s.toList != t.toList) = false := by rw [h]; simp
theorem bneS_no {s t : ByteArray} (h : s ≠ t) : (s.toList != t.toList) = true := by rw [bne_iff_ne]; exact fun e => h (bytes_of e)

/-- A string that is empty, or isn't, in the walk's words. -/
theorem strE_yes {s : ByteArray} (h : s.size = 0) : s.toList = [] ∧ s.toList.isEmpty = true ∧ (s.toList == []) = true := by
  have e : s.toList = [] := by rw [ByteArray.toList_eq]; exact List.eq_nil_of_length_eq_zero (by simpa using h)
  rw [e]; simp
theorem strE_no {s : ByteArray} (h : s.size ≠ 0) : s.toList ≠ [] ∧ s.toList.isEmpty = false ∧ (s.toList == []) = false := by
  have e : s.toList ≠ [] := fun e => h (by
    rw [ByteArray.toList_eq] at e
    have := congrArg List.length e
    simpa using this)
  refine ⟨e, ?_, ?_⟩
  · cases h' : s.toList with
    | nil => exact absurd h' e
    | cons _ _ => rfl
  · exact beq_eq_false_iff_ne.2 e

/-- A slice of strings that reads. -/
abbrev SlS (w : World) (ao : Option Addr) (n c : Nat) (T : List ByteArray) : Prop := Sl w ao n c (T.map .string)
theorem SlS.count {w : World} {ao : Option Addr} {n c : Nat} {T : List ByteArray} (h : SlS w ao n c T) : T.length = n := by
  have := Sl.len h
  simpa using this
theorem SlS.cell {w : World} {ao : Option Addr} {n c : Nat} {T : List ByteArray} (h : SlS w ao n c T) {k : Nat} {s : ByteArray} (hk : T[k]? = some s) : ∃ b o, ao = some ⟨b, o, none⟩ ∧ w.cell? ⟨b, o + k, none⟩ = some (.string s) :=
  Sl.at_ h k _ (by rw [List.getElem?_map, hk]; rfl)

end Go.Proofs.YtimkkkdabmhedaaGreatDoor

/- Slices of elements of several cells, read and made. Plain lemmas over any program. -/
namespace Go.Proofs.YtimkkkdabmhedaaGreatDoor
open Go.RowKit
set_option linter.unusedVariables false

/-- The slice value `.slice ao n cap` reads, in w, as the cells xs, s cells an element. -/
structure SlF (s : Nat) (w : World) (ao : Option Addr) (n cap : Nat) (xs : List Value) : Prop where
  len : xs.length = n * s
  le : n ≤ cap
  max : cap ≤ maxLen
  nil : ao = .none → cap = 0
  at_ : ∀ i u, xs[i]? = some u → ∃ b o, ao = some ⟨b, o, .none⟩ ∧ w.cell? ⟨b, o + i, .none⟩ = some u

theorem SlF.stay {s : Nat} {w w' : World} {ao : Option Addr} {n cap : Nat} {xs : List Value} (h : SlF s w ao n cap xs) (hc : ∀ p u, w.cell? p = some u → w'.cell? p = some u) : SlF s w' ao n cap xs :=
  ⟨h.len, h.le, h.max, h.nil, fun i u hu => let ⟨b, o, e, c⟩ := h.at_ i u hu; ⟨b, o, e, hc _ _ c⟩⟩
theorem SlF.below {s : Nat} {w w' : World} {ao : Option Addr} {n cap : Nat} {xs : List Value} (h : SlF s w ao n cap xs) (hb : Below w.heap.size w w') : SlF s w' ao n cap xs := h.stay (cell_below hb)
theorem SlF.alloc {s : Nat} {w : World} {ao : Option Addr} {n cap : Nat} {xs : List Value} (h : SlF s w ao n cap xs) (o : Obj) : SlF s (w.alloc o) ao n cap xs := h.below (below_alloc w o)
theorem SlF.drewN {s : Nat} {w : World} {ao : Option Addr} {n cap : Nat} {xs : List Value} (h : SlF s w ao n cap xs) (k : Nat) : SlF s (w.drewN k) ao n cap xs := h.stay fun _ _ h => h
theorem SlF.drew {s : Nat} {w : World} {ao : Option Addr} {n cap : Nat} {xs : List Value} (h : SlF s w ao n cap xs) : SlF s w.drew ao n cap xs := h.stay fun _ _ h => h
theorem SlF.keep0 {s : Nat} {w w' : World} {ao : Option Addr} {n cap : Nat} {xs : List Value} (h : SlF s w ao n cap xs) (hb : ∀ ad, ao = some ad → 0 < n → w'.heap[ad.block]? = w.heap[ad.block]?) : SlF s w' ao n cap xs :=
  ⟨h.len, h.le, h.max, h.nil, fun i u hu => let ⟨b, o, e, c⟩ := h.at_ i u hu; ⟨b, o, e, by
    have hl := h.len
    have h1 := (List.getElem?_eq_some_iff.1 hu).1
    have h0 : 0 < n := by
      rcases Nat.eq_zero_or_pos n with h' | h'
      · subst h'; rw [Nat.zero_mul] at hl; omega
      · exact h'
    rw [World.cell?_of_block (w := w) (a := ⟨b, o + i, .none⟩) (hb ⟨b, o, .none⟩ e h0)]; exact c⟩⟩
theorem SlF.lt {s : Nat} {w : World} {ao : Option Addr} {n cap : Nat} {xs : List Value} (h : SlF s w ao n cap xs) (h0 : 0 < s) : ∀ ad, ao = some ad → 0 < n → ad.block < w.heap.size := by
  intro ad e hn
  have hl := h.len
  have hp : 0 < xs.length := by rw [hl]; exact Nat.mul_pos hn h0
  obtain ⟨b, o, e', hc⟩ := h.at_ 0 _ (List.getElem?_eq_getElem hp)
  rw [e] at e'
  cases e'
  exact World.block_lt_of_cell? w _ hc
theorem SlF.nothing {s : Nat} (w : World) : SlF s w .none 0 0 [] := ⟨by simp, Nat.le_refl _, by unfold maxLen; omega, fun _ => rfl, fun _ _ h => by simp at h⟩

theorem SlF.drop {s : Nat} {w : World} {ao : Option Addr} {n cap : Nat} {xs : List Value} (h : SlF s w ao n cap xs) {k : Nat} (hk : k ≤ n) :
    SlF s w (if cap = k then ao else ao.map (·.add (k * s))) (n - k) (cap - k) (xs.drop (k * s)) := by
  have hl := h.len
  have := h.le
  have := h.max
  refine ⟨by rw [List.length_drop, hl, Nat.sub_mul], by omega, by omega, ?_, fun i u hu => ?_⟩
  · intro e
    split at e
    · omega
    · simp at e
      have := h.nil e
      omega
  · rw [List.getElem?_drop] at hu
    obtain ⟨b, o, e, hc⟩ := h.at_ _ _ hu
    have h1 : k * s + i < n * s := by have := (List.getElem?_eq_some_iff.1 hu).1; omega
    have h2 : k < n := by
      rcases Nat.lt_or_ge k n with h' | h'
      · exact h'
      · have := Nat.mul_le_mul_right s h'; omega
    rw [if_neg (by omega), e]
    exact ⟨b, o + k * s, by simp [Addr.add_lit], by rw [← hc, Nat.add_assoc]⟩

theorem SlF.of_own {s : Nat} {w : World} {base : Nat} {e : TypeId} {v : Value} {n : Nat} {xs : List Value} (h : w.ownsRow base e s v n xs) : ∃ ao cap, v = .slice ao n cap ∧ SlF s w ao n cap xs := by
  have hcell := fun (g : Nat) (hg : v.ownBlock = some g) => h.cells hg
  obtain ⟨h1, h2⟩ := h
  rcases h2 with ⟨rfl, rfl⟩ | ⟨g, cap, cur, rfl, hg, hh, hn, hm, hs, ht⟩
  · have : xs = [] := List.eq_nil_of_length_eq_zero (by simpa using h1)
    subst this
    exact ⟨_, _, rfl, SlF.nothing _⟩
  · refine ⟨_, _, rfl, ⟨by simpa using h1, hn, hm, by simp, fun i u hu => ⟨g, 0, rfl, ?_⟩⟩⟩
    have := hcell g rfl i u hu
    rw [Addr.add_lit] at this
    simpa using this

section
variable {α : Type} {enc : α → List Value} {s : Nat}

/-- Elements as cells, one behind the other. -/
def flat (enc : α → List Value) (L : List α) : List Value := L.flatMap enc

theorem flat_nil : flat enc [] = [] := rfl
theorem flat_cons (x : α) (L : List α) : flat enc (x :: L) = enc x ++ flat enc L := by simp [flat]
theorem flat_append (L M : List α) : flat enc (L ++ M) = flat enc L ++ flat enc M := by simp [flat]
theorem flat_one (x : α) : flat enc [x] = enc x := by simp [flat]
theorem flat_len (hs : ∀ x, (enc x).length = s) (L : List α) : (flat enc L).length = L.length * s := by
  induction L with
  | nil => simp [flat]
  | cons x L ih => rw [flat_cons, List.length_append, ih, hs, List.length_cons, Nat.add_mul]; omega
theorem flat_at (hs : ∀ x, (enc x).length = s) : ∀ {L : List α} {k j : Nat} {x : α}, L[k]? = some x → j < s → (flat enc L)[k * s + j]? = (enc x)[j]?
  | [], k, j, x, h, _ => by simp at h
  | y :: L, 0, j, x, h, hj => by
    simp at h
    subst h
    rw [flat_cons, List.getElem?_append_left (by rw [hs]; omega)]
    simp
  | y :: L, k + 1, j, x, h, hj => by
    rw [flat_cons, List.getElem?_append_right (by rw [hs, Nat.add_mul]; omega), hs]
    have := flat_at hs (L := L) (k := k) (j := j) (x := x) (by simpa using h) hj
    rw [← this]
    congr 1
    rw [Nat.add_mul]
    omega
theorem flat_drop (hs : ∀ x, (enc x).length = s) : ∀ (L : List α) (k : Nat), flat enc (L.drop k) = (flat enc L).drop (k * s)
  | [], k => by simp [flat]
  | y :: L, 0 => by simp
  | y :: L, k + 1 => by
    rw [flat_cons, List.drop_succ_cons, flat_drop hs L k]
    have e : (k + 1) * s = (enc y).length + k * s := by rw [hs, Nat.add_mul]; omega
    rw [e, ← List.drop_drop, List.drop_left]

/-- The cells of element k. -/
theorem SlF.elem {w : World} {ao : Option Addr} {n cap : Nat} {L : List α} (h : SlF s w ao n cap (flat enc L)) (hs : ∀ x, (enc x).length = s) (h0 : 0 < s) {k : Nat} {x : α} (hk : L[k]? = some x) :
    ∃ b o, ao = some ⟨b, o, .none⟩ ∧ ∀ j u, (enc x)[j]? = some u → w.cell? ⟨b, o + k * s + j, .none⟩ = some u := by
  have hu0 : ∃ u, (enc x)[0]? = some u := ⟨(enc x)[0]'(by rw [hs]; exact h0), List.getElem?_eq_getElem _⟩
  obtain ⟨u0, hu0⟩ := hu0
  obtain ⟨b, o, e, _⟩ := h.at_ (k * s + 0) u0 (by rw [flat_at hs hk h0]; exact hu0)
  refine ⟨b, o, e, fun j u hu => ?_⟩
  have hj : j < s := by have := (List.getElem?_eq_some_iff.1 hu).1; rw [hs] at this; exact this
  obtain ⟨b', o', e', hc⟩ := h.at_ (k * s + j) u (by rw [flat_at hs hk hj]; exact hu)
  rw [e] at e'
  simp at e'
  obtain ⟨rfl, rfl⟩ := e'
  rw [Nat.add_assoc]
  exact hc

theorem SlF.count {w : World} {ao : Option Addr} {n cap : Nat} {L : List α} (h : SlF s w ao n cap (flat enc L)) (hs : ∀ x, (enc x).length = s) (h0 : 0 < s) : L.length = n := by
  have := h.len
  rw [flat_len hs] at this
  exact Nat.eq_of_mul_eq_mul_right h0 this

/-- A row of such elements that the call made. -/
def OwnF (enc : α → List Value) (s : Nat) (e : TypeId) (w : World) (base : Nat) (v : Value) (L : List α) : Prop := w.ownsRow base e s v L.length (flat enc L)

variable {e : TypeId}
theorem OwnF.sl {w : World} {base : Nat} {v : Value} {L : List α} (h : OwnF enc s e w base v L) : ∃ ao cap, v = .slice ao L.length cap ∧ SlF s w ao L.length cap (flat enc L) := SlF.of_own h
theorem OwnF.nil (w : World) (base : Nat) : OwnF enc s e w base (.slice .none 0 0) [] := World.ownsRow_nil _ _ _ _
theorem OwnF.made0 (w : World) : OwnF enc s e (w.alloc (.cells #[] e)) w.heap.size (.slice (some ⟨w.heap.size, 0, .none⟩) 0 0) [] :=
  World.ownsRow_made w #[] 0 (Nat.le_refl _) (by unfold maxLen; omega) (by simp)
theorem OwnF.alloc {w : World} {base : Nat} {v : Value} {L : List α} (h : OwnF enc s e w base v L) (o : Obj) : OwnF enc s e (w.alloc o) base v L := World.ownsRow.alloc h o
theorem OwnF.mono {w : World} {base base' : Nat} {v : Value} {L : List α} (h : OwnF enc s e w base v L) (hb : base' ≤ base) : OwnF enc s e w base' v L := by
  obtain ⟨h1, h2⟩ := h
  refine ⟨h1, ?_⟩
  rcases h2 with h2 | ⟨g, cap, cur, hv, hg, r⟩
  · exact .inl h2
  · exact .inr ⟨g, cap, cur, hv, by omega, r⟩
theorem OwnF.below {w w' : World} {base : Nat} {v : Value} {L : List α} (h : OwnF enc s e w base v L) (hb : Below w.heap.size w w') : OwnF enc s e w' base v L := by
  have hlt := World.ownsRow.lt h
  obtain ⟨h1, h2⟩ := h
  refine ⟨h1, ?_⟩
  rcases h2 with h2 | ⟨g, cap, cur, hv, hg, hh, r⟩
  · exact .inl h2
  · exact .inr ⟨g, cap, cur, hv, hg, by rw [hb.block g (hlt g (by rw [hv]; rfl)).2]; exact hh, r⟩
theorem OwnF.drewN {w : World} {base : Nat} {v : Value} {L : List α} (h : OwnF enc s e w base v L) (k : Nat) : OwnF enc s e (w.drewN k) base v L := h.below (below_drewN (Below.refl _ _) k)

/-- One element in a new block. -/
theorem SlF.one (hs : ∀ x, (enc x).length = s) (w : World) (x : α) (t : TypeId) {cs : Array Value} (hcs : cs.toList = enc x) : SlF s (w.alloc (.cells cs t)) (some ⟨w.heap.size, 0, .none⟩) 1 1 (flat enc [x]) := by
  refine ⟨by rw [flat_one, hs, Nat.one_mul], Nat.le_refl _, by unfold maxLen; omega, by simp, fun i u hu => ⟨_, _, rfl, ?_⟩⟩
  rw [flat_one, ← hcs] at hu
  simp
  simpa using hu

/-- append onto a row of the call's own. -/
theorem wpList_flat_app {P : Program} {w : World} {ops : Array Oper} {rest : List Oper} {o : Oper} {a : Act} {Q : Exit → Act → World → Prop} (hgd : o.guard = .none) (y x : Operand) (t : TypeId)
    (ho : o.op = .call { callee := .builtin .append, args := #[y, x], argTypes := #[t, t] })
    {base : Nat} (i : TypeInfo) (z : Value) (bytes : Nat) (ht : P.underlying t = some (.slice e)) (hi : P.info? e = some i) (hz : i.zero = some z)
    (hsize : i.size = s) (hby : i.bytes = bytes) (hzs : z.cells.size = s) (hs : ∀ x, (enc x).length = s) (h0 : 0 < s) (hone : ∀ x, ∀ u ∈ enc x, u.oneCell' = true)
    {v : Value} {L M : List α} (hy : a.eval y = v) (hown : OwnF enc s e w base v L)
    {ao : Option Addr} {m c : Nat} (hx : a.eval x = .slice ao m c) (hl : SlF s w ao m c (flat enc M))
    (h63 : L.length + m ≤ maxLen) (hbytes : (L.length + m) * bytes ≤ 140737488355328) (hbase : base ≤ w.heap.size)
    (h : ∀ v' w', OwnF enc s e w' base v' (L ++ M) → w.grownBy w' v.ownBlock → Below base w w' → wpList P ops Q rest (a.put o.dst v') w') : wpList P ops Q (o :: rest) a w := by
  have hM := hl.count hs h0
  have hlt := World.ownsRow.lt hown
  have fin : ∀ v' w', w'.ownsRow base e s v' (L.length + m) (flat enc L ++ flat enc M) → w.grownBy w' v.ownBlock → wpList P ops Q rest (a.put o.dst v') w' := fun v' w' h1 h2 =>
    h v' w' (by unfold OwnF; rw [List.length_append, hM, flat_append]; exact h1) h2 ((Below.refl _ _).grown h2 hbase fun k hk => (hlt k hk).1)
  cases ao with
  | none =>
    have hc := hl.nil rfl
    have hm : m = 0 := by have := hl.le; omega
    subst hc hm
    have hn : M = [] := List.eq_nil_of_length_eq_zero hM
    subst hn
    refine wpList_append_own_none hgd y x t ho base e i s ht hi v L.length _ hy hown hx ?_
    exact fin v w (by rw [flat_nil, List.append_nil]; exact hown) (World.grownBy.refl _ _)
  | some ad =>
    refine wpList_append_own _ hgd y x t ho base e i z s bytes ht hi hz hsize hby hzs h0 v L.length _ hy hown ad m c (flat enc M) hx (by rw [flat_len hs, hM]) ?_ ?_ h63 hbytes hbase (fun v' w' h1 h2 _ => fin v' w' h1 h2)
    · intro j u hu
      obtain ⟨b, of, e, hc⟩ := hl.at_ j u hu
      obtain rfl := Option.some.inj e
      rw [Addr.add_lit]; exact hc
    · intro u hu
      obtain ⟨q, _, hq⟩ := List.mem_flatMap.1 hu
      exact hone q u hq

/-- 'x[k:]'. -/
theorem wpList_flat_low {P : Program} {w : World} {ops : Array Oper} {rest : List Oper} {o : Oper} {a : Act} {Q : Exit → Act → World → Prop} (hgd : o.guard = .none) (t : TypeId) (x l : Operand)
    (ho : o.op = .slice t x (some l) .none .none) (i : TypeInfo) (ht : P.underlying t = some (.slice e)) (hi : P.info? e = some i) (hsz : i.size = s) (hs : ∀ x, (enc x).length = s)
    {ao : Option Addr} {n cap : Nat} {L : List α} (hx : a.eval x = .slice ao n cap) (hS : SlF s w ao n cap (flat enc L)) {kl : IntKind} {K : Int} {k : Nat} (hl : a.eval l = .int kl K) (hL : K = (k : Int)) (hk : k ≤ n)
    (h : ∀ ao', SlF s w ao' (n - k) (cap - k) (flat enc (L.drop k)) → (∀ ad', ao' = some ad' → ∃ ad, ao = some ad ∧ ad'.block = ad.block) → wpList P ops Q rest (a.put o.dst (.slice ao' (n - k) (cap - k))) w) : wpList P ops Q (o :: rest) a w := by
  subst hL
  refine wpList_val hgd (v := .slice (if cap = k then ao else ao.map (·.add (k * s))) (n - k) (cap - k)) (w' := w) ?_ (h _ (by rw [flat_drop hs]; exact hS.drop hk) (by
    intro ad' e
    split at e
    · exact ⟨ad', e, rfl⟩
    · cases ao with
      | none => simp at e
      | some ad => simp at e; subst e; exact ⟨ad, rfl, by simp [Addr.add]; split <;> rfl⟩))
  have hr := run_sliceAt_lh ht hi w ao n cap (some (.int kl k)) .none k n (fun w => by simp [Instr.sliceBounds, run_sliceBound, hk])
  simp only [execOp, ho, hx, hl, Option.map_some, Option.map_none, Sem.run_bind, hr, Result.andThen_ok, Sem.run_pure, hsz]

end
end Go.Proofs.YtimkkkdabmhedaaGreatDoor

/- What the document says of vocabularies, in plain Lean: no program here. -/
namespace Go.Proofs.YtimkkkdabmhedaaGreatDoor
open Go
set_option linter.unusedVariables false

structure Mg where
  left : Int
  right : Int
  out : Int
  order : Int
structure Sp where
  name : ByteArray
  id : Int
structure Rw where
  token : ByteArray
  rank : Int
structure Vc where
  tokens : List ByteArray
  merges : List Mg
  specials : List Sp

instance : Inhabited Mg := ⟨⟨0, 0, 0, 0⟩⟩
instance : Inhabited Sp := ⟨⟨ByteArray.empty, 0⟩⟩

/-- The bytes of a token. -/
def tk (T : List ByteArray) (i : Nat) : ByteArray := T.getD i ByteArray.empty
theorem tk_eq {T : List ByteArray} {i : Nat} (h : i < T.length) : T[i]? = some (tk T i) := by simp [tk, List.getD, h]
theorem tk_mem {T : List ByteArray} {i : Nat} (h : i < T.length) : tk T i ∈ T := by
  have := tk_eq h
  exact List.mem_of_getElem? this
theorem mem_tk {T : List ByteArray} {s : ByteArray} (h : s ∈ T) : ∃ i, i < T.length ∧ tk T i = s := by
  obtain ⟨i, hi, rfl⟩ := List.getElem_of_mem h
  exact ⟨i, hi, by simp [tk, List.getD, hi]⟩

/-- The least number of a token of such bytes. -/
def ofT (T : List ByteArray) (s : ByteArray) : Int := if s.size = 0 then -1 else match T.findIdx? (fun x => decide (x = s)) with | some i => (i : Int) | none => -1

theorem ofT_empty (T : List ByteArray) {s : ByteArray} (h : s.size = 0) : ofT T s = -1 := by unfold ofT; rw [if_pos h]
theorem ofT_some {T : List ByteArray} {s : ByteArray} {i : Nat} (h0 : s.size ≠ 0) (hi : i < T.length) (he : tk T i = s) (hn : ∀ j, j < i → tk T j ≠ s) : ofT T s = i := by
  unfold ofT
  rw [if_neg h0]
  have : T.findIdx? (fun x => decide (x = s)) = some i := by
    rw [List.findIdx?_eq_some_iff_getElem]
    have ht : ∀ j (hj : j < T.length), T[j] = tk T j := fun j hj => by simp [tk, List.getD, hj]
    exact ⟨hi, by rw [ht i hi]; simpa using he, fun j hj => by rw [ht j (by omega)]; simpa using hn j hj⟩
  rw [this]
theorem ofT_none {T : List ByteArray} {s : ByteArray} (hn : ∀ j, j < T.length → tk T j ≠ s) : ofT T s = -1 := by
  unfold ofT
  split
  · rfl
  · have : T.findIdx? (fun x => decide (x = s)) = none := by
      rw [List.findIdx?_eq_none_iff]
      intro x hx
      obtain ⟨j, hj, rfl⟩ := mem_tk hx
      simpa using hn j hj
    rw [this]
theorem ofT_cases (T : List ByteArray) (s : ByteArray) : (s.size = 0 ∧ ofT T s = -1) ∨ (s.size ≠ 0 ∧ (∃ i : Nat, i < T.length ∧ tk T i = s ∧ (∀ j, j < i → tk T j ≠ s) ∧ ofT T s = i)) ∨ (s.size ≠ 0 ∧ (∀ j, j < T.length → tk T j ≠ s) ∧ ofT T s = -1) := by
  by_cases h0 : s.size = 0
  · exact .inl ⟨h0, ofT_empty T h0⟩
  · right
    cases h : T.findIdx? (fun x => decide (x = s)) with
    | none =>
      right
      rw [List.findIdx?_eq_none_iff] at h
      have hn : ∀ j, j < T.length → tk T j ≠ s := fun j hj => by simpa using h _ (tk_mem hj)
      exact ⟨h0, hn, ofT_none hn⟩
    | some i =>
      left
      obtain ⟨h1, h2, h3⟩ := List.findIdx?_eq_some_iff_getElem.1 h
      have ht : ∀ j (hj : j < T.length), T[j] = tk T j := fun j hj => by simp [tk, List.getD, hj]
      have e1 : tk T i = s := by rw [ht i h1] at h2; simpa using h2
      have e2 : ∀ j, j < i → tk T j ≠ s := fun j hj => by have := h3 j hj; rw [ht j (by omega)] at this; simpa using this
      exact ⟨h0, i, h1, e1, e2, ofT_some h0 h1 e1 e2⟩

/-- A number of a token that isn't empty. -/
def isTk (T : List ByteArray) (i : Int) : Bool := decide (0 ≤ i) && decide (i < T.length) && decide ((tk T i.toNat).size ≠ 0)
theorem isTk_iff {T : List ByteArray} {i : Int} : isTk T i = true ↔ 0 ≤ i ∧ i < T.length ∧ (tk T i.toNat).size ≠ 0 := by
  unfold isTk; simp [and_assoc]

/-- A byte, alone. -/
def one (b : Nat) : ByteArray := ⟨#[UInt8.ofNat b]⟩

/-- No two that aren't empty are the same. -/
def Uniq (T : List ByteArray) : Prop := ∀ i j, i < j → j < T.length → tk T i = tk T j → (tk T i).size = 0
def MayTok (T : List ByteArray) : Prop := T.length ≤ 4096 ∧ (∀ s ∈ T, s.size ≤ 64) ∧ Uniq T ∧ ∀ b, b < 256 → one b ∈ T

theorem Uniq.of {T : List ByteArray} (h : Uniq T) {i : Nat} (hi : i < T.length) (h0 : (tk T i).size ≠ 0) : ofT T (tk T i) = i :=
  ofT_some h0 hi rfl fun j hj e => h0 (by rw [← e]; exact h j i hj hi e)

/-- Does a merge stand ahead of another one? -/
def ahead (a b : Mg) : Bool := decide (a.order < b.order ∨ (a.order = b.order ∧ (a.left < b.left ∨ (a.left = b.left ∧ a.right < b.right))))
theorem ahead_iff {a b : Mg} : ahead a b = true ↔ a.order < b.order ∨ (a.order = b.order ∧ (a.left < b.left ∨ (a.left = b.left ∧ a.right < b.right))) := by unfold ahead; simp
theorem ahead_trans {a b c : Mg} (h1 : ahead a b = true) (h2 : ahead b c = true) : ahead a c = true := by rw [ahead_iff] at *; omega
def OkMg (T : List ByteArray) (m : Mg) : Prop := isTk T m.left = true ∧ isTk T m.right = true ∧ isTk T m.out = true ∧ tk T m.out.toNat = tk T m.left.toNat ++ tk T m.right.toNat ∧ 0 ≤ m.order ∧ m.order ≤ 1048576
/-- Of two merges, the first one ahead. -/
def Rise (a b : Mg) : Prop := ahead a b = true ∧ (a.order = b.order → a.out = b.out)
def Parts (a b : Mg) : Prop := ¬ (a.left = b.left ∧ a.right = b.right)
theorem Rise.trans {a b c : Mg} (h1 : Rise a b) (h2 : Rise b c) : Rise a c := by
  refine ⟨ahead_trans h1.1 h2.1, fun e => ?_⟩
  have a1 := ahead_iff.1 h1.1
  have a2 := ahead_iff.1 h2.1
  have e1 := h1.2 (by omega)
  have e2 := h2.2 (by omega)
  rw [e1, e2]
def MayMg (T : List ByteArray) (M : List Mg) : Prop := M.length ≤ 16384 ∧ (∀ m ∈ M, OkMg T m) ∧ M.Pairwise (fun a b => Rise a b ∧ Parts a b)

def MayMade (T : List ByteArray) (M : List Mg) : Prop := ∀ i, i < T.length → 1 < (tk T i).size → ∃ m ∈ M, m.out = (i : Int)

/-- A sign of a name. -/
def sign (c : UInt8) : Bool := (decide (97 ≤ c.toNat) && decide (c.toNat ≤ 122)) || (decide (48 ≤ c.toNat) && decide (c.toNat ≤ 57)) || decide (c.toNat = 95)
def MayName (s : ByteArray) : Prop := s.data.toList.all sign = true ∧ 1 ≤ s.size ∧ s.size ≤ 24

/-- Strings by their bytes. -/
def sless (a b : ByteArray) : Bool := Op.bytesLess a.toList b.toList

def OkSp (T : List ByteArray) (s : Sp) : Prop := MayName s.name ∧ 0 ≤ s.id ∧ s.id < T.length ∧ (tk T s.id.toNat).size = 0
def MaySp (T : List ByteArray) (S : List Sp) : Prop := S.length ≤ 16 ∧ (∀ s ∈ S, OkSp T s) ∧ S.Pairwise (fun a b => sless a.name b.name = true ∧ a.id ≠ b.id)

def May (v : Vc) : Prop := MayTok v.tokens ∧ MayMg v.tokens v.merges ∧ MayMade v.tokens v.merges ∧ MaySp v.tokens v.specials

/-- Numbers that may be. -/
def OkRows (R : List Rw) (S : List Sp) : Prop := (∀ s ∈ S, 0 ≤ s.id ∧ s.id < 4096) ∧ (∀ r ∈ R, 0 ≤ r.rank ∧ r.rank < 4096) ∧ R.Pairwise (fun a b => a.rank ≠ b.rank)
/-- One more than the greatest number. -/
def top (R : List Rw) (S : List Sp) : Int := (R.map (·.rank + 1)).foldl max ((S.map (·.id + 1)).foldl max 0)
/-- The token at a number. -/
def tokAt (R : List Rw) (i : Nat) : ByteArray := match R.find? (fun r => decide (r.rank = (i : Int))) with | some r => r.token | none => ByteArray.empty
def toksOf (R : List Rw) (S : List Sp) : List ByteArray := (List.range (top R S).toNat).map (tokAt R)

/-- The merges of one token, by its cuts. -/
def cutsOf (T : List ByteArray) (i : Nat) : List Mg :=
  (List.range ((tk T i).size - 1)).filterMap fun k =>
    let a := ofT T ((tk T i).extract 0 (k + 1))
    let b := ofT T ((tk T i).extract (k + 1) (tk T i).size)
    if 0 ≤ a ∧ 0 ≤ b then some ⟨a, b, i, i⟩ else none
def mergesOf (T : List ByteArray) : List Mg := (List.range T.length).flatMap (cutsOf T)

def sortMg (M : List Mg) : List Mg := M.mergeSort (fun a b => !ahead b a)
def sortSp (S : List Sp) : List Sp := S.mergeSort (fun a b => !sless b.name a.name)

end Go.Proofs.YtimkkkdabmhedaaGreatDoor

/- Plain laws of vocabularies: sorted rows are one; what comes of sorting may be just if the document's may. -/
namespace Go.Proofs.YtimkkkdabmhedaaGreatDoor
open Go
set_option linter.unusedVariables false

theorem pairwise_apart {α : Type} {lt : α → α → Bool} {l : List α} (h : l.Pairwise (fun a b => lt a b = true)) {a b : α} (ha : a ∈ l) (hb : b ∈ l) (h1 : lt a b = false) (h2 : lt b a = false) : a = b := by
  rw [List.pairwise_iff_getElem] at h
  obtain ⟨i, hi, rfl⟩ := List.getElem_of_mem ha
  obtain ⟨j, hj, rfl⟩ := List.getElem_of_mem hb
  rcases Nat.lt_trichotomy i j with h3 | h3 | h3
  · rw [h i j hi hj h3] at h1; cases h1
  · subst h3; rfl
  · rw [h j i hj hi h3] at h2; cases h2

theorem sort_unique {α : Type} {lt : α → α → Bool} {l l1 l2 : List α} (p1 : l1.Perm l) (p2 : l2.Perm l) (s1 : l1.Pairwise (fun a b => lt b a = false)) (s2 : l2.Pairwise (fun a b => lt b a = false))
    (h : l1.Pairwise (fun a b => lt a b = true)) : l1 = l2 :=
  List.Perm.eq_of_pairwise (le := fun a b => lt b a = false)
    (fun a b ha hb h1 h2 => pairwise_apart h ha ((p2.trans p1.symm).mem_iff.1 hb) h2 h1) s1 s2 (p1.trans p2.symm)

theorem ahead_asym (a b : Mg) (h : ahead a b = true) : ahead b a = false := by
  cases h2 : ahead b a with
  | false => rfl
  | true => rw [ahead_iff] at h h2; omega
theorem ahead_ntrans {a b c : Mg} (h1 : ahead a b = false) (h2 : ahead b c = false) : ahead a c = false := by
  have h1' : ¬ _ := fun h => by rw [ahead_iff.2 h] at h1; cases h1
  have h2' : ¬ _ := fun h => by rw [ahead_iff.2 h] at h2; cases h2
  cases h3 : ahead a c with
  | false => rfl
  | true => rw [ahead_iff] at h3; omega

theorem bytesLess_lt : ∀ (x y : List UInt8), Op.bytesLess x y = decide (x < y)
  | [], [] => by simp [Op.bytesLess]
  | [], _ :: _ => by simp [Op.bytesLess]
  | _ :: _, [] => by simp [Op.bytesLess]
  | a :: x, b :: y => by
    unfold Op.bytesLess
    rw [bytesLess_lt x y]
    by_cases h1 : a < b
    · simp [h1, List.cons_lt_cons_iff]
    · by_cases h2 : a = b
      · subst h2; simp
      · simp [h1, h2, List.cons_lt_cons_iff]

theorem sless_irrefl (a : ByteArray) : sless a a = false := by unfold sless; rw [bytesLess_lt]; simp [List.lt_irrefl]
theorem sless_asym (a b : ByteArray) (h : sless a b = true) : sless b a = false := by
  unfold sless at *
  rw [bytesLess_lt] at *
  simp at h ⊢
  exact List.le_of_lt h
theorem sless_trans {a b c : ByteArray} (h1 : sless a b = true) (h2 : sless b c = true) : sless a c = true := by
  unfold sless at *
  rw [bytesLess_lt] at *
  simp at h1 h2 ⊢
  exact List.lt_trans h1 h2
theorem sless_ntrans {a b c : ByteArray} (h1 : sless a b = false) (h2 : sless b c = false) : sless a c = false := by
  unfold sless at *
  rw [bytesLess_lt] at *
  simp at h1 h2 ⊢
  exact List.le_trans h2 h1

theorem sortMg_perm (M : List Mg) : (sortMg M).Perm M := List.mergeSort_perm _ _
theorem sortMg_sorted (M : List Mg) : (sortMg M).Pairwise (fun a b => ahead b a = false) := by
  have := List.pairwise_mergeSort (le := fun a b => !ahead b a) (fun a b c h1 h2 => by
    simp at h1 h2 ⊢
    exact ahead_ntrans h2 h1) (fun a b => by
    cases h : ahead b a with
    | false => simp
    | true => simp [ahead_asym _ _ h]) M
  exact this.imp fun {a b} h => by simpa using h
theorem sortSp_perm (S : List Sp) : (sortSp S).Perm S := List.mergeSort_perm _ _
theorem sortSp_sorted (S : List Sp) : (sortSp S).Pairwise (fun a b => sless b.name a.name = false) := by
  have := List.pairwise_mergeSort (le := fun a b : Sp => !sless b.name a.name) (fun a b c h1 h2 => by
    simp at h1 h2 ⊢
    exact sless_ntrans h2 h1) (fun a b => by
    cases h : sless b.name a.name with
    | false => simp
    | true => simp [sless_asym _ _ h]) S
  exact this.imp fun {a b} h => by simpa using h

theorem MayMg.rising {T : List ByteArray} {M : List Mg} (h : MayMg T M) : M.Pairwise (fun a b => ahead a b = true) := h.2.2.imp fun {a b} h => h.1.1
theorem MaySp.rising {T : List ByteArray} {S : List Sp} (h : MaySp T S) : S.Pairwise (fun a b => sless a.name b.name = true) := h.2.2.imp fun {a b} h => h.1

/-- What a sort hands back, if it may be, is the document's. -/
theorem sorted_mg {T : List ByteArray} {M M' : List Mg} (hp : M'.Perm M) (hs : M'.Pairwise (fun a b => ahead b a = false)) (h : MayMg T M' ∨ MayMg T (sortMg M)) : M' = sortMg M := by
  rcases h with h | h
  · exact sort_unique hp (sortMg_perm M) hs (sortMg_sorted M) h.rising
  · exact (sort_unique (sortMg_perm M) hp (sortMg_sorted M) hs h.rising).symm
theorem sorted_sp {T : List ByteArray} {S S' : List Sp} (hp : S'.Perm S) (hs : S'.Pairwise (fun a b => sless b.name a.name = false)) (h : MaySp T S' ∨ MaySp T (sortSp S)) : S' = sortSp S := by
  rcases h with h | h
  · exact sort_unique (lt := fun a b : Sp => sless a.name b.name) hp (sortSp_perm S) hs (sortSp_sorted S) h.rising
  · exact (sort_unique (lt := fun a b : Sp => sless a.name b.name) (sortSp_perm S) hp (sortSp_sorted S) hs h.rising).symm

theorem sorted_may {T : List ByteArray} {M M' : List Mg} {S S' : List Sp} (hp : M'.Perm M) (hs : M'.Pairwise (fun a b => ahead b a = false)) (hp2 : S'.Perm S) (hs2 : S'.Pairwise (fun a b => sless b.name a.name = false)) :
    (May ⟨T, M', S'⟩ ↔ May ⟨T, sortMg M, sortSp S⟩) ∧ (May ⟨T, M', S'⟩ → M' = sortMg M ∧ S' = sortSp S) := by
  have h1 : May ⟨T, M', S'⟩ → M' = sortMg M ∧ S' = sortSp S := fun h => ⟨sorted_mg hp hs (.inl h.2.1), sorted_sp hp2 hs2 (.inl h.2.2.2)⟩
  refine ⟨⟨fun h => ?_, fun h => ?_⟩, h1⟩
  · obtain ⟨e1, e2⟩ := h1 h
    rw [← e1, ← e2]; exact h
  · rw [sorted_mg hp hs (.inr h.2.1), sorted_sp hp2 hs2 (.inr h.2.2.2)]; exact h

/-- Merges: adjacent ones rise, and no parts are twice. -/
theorem pairwise_of_next {α : Type} {R : α → α → Prop} (htrans : ∀ a b c, R a b → R b c → R a c) {l : List α} (h : ∀ i a b, l[i]? = some a → l[i + 1]? = some b → R a b) : l.Pairwise R := by
  rw [List.pairwise_iff_getElem]
  intro i j hi hj hij
  induction j with
  | zero => omega
  | succ j ih =>
    have hstep := h j _ _ (List.getElem?_eq_getElem (by omega)) (List.getElem?_eq_getElem hj)
    rcases Nat.lt_or_ge i j with h1 | h1
    · exact htrans _ _ _ (ih (by omega) h1) hstep
    · obtain rfl : i = j := by omega
      exact hstep

end Go.Proofs.YtimkkkdabmhedaaGreatDoor

/- A map to ints that the program holds, told by what stands at each key, whatever the keys' type. Plain lemmas and laws of the walk. -/
namespace Go.Proofs.YtimkkkdabmhedaaGreatDoor
open Go.RowKit Go.Maps Go.ChangeMaps Go.WideMaps
set_option linter.unusedVariables false
set_option linter.unusedSimpArgs false

/-- How keys of a type are told: α's elements that may be, as values and as what the model orders them by. -/
structure KeyView (P : Program) (k : TypeId) (α : Type) where
  val : α → Value
  lit : α → Lit
  ok : α → Prop
  key : ∀ x, ok x → keyOf P k (val x) = some (lit x)
  inj : ∀ x y, ok x → ok y → lit x = lit y → x = y
  keyed : Keyed P k

section
variable {P : Program} {k t e : TypeId} {α : Type} {V : KeyView P k α}

/-- Block mb is a map of sz entries; at key s stands f s. -/
def MapK (V : KeyView P k α) (e : TypeId) (w : World) (mb sz : Nat) (f : α → Option Int) : Prop :=
  ∃ D : DataW Unit, w.ownsMap P k (plainElem P e) mb sz D ∧ Tidy D ∧ size D = sz ∧
    ∀ s, V.ok s → has D (V.lit s) = (f s).isSome ∧ ∀ c, f s = some c → D.atKey (V.lit s) (.lit (.int .i64 0)) = .lit (.int .i64 c)

theorem MapK.lt {w : World} {mb sz : Nat} {f : α → Option Int} (h : MapK V e w mb sz f) : mb < w.heap.size := let ⟨_, h1, _⟩ := h; h1.lt

theorem MapK.stay {w w' : World} {mb sz : Nat} {f : α → Option Int} (h : MapK V e w mb sz f) (hb : w'.heap[mb]? = w.heap[mb]?) : MapK V e w' mb sz f := by
  obtain ⟨D, ⟨es, clock, h1, h2⟩, r⟩ := h
  exact ⟨D, ⟨es, clock, hb.trans h1, h2⟩, r⟩
theorem MapK.below {w w' : World} {mb sz : Nat} {f : α → Option Int} (h : MapK V e w mb sz f) (hb : Below w.heap.size w w') : MapK V e w' mb sz f := h.stay (hb.block _ h.lt)
theorem MapK.drewN {w : World} {mb sz : Nat} {f : α → Option Int} (h : MapK V e w mb sz f) (n : Nat) : MapK V e (w.drewN n) mb sz f := h.stay rfl
theorem MapK.alloc {w : World} {mb sz : Nat} {f : α → Option Int} (h : MapK V e w mb sz f) (o : Obj) : MapK V e (w.alloc o) mb sz f := h.below (below_alloc w o)

theorem ownsMapK_size {w : World} {b n : Nat} {D : DataW Unit} (h : w.ownsMap P k (plainElem P e) b n D) : w.ownsMap P k (plainElem P e) b (size D) D := by
  obtain ⟨es, clock, hb, F, hn, rfl⟩ := h
  refine ⟨es, clock, hb, F, ?_, rfl⟩
  rw [size_eq, length_sorted]
  simp

theorem MapK.new (V : KeyView P k α) (e : TypeId) (w : World) : MapK V e (w.alloc (.map #[] 0)) w.heap.size 0 (fun _ => none) :=
  ⟨.map [], World.ownsMap_made _ _ _ _, tidy_empty, rfl, fun s _ => ⟨rfl, fun c h => by cases h⟩⟩

theorem MapK.congr {w : World} {mb sz sz' : Nat} {f g : α → Option Int} (h : MapK V e w mb sz f) (hs : sz = sz') (hf : ∀ s, V.ok s → f s = g s) : MapK V e w mb sz' g := by
  subst hs
  obtain ⟨D, h1, h2, h3, h4⟩ := h
  exact ⟨D, h1, h2, h3, fun s hs => by rw [← hf s hs]; exact h4 s hs⟩

variable {w : World} {ops : Array Oper} {rest : List Oper} {o : Oper} {a : Act} {Q : Exit → Act → World → Prop}

theorem wpList_mk_ok (ht : P.underlying t = some (.map k e)) (he : P.underlying e = some (.int .i64)) (hz : ∀ w : World, (zeroValue e).run P w = .ok (.int .i64 0) w)
    (hg : o.guard = none) (m x : Operand) (hop : o.op = Op.lookup t m x true) {mb sz : Nat} {f : α → Option Int} (hm : a.eval m = .map (some mb)) (h : MapK V e w mb sz f)
    {s : α} (hx : a.eval x = V.val s) (hs : V.ok s)
    (hK : wpList P ops Q rest (a.put o.dst (.tuple #[.int .i64 ((f s).getD 0), .bool (f s).isSome])) w) : wpList P ops Q (o :: rest) a w := by
  obtain ⟨D, h1, h2, h3, h4⟩ := h
  refine wpList_lookup_own_ok_int w hg m x t hop k e .i64 V.keyed ht he (hz w) mb sz D hm h1 _ (V.lit s) hx (V.key s hs) ?_
  intro c hat _
  have hh := h4 s hs
  rw [hh.1]
  have hc : c = (f s).getD 0 := by
    cases hf : f s with
    | none =>
      rw [hf] at hh
      rw [atKey_of_not_has (by simpa using hh.1)] at hat
      simpa using hat.symm
    | some c' =>
      have := hh.2 c' hf
      rw [this] at hat
      simpa using hat.symm
  rw [hc]
  exact hK

theorem wpList_mk_get (ht : P.underlying t = some (.map k e)) (he : P.underlying e = some (.int .i64)) (hz : ∀ w : World, (zeroValue e).run P w = .ok (.int .i64 0) w)
    (hg : o.guard = none) (m x : Operand) (hop : o.op = Op.lookup t m x false) {mb sz : Nat} {f : α → Option Int} (hm : a.eval m = .map (some mb)) (h : MapK V e w mb sz f)
    {s : α} (hx : a.eval x = V.val s) (hs : V.ok s)
    (hK : wpList P ops Q rest (a.put o.dst (.int .i64 ((f s).getD 0))) w) : wpList P ops Q (o :: rest) a w := by
  obtain ⟨D, h1, h2, h3, h4⟩ := h
  refine wpList_lookup_own_int w hg m x t hop k e .i64 V.keyed ht he (hz w) mb sz D hm h1 _ (V.lit s) hx (V.key s hs) ?_
  intro c hat _
  have hh := h4 s hs
  have hc : c = (f s).getD 0 := by
    cases hf : f s with
    | none =>
      rw [hf] at hh
      rw [atKey_of_not_has (by simpa using hh.1)] at hat
      simpa using hat.symm
    | some c' =>
      have := hh.2 c' hf
      rw [this] at hat
      simpa using hat.symm
  rw [hc]
  exact hK

theorem wpList_mk_put [DecidableEq α] (ht : P.underlying t = some (.map k e)) (he : P.underlying e = some (.int .i64))
    (hg : o.guard = none) (m x v : Operand) (hop : o.op = Op.mapUpdate t m x v) {mb sz : Nat} {f : α → Option Int} (hm : a.eval m = .map (some mb)) (h : MapK V e w mb sz f)
    {s : α} (hx : a.eval x = V.val s) (hs : V.ok s) {c : Int} (hv : a.eval v = .int .i64 c) (hc : (Lit.int .i64 c).wf = true) (hn : sz < maxLen)
    (hK : ∀ w', MapK V e w' mb (if (f s).isSome then sz else sz + 1) (fun t => if t = s then some c else f t) → w.grownBy w' (some mb) → wpList P ops Q rest (a.put o.dst undef) w') : wpList P ops Q (o :: rest) a w := by
  obtain ⟨D, h1, h2, h3, h4⟩ := h
  have hkl : WideAt.IsKeyLit (V.lit s) := V.keyed.key (V.key s hs)
  refine wpList_mapUpdate_own w hg m x v t hop k e V.keyed ht _ mb sz D hm h1 hn _ _ (V.lit s) hx hv (V.key s hs) _ [] (plainElem_int he hc) ?_
  intro w' hown hgrow
  have e1 : size (D.put (V.lit s) (.lit (.int .i64 c))) = if (f s).isSome then sz else sz + 1 := by
    rw [size_put h2, (h4 s hs).1, h3]
  refine hK w' ⟨D.put (V.lit s) (.lit (.int .i64 c)), ?_, h2.put hkl _, e1, fun t ht' => ?_⟩ hgrow
  · have := ownsMapK_size hown
    rw [e1] at this
    exact this
  · by_cases e2 : t = s
    · subst e2
      simp only [if_true, Option.isSome_some, Option.some.injEq]
      refine ⟨has_put_same h2.isMap hkl _, fun c' hc' => ?_⟩
      subst hc'
      exact atKey_put_same h2.isMap hkl _ _
    · have hne : V.lit t ≠ V.lit s := fun h => e2 (V.inj t s ht' hs h)
      simp only [e2, if_false]
      rw [has_put_other hne]
      exact ⟨(h4 t ht').1, fun c' hc' => by rw [atKey_put_other hne]; exact (h4 t ht').2 c' hc'⟩

/-- 'm[k] = c', run. -/
theorem MapK.update [DecidableEq α] (ht : P.underlying t = some (.map k e)) (he : P.underlying e = some (.int .i64)) {mb sz : Nat} {f : α → Option Int} (h : MapK V e w mb sz f)
    {s : α} (hs : V.ok s) {c : Int} (hc : (Lit.int .i64 c).wf = true) (hn : sz < maxLen) :
    ∃ w', (Instr.mapUpdate t (.map (some mb)) (V.val s) (.int .i64 c)).run P w = .ok () w' ∧ MapK V e w' mb (if (f s).isSome then sz else sz + 1) (fun t => if t = s then some c else f t) ∧ w.grownBy w' (some mb) := by
  obtain ⟨D, h1, h2, h3, h4⟩ := h
  have hkl : WideAt.IsKeyLit (V.lit s) := V.keyed.key (V.key s hs)
  obtain ⟨w', hrun, hown, hgrow⟩ := h1.update V.keyed ht hn (V.key s hs) (plainElem_int he hc)
  have e1 : size (D.put (V.lit s) (.lit (.int .i64 c))) = if (f s).isSome then sz else sz + 1 := by
    rw [size_put h2, (h4 s hs).1, h3]
  refine ⟨w', hrun, ⟨D.put (V.lit s) (.lit (.int .i64 c)), ?_, h2.put hkl _, e1, fun t ht' => ?_⟩, hgrow⟩
  · have := ownsMapK_size hown
    rw [e1] at this
    exact this
  · by_cases e2 : t = s
    · subst e2
      simp only [if_true, Option.isSome_some, Option.some.injEq]
      refine ⟨has_put_same h2.isMap hkl _, fun c' hc' => ?_⟩
      subst hc'
      exact atKey_put_same h2.isMap hkl _ _
    · have hne : V.lit t ≠ V.lit s := fun h => e2 (V.inj t s ht' hs h)
      simp only [e2, if_false]
      rw [has_put_other hne]
      exact ⟨(h4 t ht').1, fun c' hc' => by rw [atKey_put_other hne]; exact (h4 t ht').2 c' hc'⟩

/-- 'm[k]', run. -/
theorem MapK.get (ht : P.underlying t = some (.map k e)) (he : P.underlying e = some (.int .i64)) (hz : ∀ w : World, (zeroValue e).run P w = .ok (.int .i64 0) w) {mb sz : Nat} {f : α → Option Int} (h : MapK V e w mb sz f)
    {s : α} (hs : V.ok s) : (Instr.lookup t (.map (some mb)) (V.val s) false).run P w = .ok (.int .i64 ((f s).getD 0)) w := by
  obtain ⟨D, h1, h2, h3, h4⟩ := h
  obtain ⟨c, hrun, hat, _⟩ := h1.lookup_int V.keyed ht he (hz w) (V.key s hs)
  have hh := h4 s hs
  have hc : c = (f s).getD 0 := by
    cases hf : f s with
    | none =>
      rw [hf] at hh
      rw [atKey_of_not_has (by simpa using hh.1)] at hat
      simpa using hat.symm
    | some c' =>
      have := hh.2 c' hf
      rw [this] at hat
      simpa using hat.symm
  rw [← hc]
  exact hrun

/-- What 'm[k]++' leaves between its two halves, and behind them. -/
structure Entry (V : KeyView P k α) (t e : TypeId) (mb sz : Nat) (f : α → Option Int) (s : α) (o0 o1 : Obj) (v stamp : Value) (o2 : Int → Obj) : Prop where
  look0 : ∀ W : World, W.heap[mb]? = some o0 → (Instr.lookup t (.map (some mb)) (V.val s) false).run P W = .ok (.int .i64 ((f s).getD 0)) W
  entry : ∀ W : World, W.heap[mb]? = some o0 → (Instr.mapEntry t (.map (some mb)) (V.val s)).run P W = .ok (.tuple #[v, stamp]) (ChangeMaps.setBlock W mb o1)
  at1 : ∀ W : World, W.heap[mb]? = some o0 → (ChangeMaps.setBlock W mb o1).heap[mb]? = some o1
  look1 : ∀ W : World, W.heap[mb]? = some o1 → (Instr.lookup t (.map (some mb)) (V.val s) false).run P W = .ok (.int .i64 ((f s).getD 0)) W
  store : ∀ (W : World) (c : Int), W.heap[mb]? = some o1 → (Instr.entryStore t (.map (some mb)) stamp (.int .i64 c)).run P W = .ok () (ChangeMaps.setBlock W mb (o2 c))
  fin : ∀ (W : World) (c : Int), (Lit.int .i64 c).wf = true → W.heap[mb]? = some (o2 c) → ∃ sz' g, sz' ≤ sz + 1 ∧ MapK V e W mb sz' g ∧ g s = some c ∧ ∀ t, t ≠ s → g t = f t

theorem findIdx_nodup {es : Array MapEntry} (hnd : (es.toList.map (·.born)).Nodup) {j : Nat} {x : MapEntry} (hj : es[j]? = some x) : es.findIdx? (fun e => (e.born : Int) == (x.born : Int)) = some j := by
  rw [Array.findIdx?_eq_some_iff_getElem]
  obtain ⟨hlt, hx⟩ := Array.getElem?_eq_some_iff.1 hj
  refine ⟨hlt, by rw [hx]; simp, fun i hi => ?_⟩
  have h := (List.pairwise_iff_getElem.1 hnd) i j (by simp; omega) (by simpa using hlt) hi
  simp only [List.getElem_map, Array.getElem_toList] at h
  rw [hx] at h
  simp only [beq_iff_eq]
  intro h2
  exact h (by omega)

theorem below_setBlock {A W : World} {B mb : Nat} {o : Obj} (h : Below B A W) (hm : B ≤ mb) : Below B A (ChangeMaps.setBlock W mb o) :=
  ⟨h.os, h.tape, h.output, by have := h.size; simp [ChangeMaps.setBlock]; exact this, fun q hq => by
    rw [← h.block q hq]
    show (W.heap.setIfInBounds mb o)[q]? = _
    rw [Array.getElem?_setIfInBounds_ne (by omega)]⟩

theorem MapK.entry [DecidableEq α] (ht : P.underlying t = some (.map k e)) (he : P.underlying e = some (.int .i64)) (hz : ∀ w : World, (zeroValue e).run P w = .ok (.int .i64 0) w) {mb sz : Nat} {f : α → Option Int} (h : MapK V e w mb sz f)
    {s : α} (hs : V.ok s) (hn : sz < maxLen) : ∃ o0 o1 v stamp o2, w.heap[mb]? = some o0 ∧ Entry V t e mb sz f s o0 o1 v stamp o2 := by
  have hkey := V.key s hs
  have hget := fun (W : World) (hW : MapK V e W mb sz f) => MapK.get (s := s) ht he hz hW hs
  have hupd := fun (W : World) (hW : MapK V e W mb sz f) (c : Int) (hc : (Lit.int .i64 c).wf = true) => MapK.update (s := s) ht he hW hs hc hn
  have hmem := h
  obtain ⟨D, ⟨es, clock, hb, F, hsz, hD⟩, hrest⟩ := h
  have hM : ∀ W : World, W.heap[mb]? = some (.map es clock) → MapK V e W mb sz f := fun W hW => ⟨D, ⟨es, clock, hW, F, hsz, hD⟩, hrest⟩
  by_cases hx : ∃ x ∈ es.toList, x.key = V.val s
  · -- it is there
    obtain ⟨x, hxm, hxk⟩ := hx
    obtain ⟨j, hj⟩ : ∃ j, es[j]? = some x := by
      obtain ⟨j, hj, rfl⟩ := List.getElem_of_mem hxm
      exact ⟨j, by simp at hj; exact Array.getElem?_eq_getElem hj⟩
    have hjl := (Array.getElem?_eq_some_iff.1 hj).1
    have hfind : ∀ W : World, (Instr.findKey k (V.val s) es.toList).run P W = .ok (some (j, x.val)) W := fun W => by
      rcases V.keyed.find W hkey es.toList F.keys with ⟨_, h2⟩ | ⟨j', e0, h1, h2, h3⟩
      · exact absurd hxk (h2 x hxm)
      · have hjj : j' = j := by
          have hnd := F.stamped.2.2
          have hj' : es[j']? = some e0 := by simpa using h2
          have hjl' := (Array.getElem?_eq_some_iff.1 hj').1
          rcases Nat.lt_trichotomy j' j with h4 | h4 | h4
          · have := (List.pairwise_iff_getElem.1 hnd) j' j (by simpa using hjl') (by simpa using hjl) h4
            simp only [List.getElem_map, Array.getElem_toList] at this
            rw [(Array.getElem?_eq_some_iff.1 hj).2, (Array.getElem?_eq_some_iff.1 hj').2, hxk, h3] at this
            exact absurd rfl this
          · exact h4
          · have := (List.pairwise_iff_getElem.1 hnd) j j' (by simpa using hjl) (by simpa using hjl') h4
            simp only [List.getElem_map, Array.getElem_toList] at this
            rw [(Array.getElem?_eq_some_iff.1 hj).2, (Array.getElem?_eq_some_iff.1 hj').2, hxk, h3] at this
            exact absurd rfl this
        subst hjj
        have hj' : es[j']? = some e0 := by simpa using h2
        rw [hj] at hj'
        cases hj'
        exact h1
    have hmod : es.modify j (fun e => { e with key := V.val s }) = es := by
      apply Array.ext
      · simp
      · intro i h1 h2
        rw [Array.getElem_modify]
        split
        · subst i
          have : es[j] = x := (Array.getElem?_eq_some_iff.1 hj).2
          rw [this, ← hxk]
        · rfl
    have hmod2 : ∀ c : Int, (es.modify j fun e => { e with key := V.val s, val := .int .i64 c }) = es.modify j (fun e => { e with val := .int .i64 c }) := fun c => by
      apply Array.ext
      · simp
      · intro i h1 h2
        rw [Array.getElem_modify, Array.getElem_modify]
        split
        · subst i
          have : es[j] = x := (Array.getElem?_eq_some_iff.1 hj).2
          rw [this, ← hxk]
        · rfl
    have hstay : ∀ W : World, (Instr.keyThatStays x.key (V.val s)).run P W = .ok (V.val s) W := fun W => by
      rw [hxk]
      exact V.keyed.stays W hkey
    refine ⟨.map es clock, .map es clock, x.val, goInt x.born, fun c => .map (es.modify j (fun e => { e with val := .int .i64 c })) clock, hb, ⟨fun W hW => hget W (hM W hW), fun W hW => ?_, fun W hW => heap_setBlock_same hW _, fun W hW => hget W (hM W hW), fun W c hW => ?_, fun W c hc hW => ?_⟩⟩
    · simp [Instr.mapEntry, run_underlying ht, MapKept.run_getObj_map hW, V.keyed.check W false hkey, hfind W, hstay W, hmod, MapKept.run_setObj_map _ hW, Result.andThen, ChangeMaps.setBlock, hj]
    · simp [Instr.entryStore, MapKept.run_getObj_map hW, MapKept.run_setObj_map _ hW, Result.andThen, ChangeMaps.setBlock, goInt, asInt, asIntOf, findIdx_nodup F.stamped.2.1 hj]
    · obtain ⟨w', hrun, hm', hg'⟩ := hupd w hmem c hc
      have hrun2 : (Instr.mapUpdate t (.map (some mb)) (V.val s) (.int .i64 c)).run P w = .ok () (ChangeMaps.setBlock w mb (.map (es.modify j (fun e => { e with val := .int .i64 c })) clock)) := by
        simp [Instr.mapUpdate, run_underlying ht, MapKept.run_getObj_map hb, V.keyed.check w false hkey, hfind w, hj, hstay w, hmod2, MapKept.run_setObj_map _ hb, Result.andThen, ChangeMaps.setBlock]
      rw [hrun] at hrun2
      have hw' : w' = _ := (Result.ok.inj hrun2).2
      refine ⟨_, _, ?_, hm'.stay (by rw [hW, hw']; exact (heap_setBlock_same hb _).symm), by simp, fun t ht => by simp [ht]⟩
      split <;> omega
  · have hx' : ∀ x ∈ es.toList, x.key ≠ V.val s := fun x hxm e => hx ⟨x, hxm, e⟩
    have hfind : ∀ W : World, (Instr.findKey k (V.val s) es.toList).run P W = .ok none W := fun W => by
      rcases V.keyed.find W hkey es.toList F.keys with ⟨h1, _⟩ | ⟨j', e0, _, h2, h3⟩
      · exact h1
      · exact absurd h3 (hx' e0 (by have : es.toList[j']? = some e0 := h2; exact List.mem_of_getElem? this))
    have hf0 : (f s).getD 0 = 0 := by
      have h1 := hget w hmem
      simp [Instr.lookup, run_underlying ht, MapKept.run_getObj_map hb, V.keyed.check w _ hkey, hfind w, hz w, Result.andThen] at h1
      exact h1.symm
    have hfit : ∀ c : Int, (Lit.int .i64 c).wf = true → MapK V e (ChangeMaps.setBlock w mb (.map (es.push ⟨V.val s, .int .i64 c, clock⟩) (clock + 1))) mb (if (f s).isSome then sz else sz + 1) (fun t => if t = s then some c else f t) := fun c hc => by
      obtain ⟨w', hrun, hm', hg'⟩ := hupd w hmem c hc
      have hrun2 : (Instr.mapUpdate t (.map (some mb)) (V.val s) (.int .i64 c)).run P w = .ok () (ChangeMaps.setBlock w mb (.map (es.push ⟨V.val s, .int .i64 c, clock⟩) (clock + 1))) := by
        simp [Instr.mapUpdate, run_underlying ht, MapKept.run_getObj_map hb, V.keyed.check w false hkey, hfind w, MapKept.run_setObj_map _ hb, Result.andThen, ChangeMaps.setBlock]
      rw [hrun] at hrun2
      have hw' : w' = _ := (Result.ok.inj hrun2).2
      rw [← hw']; exact hm'
    have hw0 : (Lit.int .i64 0).wf = true := by decide
    have hes1 : ∀ W : World, W.heap[mb]? = some (.map (es.push ⟨V.val s, .int .i64 0, clock⟩) (clock + 1)) → (Instr.lookup t (.map (some mb)) (V.val s) false).run P W = .ok (.int .i64 ((f s).getD 0)) W := fun W hW => by
      have h1 := (hfit 0 hw0).stay (w' := W) (by rw [hW]; exact (heap_setBlock_same hb _).symm)
      have h2 := MapK.get (s := s) ht he hz h1 hs
      rw [h2, hf0]
      simp
    have hidx : (es.push ⟨V.val s, .int .i64 0, clock⟩).findIdx? (fun e => (e.born : Int) == (clock : Int)) = some es.size := by
      rw [Array.findIdx?_eq_some_iff_getElem]
      refine ⟨by simp, by simp, fun i hi => ?_⟩
      rw [Array.getElem_push_lt hi]
      have := F.stamped.1 es[i] (by simp)
      simp only [beq_iff_eq]
      omega
    have hmod : ∀ c : Int, (es.push ⟨V.val s, .int .i64 0, clock⟩).modify es.size (fun e => { e with val := .int .i64 c }) = es.push ⟨V.val s, .int .i64 c, clock⟩ := fun c => by
      apply Array.ext
      · simp
      · intro i h1 h2
        rw [Array.getElem_modify]
        split
        · subst i; simp
        · rename_i hne
          have hi : i < es.size := by simp at h2; omega
          rw [Array.getElem_push_lt hi, Array.getElem_push_lt hi]
    refine ⟨.map es clock, .map (es.push ⟨V.val s, .int .i64 0, clock⟩) (clock + 1), .int .i64 0, goInt clock, fun c => .map (es.push ⟨V.val s, .int .i64 c, clock⟩) (clock + 1), hb, ⟨fun W hW => hget W (hM W hW), fun W hW => ?_, fun W hW => heap_setBlock_same hW _, hes1, fun W c hW => ?_, fun W c hc hW => ?_⟩⟩
    · simp [Instr.mapEntry, run_underlying ht, MapKept.run_getObj_map hW, V.keyed.check W false hkey, hfind W, hz W, MapKept.run_setObj_map _ hW, Result.andThen, ChangeMaps.setBlock]
    · simp [Instr.entryStore, MapKept.run_getObj_map hW, MapKept.run_setObj_map _ hW, Result.andThen, ChangeMaps.setBlock, goInt, asInt, asIntOf, hidx, hmod c]
    · refine ⟨_, _, ?_, (hfit c hc).stay (by rw [hW]; exact (heap_setBlock_same hb _).symm), by simp, fun t ht => by simp [ht]⟩
      split <;> omega

end

/-- Keys told by the model's own words. -/
noncomputable def KeyView.of {P : Program} {k : TypeId} {α : Type} (val : α → Value) (ok : α → Prop) (h : ∀ x, ok x → (keyOf P k (val x)).isSome = true) (inj : ∀ x y, val x = val y → x = y) (K : Keyed P k) : KeyView P k α where
  val := val
  lit x := (keyOf P k (val x)).getD (.bool false)
  ok := ok
  key x hx := by
    cases e : keyOf P k (val x) with
    | none => have := h x hx; rw [e] at this; cases this
    | some l => rfl
  inj x y hx hy e := by
    cases e1 : keyOf P k (val x) with
    | none => have := h x hx; rw [e1] at this; cases this
    | some l =>
      cases e2 : keyOf P k (val y) with
      | none => have := h y hy; rw [e2] at this; cases this
      | some l2 =>
        rw [e1, e2] at e
        simp at e
        subst e
        exact inj x y (K.inj e1 e2)
  keyed := K

/-- Strings as keys. -/
noncomputable def strView {P : Program} {k : TypeId} (hk : P.underlying k = some .string) : KeyView P k ByteArray :=
  KeyView.of .string (fun s => s.size ≤ maxLen) (fun s hs => by rw [keyOf_string_mk hk hs]; rfl) (fun x y h => by simpa using h) (string_keyed hk)

/-- Ints as keys. -/
theorem i64_wf {x : Int} : (Lit.int .i64 x).wf = true ↔ -9223372036854775808 ≤ x ∧ x ≤ 9223372036854775807 := by
  simp [Lit.wf, IntKind.min, IntKind.max, IntKind.signed, IntKind.bits]
noncomputable def intView {P : Program} {k : TypeId} (hk : P.underlying k = some (.int .i64)) : KeyView P k Int :=
  KeyView.of (.int .i64) (fun x => (Lit.int .i64 x).wf = true) (fun s hs => by rw [keyOf_int_mk hk hs]; rfl) (fun x y h => by simpa using h) (int_keyed hk)

end Go.Proofs.YtimkkkdabmhedaaGreatDoor

/- Walks: numbers of tokens, by the program and by the document. -/
namespace Go.Proofs.YtimkkkdabmhedaaGreatDoor
open Go.RowKit
set_option linter.unusedVariables false

theorem isTk_neg {T : List ByteArray} {i : Int} (h : i < 0) : isTk T i = false := by unfold isTk; simp; omega
theorem isTk_out {T : List ByteArray} {i : Int} (h : (T.length : Int) ≤ i) : isTk T i = false := by unfold isTk; simp; omega
theorem isTk_at {T : List ByteArray} {k : Nat} (h : k < T.length) : isTk T (k : Int) = decide ((tk T k).size ≠ 0) := by unfold isTk; simp [h]

set_option maxHeartbeats 400000 in
theorem is_calls {T : List ByteArray} {ao : Option Addr} {n c : Nat} (i : Int) (w : World) (hT : SlS w ao n c T) :
    Calls Tryz.prog 94 #[.slice ao n c, .int .i64 i] w fun e w' => e = .returned (.bool (isTk T i)) ∧ w = w' := by
  have hm := Nat.le_trans (Sl.le hT) (Sl.max hT)
  unfold maxLen at hm
  have hlen := Lib.hid hT.count
  by_cases h0 : i < 0
  · have HF := Lib.hid (isTk_neg (T := T) h0)
    go_enter Tryz.func94, Tryz.ntmps94
    go_wp2
    go_ret
    exact ⟨ret_bool HF.out.symm, rfl⟩
  · obtain ⟨k, rfl⟩ := Int.eq_ofNat_of_zero_le (Int.not_lt.1 h0)
    by_cases hk : k < n
    · obtain ⟨b, o, rfl, hc⟩ := hT.cell (tk_eq (T := T) (i := k) (by have := hlen.out; omega))
      have HF := Lib.hid (isTk_at (T := T) (k := k) (by have := hlen.out; omega))
      by_cases hz : (tk T k).size = 0
      · obtain ⟨e1, e2, e3⟩ := strE_yes hz
        have HZ := Lib.hid hz
        clear hz
        go_enter Tryz.func94, Tryz.ntmps94
        go_wp2
        go_ret
        exact ⟨ret_bool (by rw [HF.out]; simp [HZ.out]), rfl⟩
      · obtain ⟨e1, e2, e3⟩ := strE_no hz
        have HZ := Lib.hid hz
        clear hz
        go_enter Tryz.func94, Tryz.ntmps94
        go_wp2
        go_ret
        exact ⟨ret_bool (by rw [HF.out]; simp [HZ.out]), rfl⟩
    · have HF := Lib.hid (isTk_out (T := T) (i := (k : Int)) (by have := hlen.out; omega))
      go_enter Tryz.func94, Tryz.ntmps94
      go_wp2
      go_ret
      exact ⟨ret_bool HF.out.symm, rfl⟩

set_option maxHeartbeats 400000 in
theorem ris_calls {T : List ByteArray} {ao : Option Addr} {n c : Nat} (i : Int) (w : World) (hT : SlS w ao n c T) :
    Calls Tryz.prog 114 #[.slice ao n c, .int .i64 i] w fun e w' => e = .returned (.bool (isTk T i)) ∧ w = w' := by
  have hm := Nat.le_trans (Sl.le hT) (Sl.max hT)
  unfold maxLen at hm
  have hlen := Lib.hid hT.count
  by_cases h0 : i < 0
  · have HF := Lib.hid (isTk_neg (T := T) h0)
    go_enter Tryz.func114, Tryz.ntmps114
    go_wp2
    go_ret
    exact ⟨ret_bool HF.out.symm, rfl⟩
  · obtain ⟨k, rfl⟩ := Int.eq_ofNat_of_zero_le (Int.not_lt.1 h0)
    by_cases hk : k < n
    · obtain ⟨b, o, rfl, hc⟩ := hT.cell (tk_eq (T := T) (i := k) (by have := hlen.out; omega))
      have HF := Lib.hid (isTk_at (T := T) (k := k) (by have := hlen.out; omega))
      by_cases hz : (tk T k).size = 0
      · obtain ⟨e1, e2, e3⟩ := strE_yes hz
        have HZ := Lib.hid hz
        clear hz
        go_enter Tryz.func114, Tryz.ntmps114
        go_wp2
        go_ret
        exact ⟨ret_bool (by rw [HF.out]; simp [HZ.out]), rfl⟩
      · obtain ⟨e1, e2, e3⟩ := strE_no hz
        have HZ := Lib.hid hz
        clear hz
        go_enter Tryz.func114, Tryz.ntmps114
        go_wp2
        go_ret
        exact ⟨ret_bool (by rw [HF.out]; simp [HZ.out]), rfl⟩
    · have HF := Lib.hid (isTk_out (T := T) (i := (k : Int)) (by have := hlen.out; omega))
      go_enter Tryz.func114, Tryz.ntmps114
      go_wp2
      go_ret
      exact ⟨ret_bool HF.out.symm, rfl⟩

theorem T_none {T : List ByteArray} {s : ByteArray} {n k : Nat} (hl : T.length = n) (hk : ¬ k < n) (h : ∀ j, j < k → tk T j ≠ s) : ofT T s = -1 := ofT_none fun j hj => h j (by omega)

set_option maxHeartbeats 400000 in
theorem rof_calls {T : List ByteArray} {ao : Option Addr} {n c : Nat} (s : ByteArray) (w : World) (hT : SlS w ao n c T) :
    Calls Tryz.prog 109 #[.slice ao n c, .string s] w fun e w' => e = .returned (.int .i64 (ofT T s)) ∧ w = w' := by
  have hm := Nat.le_trans (Sl.le hT) (Sl.max hT)
  unfold maxLen at hm
  have hlen := Lib.hid hT.count
  by_cases hz : s.size = 0
  · obtain ⟨e1, e2, e3⟩ := strE_yes hz
    have HF := Lib.hid (ofT_empty T hz)
    clear hz
    go_enter Tryz.func109, Tryz.ntmps109
    go_wp2
    go_ret
    exact ⟨ret_i64 HF.out.symm, rfl⟩
  · obtain ⟨e1, e2, e3⟩ := strE_no hz
    have HZ := Lib.hid hz
    clear hz
    go_enter Tryz.func109, Tryz.ntmps109
    go_wp2
    go_loop [5, 10] (fun _ i => ∃ k : Nat, k ≤ n ∧ i = .int .i64 k ∧ Hid (∀ j, j < k → tk T j ≠ s)) (fun _ i => n - (intOf i).toNat)
    case atStart => exact ⟨0, Nat.zero_le _, rfl, Lib.hid (fun j h => by omega)⟩
    case round =>
      obtain ⟨k, hk, rfl, hno⟩ := hrel
      by_cases hlt : k < n
      · obtain ⟨b, o, rfl, hc⟩ := hT.cell (tk_eq (T := T) (i := k) (by have := hlen.out; omega))
        by_cases hkk : tk T k = s
        · have hb := beqS_yes hkk
          have HF := Lib.hid (ofT_some HZ.out (by have := hlen.out; omega) hkk hno.out)
          clear hkk
          go_wp2
          go_ret
          exact ⟨ret_i64 HF.out.symm, rfl⟩
        · have hb := beqS_no hkk
          have Hk := Lib.hid hkk
          clear hkk
          go_wp2
          go_round
          case rel => exact ⟨k + 1, by omega, by go_num, Lib.hid (fun j hj => by
            by_cases ej : j = k
            · subst ej; exact Hk.out
            · exact hno.out j (by omega))⟩
          case measure => simp [intOf]; omega
      · have HF := Lib.hid (T_none hlen.out hlt hno.out)
        go_wp2
        go_ret
        exact ⟨ret_i64 HF.out.symm, rfl⟩

set_option maxHeartbeats 400000 in
theorem index_calls {T : List ByteArray} {ao : Option Addr} {n c : Nat} (s : ByteArray) (w : World) (hT : SlS w ao n c T) (hz : s.size ≠ 0) :
    Calls Tryz.prog 113 #[.slice ao n c, .string s] w fun e w' => e = .returned (.int .i64 (ofT T s)) ∧ w = w' := by
  have hm := Nat.le_trans (Sl.le hT) (Sl.max hT)
  unfold maxLen at hm
  have hlen := Lib.hid hT.count
  have HZ := Lib.hid hz
  clear hz
  go_enter Tryz.func113, Tryz.ntmps113
  go_wp2
  go_loop [5, 8] (fun _ i => ∃ k : Nat, k ≤ n ∧ i = .int .i64 k ∧ Hid (∀ j, j < k → tk T j ≠ s)) (fun _ i => n - (intOf i).toNat)
  case atStart => exact ⟨0, Nat.zero_le _, rfl, Lib.hid (fun j h => by omega)⟩
  case round =>
    obtain ⟨k, hk, rfl, hno⟩ := hrel
    by_cases hlt : k < n
    · obtain ⟨b, o, rfl, hc⟩ := hT.cell (tk_eq (T := T) (i := k) (by have := hlen.out; omega))
      by_cases hkk : tk T k = s
      · have hb := beqS_yes hkk.symm
        have HF := Lib.hid (ofT_some HZ.out (by have := hlen.out; omega) hkk hno.out)
        clear hkk
        go_wp2
        go_ret
        exact ⟨ret_i64 HF.out.symm, rfl⟩
      · have hb := beqS_no (Ne.symm hkk)
        have Hk := Lib.hid hkk
        clear hkk
        go_wp2
        go_round
        case rel => exact ⟨k + 1, by omega, by go_num, Lib.hid (fun j hj => by
          by_cases ej : j = k
          · subst ej; exact Hk.out
          · exact hno.out j (by omega))⟩
        case measure => simp [intOf]; omega
    · have HF := Lib.hid (T_none hlen.out hlt hno.out)
      go_wp2
      go_ret
      exact ⟨ret_i64 HF.out.symm, rfl⟩

/-- How a vocabulary lies. -/
structure Vd where
  ta : Option Addr
  tn : Nat
  tc : Nat
  ma : Option Addr
  mn : Nat
  mc : Nat
  sa : Option Addr
  sn : Nat
  sc : Nat
abbrev Vd.val (d : Vd) : Value := .agg #[.slice d.ta d.tn d.tc, .slice d.ma d.mn d.mc, .slice d.sa d.sn d.sc]
def Mg.enc (m : Mg) : List Value := [.int .i64 m.left, .int .i64 m.right, .int .i64 m.out, .int .i64 m.order]
def Sp.enc (s : Sp) : List Value := [.string s.name, .int .i64 s.id]
theorem Mg.enc_len (m : Mg) : m.enc.length = 4 := rfl
theorem Sp.enc_len (m : Sp) : m.enc.length = 2 := rfl
/-- .. and reads as V. -/
structure VocR (w : World) (d : Vd) (V : Vc) : Prop where
  tok : SlS w d.ta d.tn d.tc V.tokens
  mrg : SlF 4 w d.ma d.mn d.mc (flat Mg.enc V.merges)
  spc : SlF 2 w d.sa d.sn d.sc (flat Sp.enc V.specials)
theorem VocR.below {w w' : World} {d : Vd} {V : Vc} (h : VocR w d V) (hb : Below w.heap.size w w') : VocR w' d V := ⟨Sl.below h.tok hb, h.mrg.below hb, h.spc.below hb⟩

set_option maxHeartbeats 400000 in
theorem of_calls {V : Vc} {d : Vd} (s : ByteArray) (w : World) (hV : VocR w d V) :
    Calls Tryz.prog 78 #[d.val, .string s] w fun e w' => e = .returned (.int .i64 (ofT V.tokens s)) ∧ Below w.heap.size w w' := by
  have hw := below_alloc w (.cells #[.slice d.ta d.tn d.tc, .slice d.ma d.mn d.mc, .slice d.sa d.sn d.sc] 26)
  have HT := Lib.hid (Sl.below hV.tok hw)
  have HW := Lib.hid hw
  clear hw hV
  by_cases hz : s.size = 0
  · obtain ⟨e1, e2, e3⟩ := strE_yes hz
    have HF := Lib.hid (ofT_empty V.tokens hz)
    clear hz
    go_enter Tryz.func78, Tryz.ntmps78
    go_wp2
    go_ret
    exact ⟨ret_i64 HF.out.symm, HW.out⟩
  · obtain ⟨e1, e2, e3⟩ := strE_no hz
    have HZ := Lib.hid hz
    clear hz
    go_enter Tryz.func78, Tryz.ntmps78
    go_wp2_with (fail)
    refine (index_calls s _ HT.out HZ.out).mono ?_
    rintro e w' ⟨rfl, rfl⟩
    go_wp2
    go_ret
    exact ⟨rfl, HW.out⟩

end Go.Proofs.YtimkkkdabmhedaaGreatDoor

/- Walks: may tokens be? The program's map of their places; the document's search. -/
namespace Go.Proofs.YtimkkkdabmhedaaGreatDoor
open Go.RowKit
set_option linter.unusedVariables false

theorem zeroInt (w : World) : (zeroValue 3).run Tryz.prog w = .ok (.int .i64 0) w := by kernel_rfl
noncomputable abbrev VS : KeyView Tryz.prog 9 ByteArray := strView Tryz.underlying9
abbrev MapS (w : World) (mb sz : Nat) (f : ByteArray → Option Int) : Prop := MapK VS 3 w mb sz f

section
variable {w : World} {ops : Array Oper} {rest : List Oper} {o : Oper} {a : Act} {Q : Exit → Act → World → Prop}
theorem wpList_ms_ok (hg : o.guard = none) (m x : Operand) (hop : o.op = Op.lookup 131 m x true) {mb sz : Nat} {f : ByteArray → Option Int} (hm : a.eval m = .map (some mb)) (h : MapS w mb sz f)
    {s : ByteArray} (hx : a.eval x = .string s) (hs : s.size ≤ maxLen)
    (hK : wpList Tryz.prog ops Q rest (a.put o.dst (.tuple #[.int .i64 ((f s).getD 0), .bool (f s).isSome])) w) : wpList Tryz.prog ops Q (o :: rest) a w :=
  wpList_mk_ok (V := VS) Tryz.underlying131 Tryz.underlying3 zeroInt hg m x hop hm h (s := s) hx hs hK
theorem wpList_ms_put (hg : o.guard = none) (m x v : Operand) (hop : o.op = Op.mapUpdate 131 m x v) {mb sz : Nat} {f : ByteArray → Option Int} (hm : a.eval m = .map (some mb)) (h : MapS w mb sz f)
    {s : ByteArray} (hx : a.eval x = .string s) (hs : s.size ≤ maxLen) {c : Int} (hv : a.eval v = .int .i64 c) (hc : (Lit.int .i64 c).wf = true) (hn : sz < maxLen)
    (hK : ∀ w', MapS w' mb (if (f s).isSome then sz else sz + 1) (fun t => if t = s then some c else f t) → w.grownBy w' (some mb) → wpList Tryz.prog ops Q rest (a.put o.dst undef) w') : wpList Tryz.prog ops Q (o :: rest) a w :=
  wpList_mk_put (V := VS) Tryz.underlying131 Tryz.underlying3 hg m x v hop hm h (s := s) hx hs hv hc hn hK
end

/-- The first k tokens' places. -/
def PlaceR (T : List ByteArray) (k : Nat) (f : ByteArray → Option Int) : Prop := ∀ s i, f s = some i ↔ s.size ≠ 0 ∧ ∃ j, j < k ∧ i = ((j : Nat) : Int) ∧ tk T j = s
def UniqTo (T : List ByteArray) (k : Nat) : Prop := ∀ i j, i < j → j < k → tk T i = tk T j → (tk T i).size = 0

theorem PlaceR.zero (T : List ByteArray) : PlaceR T 0 (fun _ => none) := fun s i => ⟨(fun h => by cases h), fun ⟨_, j, hj, _⟩ => by omega⟩
theorem UniqTo.zero (T : List ByteArray) : UniqTo T 0 := fun i j h1 h2 => by omega
theorem PlaceR.skip {T : List ByteArray} {k : Nat} {f : ByteArray → Option Int} (h : PlaceR T k f) (hz : (tk T k).size = 0) : PlaceR T (k + 1) f := fun s i => by
  rw [h s i]
  constructor
  · rintro ⟨h1, j, h2, h3⟩; exact ⟨h1, j, by omega, h3⟩
  · rintro ⟨h1, j, h2, h3, h4⟩
    refine ⟨h1, j, ?_, h3, h4⟩
    have : j ≠ k := fun e => h1 (by rw [← h4, e]; exact hz)
    omega
theorem UniqTo.skip {T : List ByteArray} {k : Nat} (h : UniqTo T k) (hz : (tk T k).size = 0) : UniqTo T (k + 1) := fun i j h1 h2 e => by
  by_cases hj : j = k
  · rw [e, hj]; exact hz
  · exact h i j h1 (by omega) e
theorem PlaceR.put {T : List ByteArray} {k : Nat} {f : ByteArray → Option Int} (h : PlaceR T k f) (hz : (tk T k).size ≠ 0) (hf : f (tk T k) = none) : PlaceR T (k + 1) (fun t => if t = tk T k then some (k : Int) else f t) := fun s i => by
  show (if s = tk T k then some (k : Int) else f s) = some i ↔ _
  by_cases e : s = tk T k
  · rw [if_pos e]
    constructor
    · intro h1; simp at h1; exact ⟨by rw [e]; exact hz, k, by omega, h1.symm, e.symm⟩
    · rintro ⟨h1, j, h2, h3, h4⟩
      by_cases hj : j = k
      · rw [h3, hj]
      · have : f s = some i := (h s i).2 ⟨h1, j, by omega, h3, h4⟩
        rw [e, hf] at this; cases this
  · rw [if_neg e, h s i]
    constructor
    · rintro ⟨h1, j, h2, h3⟩; exact ⟨h1, j, by omega, h3⟩
    · rintro ⟨h1, j, h2, h3, h4⟩
      have : j ≠ k := fun ej => e (by rw [← h4, ej])
      exact ⟨h1, j, by omega, h3, h4⟩
theorem UniqTo.put {T : List ByteArray} {k : Nat} {f : ByteArray → Option Int} (h : UniqTo T k) (hp : PlaceR T k f) (hz : (tk T k).size ≠ 0) (hf : f (tk T k) = none) : UniqTo T (k + 1) := fun i j h1 h2 e => by
  by_cases hj : j = k
  · subst hj
    have : f (tk T j) = some (i : Int) := (hp _ _).2 ⟨hz, i, h1, rfl, e⟩
    rw [hf] at this; cases this
  · exact h i j h1 (by omega) e
theorem PlaceR.twice {T : List ByteArray} {k : Nat} {f : ByteArray → Option Int} (hp : PlaceR T k f) (hk : k < T.length) {i : Int} (hf : f (tk T k) = some i) : ¬ Uniq T := fun hu => by
  obtain ⟨h1, j, h2, h3, h4⟩ := (hp _ _).1 hf
  exact h1 (by rw [← h4]; exact hu j k h2 hk h4)
theorem UniqTo.all {T : List ByteArray} {k n : Nat} (h : UniqTo T k) (hl : T.length = n) (hk : ¬ k < n) : Uniq T := fun i j h1 h2 e => h i j h1 (by omega) e
theorem PlaceR.all {T : List ByteArray} {k n : Nat} {f : ByteArray → Option Int} (h : PlaceR T k f) (hk : k ≤ n) (hk2 : ¬ k < n) : PlaceR T n f := by
  obtain rfl : k = n := by omega
  exact h

theorem PlaceR.of {T : List ByteArray} {n : Nat} {f : ByteArray → Option Int} (h : PlaceR T n f) (hl : T.length = n) (hu : Uniq T) (s : ByteArray) : f s = if 0 ≤ ofT T s then some (ofT T s) else none := by
  rcases ofT_cases T s with ⟨h0, e⟩ | ⟨h0, ⟨i, hi, h1, h2, e⟩⟩ | ⟨h0, h1, e⟩
  · rw [e, if_neg (by omega)]
    cases hf : f s with
    | none => rfl
    | some i => exact absurd h0 ((h s i).1 hf).1
  · rw [e, if_pos (by omega)]
    exact (h s i).2 ⟨h0, i, by omega, rfl, h1⟩
  · rw [e, if_neg (by omega)]
    cases hf : f s with
    | none => rfl
    | some i =>
      obtain ⟨_, j, h2, _, h4⟩ := (h s i).1 hf
      exact absurd h4 (h1 j (by omega))

def PlacesPost (T : List ByteArray) (w : World) (e : Ending) (w' : World) : Prop :=
  ((Uniq T ∧ ∃ mb sz f, e = .returned (.tuple #[.map (some mb), .bool true]) ∧ w.heap.size ≤ mb ∧ MapS w' mb sz f ∧ PlaceR T T.length f) ∨ (¬ Uniq T ∧ e = .returned (.tuple #[.map none, .bool false]))) ∧ Below w.heap.size w w'

set_option maxHeartbeats 1000000 in
set_option maxRecDepth 100000 in
theorem places_calls {T : List ByteArray} {ao : Option Addr} {n c : Nat} (w : World) (hT : SlS w ao n c T) (hsz : ∀ s ∈ T, s.size ≤ maxLen) (hn : n ≤ 1048576) :
    Calls Tryz.prog 168 #[.slice ao n c] w (PlacesPost T w) := by
  have hm := Nat.le_trans (Sl.le hT) (Sl.max hT)
  unfold maxLen at hm
  have hlen := Lib.hid hT.count
  have hmm := @run_makeMap Tryz.prog
  have HT := Lib.hid hT
  have HS := Lib.hid hsz
  have H0 := Lib.hid (MapK.new VS 3 w)
  have HB0 := Lib.hid (below_alloc w (.map #[] 0))
  clear hT hsz
  go_enter Tryz.func168, Tryz.ntmps168
  go_wp2
  go_loopw [5, 6, 7, 8, 12] (fun _ _ _ _ i wr => ∃ (k sz : Nat) (f : ByteArray → Option Int), k ≤ n ∧ i = .int .i64 k ∧ sz ≤ k ∧ MapS wr w.heap.size sz f ∧ Hid (PlaceR T k f) ∧ Hid (UniqTo T k) ∧ Below w.heap.size w wr) (fun _ _ _ _ i _ => n - (intOf i).toNat)
  case atStart => exact ⟨0, 0, _, Nat.zero_le _, rfl, Nat.le_refl _, H0.out, Lib.hid (PlaceR.zero T), Lib.hid (UniqTo.zero T), HB0.out⟩
  case round =>
    obtain ⟨k, sz, f, hk, rfl, hszk, hmap, HP, HU, hb⟩ := hrel
    have HM := Lib.hid hmap
    have HB := Lib.hid hb
    clear hmap hb
    by_cases hlt : k < n
    · have hkT : k < T.length := by have := hlen.out; omega
      obtain ⟨b, o, rfl, hc⟩ := SlS.cell (Sl.below HT.out HB.out) (tk_eq (T := T) (i := k) hkT)
      have hks := Lib.hid (HS.out _ (tk_mem hkT))
      by_cases hz : (tk T k).size = 0
      · obtain ⟨e1, e2, e3⟩ := strE_yes hz
        have HP2 := Lib.hid (HP.out.skip hz)
        have HU2 := Lib.hid (HU.out.skip hz)
        clear hz
        go_wp2
        go_roundw
        case rel => exact ⟨k + 1, sz, f, by omega, by go_num, by omega, HM.out, HP2, HU2, HB.out⟩
        case measure => simp [intOf]; omega
      · obtain ⟨e1, e2, e3⟩ := strE_no hz
        have HZ := Lib.hid hz
        clear hz
        cases hf : f (tk T k) with
        | some i =>
          have hnu := Lib.hid (HP.out.twice hkT hf)
          go_wp2_with (with_reducible show wpList _ _ _ (⟨_, .lookup _ _ _ _, _, _, _, _⟩ :: _) _ _; refine wpList_ms_ok rfl _ _ rfl rfl HM.out rfl hks.out ?_; rw [hf])
          go_ret2
          exact ⟨.inr ⟨hnu.out, rfl⟩, HB.out⟩
        | none =>
          have HP2 := Lib.hid (HP.out.put HZ.out hf)
          have HU2 := Lib.hid (HU.out.put HP.out HZ.out hf)
          have hwf : (Lit.int .i64 (k : Int)).wf = true := by rw [i64_wf]; omega
          go_wp2_with (first
            | (with_reducible show wpList _ _ _ (⟨_, .lookup _ _ _ _, _, _, _, _⟩ :: _) _ _; refine wpList_ms_ok rfl _ _ rfl rfl HM.out rfl hks.out ?_; rw [hf])
            | (with_reducible show wpList _ _ _ (⟨_, .mapUpdate _ _ _ _, _, _, _, _⟩ :: _) _ _; refine wpList_ms_put rfl _ _ _ rfl rfl HM.out rfl hks.out rfl hwf (by unfold maxLen; omega) ?_))
          intro w2 hm2 hg2
          have HM2 := Lib.hid hm2
          have HB2 := Lib.hid (HB.out.grown hg2 HB.out.size fun q hq => by simp at hq; omega)
          clear hm2 hg2
          go_wp2
          go_roundw
          case rel => exact ⟨k + 1, _, _, by omega, by go_num, by omega, HM2.out, HP2, HU2, HB2.out⟩
          case measure => simp [intOf]; omega
    · have HF := Lib.hid (HU.out.all hlen.out hlt)
      have HP2 := Lib.hid (HP.out.all hk hlt)
      go_wp2
      go_ret2
      exact ⟨.inl ⟨HF.out, _, _, _, rfl, Nat.le_refl _, HM.out, by rw [hlen.out]; exact HP2.out⟩, HB.out⟩

end Go.Proofs.YtimkkkdabmhedaaGreatDoor

/- Walks: may tokens be? The whole of it, by the program and by the document. -/
namespace Go.Proofs.YtimkkkdabmhedaaGreatDoor
open Go.RowKit Go.Maps Go.ChangeMaps Go.WideMaps
set_option linter.unusedVariables false

set_option maxHeartbeats 400000 in
/-- Is a token longer than 64 bytes? -/
theorem long_calls (s : ByteArray) (hs : s.size ≤ maxLen) (w : World) :
    Calls Tryz.prog 167 #[.string s] w fun e w' => e = .returned (.bool (decide (64 < s.size))) ∧ w = w' := by
  unfold maxLen at hs
  by_cases h : (64 : Int) < s.size
  · have h2 : 64 < s.size := by omega
    go_enter Tryz.func167, Tryz.ntmps167
    go_wp2
    go_ret
    exact ⟨ret_bool (by simp; omega), rfl⟩
  · have h2 : ¬ 64 < s.size := by omega
    go_enter Tryz.func167, Tryz.ntmps167
    go_wp2
    go_ret
    exact ⟨ret_bool (by simp), rfl⟩

/-- The first one that is longer; -1. -/
def LongPost (T : List ByteArray) (w : World) (e : Ending) (w' : World) : Prop := (∃ i : Int, e = .returned (.int .i64 i) ∧ (0 ≤ i ↔ ∃ s ∈ T, 64 < s.size)) ∧ w = w'

set_option maxHeartbeats 400000 in
theorem indexLong_calls {T : List ByteArray} {ao : Option Addr} {n c : Nat} (w : World) (hT : SlS w ao n c T) (hsz : ∀ s ∈ T, s.size ≤ maxLen) :
    Calls Tryz.prog 180 #[.slice ao n c, .func (.func 167) #[] #[]] w (LongPost T w) := by
  have hm := Nat.le_trans (Sl.le hT) (Sl.max hT)
  unfold maxLen at hm
  have hlen := Lib.hid hT.count
  have HS := Lib.hid hsz
  clear hsz
  go_enter Tryz.func180, Tryz.ntmps180
  go_wp2
  go_loop [5, 8] (fun _ i => ∃ k : Nat, k ≤ n ∧ i = .int .i64 k ∧ Hid (∀ j, j < k → ¬ 64 < (tk T j).size)) (fun _ i => n - (intOf i).toNat)
  case atStart => exact ⟨0, Nat.zero_le _, rfl, Lib.hid (fun j h => by omega)⟩
  case round =>
    obtain ⟨k, hk, rfl, hno⟩ := hrel
    by_cases hlt : k < n
    · have hkT : k < T.length := by have := hlen.out; omega
      obtain ⟨b, o, rfl, hc⟩ := hT.cell (tk_eq (T := T) (i := k) hkT)
      have hks := Lib.hid (HS.out _ (tk_mem hkT))
      go_wp2_with (fail)
      refine (long_calls (tk T k) hks.out w).mono ?_
      rintro e w' ⟨rfl, rfl⟩
      by_cases hl : 64 < (tk T k).size
      · have hfin : Hid ((0 : Int) ≤ (k : Int) ↔ ∃ s ∈ T, 64 < s.size) := Lib.hid ⟨fun _ => ⟨_, tk_mem hkT, hl⟩, fun _ => by omega⟩
        go_wp2
        go_ret
        exact ⟨⟨_, rfl, hfin.out⟩, rfl⟩
      · have hno2 : Hid (∀ j, j < k + 1 → ¬ 64 < (tk T j).size) := Lib.hid (fun j hj => by
          by_cases ej : j = k
          · subst ej; exact hl
          · exact hno.out j (by omega))
        go_wp2
        go_round
        case rel => exact ⟨k + 1, by omega, by go_num, hno2⟩
        case measure => simp [intOf]; omega
    · have hfin : Hid ((0 : Int) ≤ -1 ↔ ∃ s ∈ T, 64 < s.size) := Lib.hid ⟨fun h => by omega, fun ⟨s, hs, h⟩ => by
        obtain ⟨j, hj, rfl⟩ := mem_tk hs
        exact absurd h (hno.out j (by have := hlen.out; omega))⟩
      go_wp2
      go_ret
      exact ⟨⟨_, rfl, hfin.out⟩, rfl⟩

set_option maxHeartbeats 400000 in
theorem containsLong_calls {T : List ByteArray} {ao : Option Addr} {n c : Nat} (w : World) (hT : SlS w ao n c T) (hsz : ∀ s ∈ T, s.size ≤ maxLen) :
    Calls Tryz.prog 166 #[.slice ao n c, .func (.func 167) #[] #[]] w fun e w' => (∃ b, e = .returned (.bool b) ∧ (b = true ↔ ∃ s ∈ T, 64 < s.size)) ∧ w = w' := by
  go_enter Tryz.func166, Tryz.ntmps166
  go_wp2_with (fail)
  refine (indexLong_calls w hT hsz).mono ?_
  rintro e w' ⟨⟨i, rfl, hi⟩, rfl⟩
  have HI := Lib.hid hi
  clear hi
  go_wp2
  go_ret
  exact ⟨⟨_, rfl, by simp [HI.out]⟩, rfl⟩

/-- What is answered to 'may tokens be?'. -/
def MayTokPost (T : List ByteArray) (w : World) (e : Ending) (w' : World) : Prop := (∃ b, e = .returned (.bool b) ∧ (b = true ↔ MayTok T)) ∧ Below w.heap.size w w'

theorem notMayTok_long {T : List ByteArray} (h : 4096 < T.length) : (false = true ↔ MayTok T) := ⟨(fun h => by cases h), fun h2 => by have := h2.1; omega⟩
theorem notMayTok_tok {T : List ByteArray} (h : ∃ s ∈ T, 64 < s.size) : (false = true ↔ MayTok T) := ⟨(fun h => by cases h), fun h2 => by obtain ⟨s, hs, h⟩ := h; have := h2.2.1 s hs; omega⟩
theorem notMayTok_uniq {T : List ByteArray} (h : ¬ Uniq T) : (false = true ↔ MayTok T) := ⟨(fun h => by cases h), fun h2 => absurd h2.2.2.1 h⟩
theorem notMayTok_byte {T : List ByteArray} {b : Nat} (hb : b < 256) (h : one b ∉ T) : (false = true ↔ MayTok T) := ⟨(fun h => by cases h), fun h2 => absurd (h2.2.2.2 b hb) h⟩
theorem mayTok_yes {T : List ByteArray} (h1 : T.length ≤ 4096) (h2 : ∀ s ∈ T, s.size ≤ 64) (h3 : Uniq T) (h4 : ∀ b, b < 256 → one b ∈ T) : MayTok T := ⟨h1, h2, h3, h4⟩

theorem one_size (b : Nat) : (one b).size = 1 := rfl
theorem one_maxLen (b : Nat) : (one b).size ≤ maxLen := by rw [one_size]; unfold maxLen; omega
theorem PlaceR.one_in {T : List ByteArray} {f : ByteArray → Option Int} (h : PlaceR T T.length f) (b : Nat) : (f (one b)).isSome = true ↔ one b ∈ T := by
  constructor
  · intro h1
    obtain ⟨i, hi⟩ := Option.isSome_iff_exists.1 h1
    obtain ⟨_, j, h2, _, h4⟩ := (h _ _).1 hi
    rw [← h4]; exact tk_mem h2
  · intro h1
    obtain ⟨j, hj, e⟩ := mem_tk h1
    have : f (one b) = some (j : Int) := (h _ _).2 ⟨by rw [one_size]; omega, j, hj, rfl, e⟩
    rw [this]; rfl

theorem lawStr : Go.Maps.Keyed Tryz.prog 9 := Go.Maps.string_keyed Tryz.underlying9

theorem conv_one (w : World) (k : Nat) : (convert 121 9 (.slice (some ⟨w.heap.size, 0, none⟩) 1 1)).run Tryz.prog (w.alloc (.cells #[.int .u8 (k : Int)] 5)) = .ok (.string (one k)) (w.alloc (.cells #[.int .u8 (k : Int)] 5)) := by
  rw [run_convert_bytes_string (P := Tryz.prog) _ 121 9 5 _ _ _ Tryz.underlying121 Tryz.underlying5 Tryz.underlying9]
  rw [run_bytesToString _ _ _ _ [(k : Int)] (by
    exact run_loadCells_list (w := w.alloc (.cells #[.int .u8 (k : Int)] 5)) (P := Tryz.prog) ⟨w.heap.size, 0, none⟩ [.int .u8 (k : Int)] (fun j v hj => by
      match j, hj with
      | 0, hj => simp at hj; subst hj; rw [Addr.add_lit]; simp
      | j + 1, hj => simp at hj))]
  rfl

set_option maxHeartbeats 1000000 in
set_option maxRecDepth 100000 in
theorem mayTokens_calls {T : List ByteArray} {ao : Option Addr} {n c : Nat} (w : World) (hT : SlS w ao n c T) (hsz : ∀ s ∈ T, s.size ≤ maxLen) :
    Calls Tryz.prog 143 #[.slice ao n c] w (MayTokPost T w) := by
  have hm := Nat.le_trans (Sl.le hT) (Sl.max hT)
  unfold maxLen at hm
  have hlen := Lib.hid hT.count
  have HT := Lib.hid hT
  have HS := Lib.hid hsz
  clear hT hsz
  by_cases hl : (4096 : Int) < n
  · have HF := Lib.hid (notMayTok_long (T := T) (by have := hlen.out; omega))
    go_enter Tryz.func143, Tryz.ntmps143
    go_wp2_with (fail)
    go_ret
    exact ⟨⟨_, rfl, HF.out⟩, Below.refl _ _⟩
  · go_enter Tryz.func143, Tryz.ntmps143
    go_wp2_with (fail)
    refine (containsLong_calls w HT.out HS.out).mono ?_
    rintro e w' ⟨⟨b, rfl, hb⟩, rfl⟩
    cases b with
    | true =>
      have HF := Lib.hid (notMayTok_tok (hb.1 rfl))
      clear hb
      go_wp2
      go_ret
      exact ⟨⟨_, rfl, HF.out⟩, Below.refl _ _⟩
    | false =>
      have H64 : Hid (∀ s ∈ T, s.size ≤ 64) := Lib.hid (fun s hs => by
        rcases Nat.lt_or_ge 64 s.size with h | h
        · have := hb.2 ⟨s, hs, h⟩; cases this
        · exact h)
      clear hb
      go_wp2_with (fail)
      refine (places_calls _ HT.out HS.out (by omega)).mono ?_
      rintro e w1 ⟨⟨hu, mb, sz, f, rfl, hmb, hmap, hpl⟩ | ⟨hnu, rfl⟩, hb1⟩
      · have HU := Lib.hid hu
        have HM := Lib.hid hmap
        have HP := Lib.hid hpl
        have HB1 := Lib.hid hb1
        clear hu hmap hpl hb1
        go_wp2
        go_loopw [5, 6, 7, 20] (fun _ _ _ i wr => ∃ k : Nat, k ≤ 256 ∧ i = .int .i64 k ∧ Below w.heap.size w wr ∧ MapS wr mb sz f ∧ Hid (∀ b, b < k → one b ∈ T)) (fun _ _ _ i _ => 256 - (intOf i).toNat)
        case atStart => exact ⟨0, by omega, rfl, HB1.out, HM.out, Lib.hid (fun b hb => by omega)⟩
        case round =>
          obtain ⟨k, hk, rfl, hb, hmap, hall⟩ := hrel
          have HB := Lib.hid hb
          have HM2 := Lib.hid hmap
          clear hb hmap
          by_cases hlt : k < 256
          · have hw8 : IntKind.u8.wrap (k : Int) = (k : Int) := by rw [IntKind.wrap_u8]; omega
            have hcv := conv_one wr k
            have HB3 := Lib.hid (HB.out.alloc HB.out.size (.cells #[.int .u8 (k : Int)] 5))
            have HM3 := Lib.hid (HM2.out.alloc (.cells #[.int .u8 (k : Int)] 5))
            cases hf : (f (one k)).isSome with
            | true =>
              have hin : Hid (∀ b, b < k + 1 → one b ∈ T) := Lib.hid (fun b hb => by
                by_cases e : b = k
                · subst e; exact (HP.out.one_in b).1 hf
                · exact hall.out b (by omega))
              go_wp2_with (with_reducible show wpList _ _ _ (⟨_, .lookup _ _ _ _, _, _, _, _⟩ :: _) _ _; refine wpList_ms_ok rfl _ _ rfl rfl HM3.out rfl (one_maxLen k) ?_; rw [hf])
              go_roundw
              case rel => exact ⟨k + 1, by omega, by go_num, HB3.out, HM3.out, hin⟩
              case measure => simp [intOf]; omega
            | false =>
              have HF := Lib.hid (notMayTok_byte hlt (fun h => by rw [(HP.out.one_in k).2 h] at hf; cases hf))
              go_wp2_with (with_reducible show wpList _ _ _ (⟨_, .lookup _ _ _ _, _, _, _, _⟩ :: _) _ _; refine wpList_ms_ok rfl _ _ rfl rfl HM3.out rfl (one_maxLen k) ?_; rw [hf])
              go_ret
              exact ⟨⟨_, rfl, HF.out⟩, HB3.out⟩
          · have HF := Lib.hid (mayTok_yes (by have := hlen.out; omega) H64.out HU.out (fun b hb => hall.out b (by omega)))
            go_wp2
            go_ret
            exact ⟨⟨_, rfl, (fun _ => HF.out), (fun _ => rfl)⟩, HB.out⟩
      · have HF := Lib.hid (notMayTok_uniq hnu)
        have HB1 := Lib.hid hb1
        have hcv := conv_one w1 0
        rw [show ((0 : Nat) : Int) = 0 from rfl] at hcv
        have HB3 := Lib.hid (HB1.out.alloc HB1.out.size (.cells #[.int .u8 ((0 : Nat) : Int)] 5))
        have hlk := fun w : World => Go.Maps.look_nil (P := Tryz.prog) (w := w) true lawStr Tryz.underlying131 (zeroInt w) (key := .string (one 0)) (keyOf_string_mk Tryz.underlying9 (one_maxLen 0))
        clear hnu hb1
        go_wp2
        go_loopw [5, 6, 7, 20] (fun _ _ _ i wr => i = .int .i64 0 ∧ wr = w1) (fun _ _ _ i _ => 0)
        case atStart => exact ⟨rfl, rfl⟩
        case round =>
          obtain ⟨rfl, rfl⟩ := hrel
          go_wp2
          go_ret
          exact ⟨⟨_, rfl, HF.out⟩, HB3.out⟩

end Go.Proofs.YtimkkkdabmhedaaGreatDoor
