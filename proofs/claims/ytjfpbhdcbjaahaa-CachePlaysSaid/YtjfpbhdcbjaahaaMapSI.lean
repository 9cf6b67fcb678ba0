/- A map from strings to ints that the program holds, told by what stands at each key. Plain lemmas and laws of the walk. -/
import Derived.Test.YtjfpbhdcbjaahaaNds
import Derived.Maps.OwnOps
import Derived.Maps.OwnSet
import Derived.Maps.Views
namespace Go.Proofs.Ytjfpbhdcbjaahaa
open Go.RowKit Go.Maps Go.ChangeMaps Go.WideMaps
set_option linter.unusedVariables false
set_option linter.unusedSimpArgs false

theorem lawS : Keyed Try.prog 9 := string_keyed Try.underlying9
theorem zeroI (w : World) : (zeroValue 3).run Try.prog w = .ok (.int .i64 0) w := by kernel_rfl

def keyL (s : ByteArray) : Lit := .string s.data.toList
theorem keyL_inj {s t : ByteArray} (h : keyL s = keyL t) : s = t := by
  simp only [keyL, Lit.string.injEq] at h
  have h2 : s.data = t.data := Array.toList_inj.1 h
  cases s; cases t; simp_all

/-- Block mb is a map of sz entries; at key s stands f s. -/
def MapSI (w : World) (mb sz : Nat) (f : ByteArray → Option Int) : Prop :=
  ∃ D : DataW Unit, w.ownsMap Try.prog 9 (plainElem Try.prog 3) mb sz D ∧ Tidy D ∧ size D = sz ∧
    ∀ s, has D (keyL s) = (f s).isSome ∧ ∀ c, f s = some c → D.atKey (keyL s) (.lit (.int .i64 0)) = .lit (.int .i64 c)

theorem MapSI.lt {w : World} {mb sz : Nat} {f : ByteArray → Option Int} (h : MapSI w mb sz f) : mb < w.heap.size := let ⟨_, h1, _⟩ := h; h1.lt

theorem MapSI.stay {w w' : World} {mb sz : Nat} {f : ByteArray → Option Int} (h : MapSI w mb sz f) (hb : w'.heap[mb]? = w.heap[mb]?) : MapSI w' mb sz f := by
  obtain ⟨D, ⟨es, clock, h1, h2⟩, r⟩ := h
  exact ⟨D, ⟨es, clock, hb.trans h1, h2⟩, r⟩

theorem ownsMap_size {w : World} {b n : Nat} {D : DataW Unit} (h : w.ownsMap Try.prog 9 (plainElem Try.prog 3) b n D) : w.ownsMap Try.prog 9 (plainElem Try.prog 3) b (size D) D := by
  obtain ⟨es, clock, hb, F, hn, rfl⟩ := h
  refine ⟨es, clock, hb, F, ?_, rfl⟩
  rw [size_eq, length_sorted]
  simp

theorem MapSI.new (w : World) : MapSI (w.alloc (.map #[] 0)) w.heap.size 0 (fun _ => none) :=
  ⟨.map [], World.ownsMap_made _ _ _ _, tidy_empty, rfl, fun s => ⟨rfl, fun c h => by cases h⟩⟩

theorem MapSI.congr {w : World} {mb sz sz' : Nat} {f g : ByteArray → Option Int} (h : MapSI w mb sz f) (hs : sz = sz') (hf : ∀ s, f s = g s) : MapSI w mb sz' g := by
  subst hs
  have : f = g := funext hf
  subst this
  exact h

section
variable {w : World} {ops : Array Oper} {rest : List Oper} {o : Oper} {a : Act} {Q : Exit → Act → World → Prop}

theorem wpList_si_ok (hg : o.guard = none) (m x : Operand) (hop : o.op = Op.lookup 50 m x true) {mb sz : Nat} {f : ByteArray → Option Int} (hm : a.eval m = .map (some mb)) (h : MapSI w mb sz f)
    {s : ByteArray} (hx : a.eval x = .string s) (hs : s.size ≤ maxLen)
    (hK : wpList Try.prog ops Q rest (a.put o.dst (.tuple #[.int .i64 ((f s).getD 0), .bool (f s).isSome])) w) : wpList Try.prog ops Q (o :: rest) a w := by
  obtain ⟨D, h1, h2, h3, h4⟩ := h
  refine wpList_lookup_own_ok_int w hg m x 50 hop 9 3 .i64 lawS Try.underlying50 Try.underlying3 (zeroI w) mb sz D hm h1 _ (keyL s) hx (keyOf_string_mk Try.underlying9 hs) ?_
  intro c hat _
  have hh := h4 s
  rw [hh.1]
  have hc : c = (f s).getD 0 := by
    cases hf : f s with
    | none =>
      rw [hf] at hh
      rw [atKey_of_not_has (by simpa using hh.1)] at hat
      simpa using hat.symm
    | some c' =>
      have := hh.2 c' hf
      rw [this] at hat
      simpa using hat.symm
  rw [hc]
  exact hK

theorem wpList_si_put (hg : o.guard = none) (m x v : Operand) (hop : o.op = Op.mapUpdate 50 m x v) {mb sz : Nat} {f : ByteArray → Option Int} (hm : a.eval m = .map (some mb)) (h : MapSI w mb sz f)
    {s : ByteArray} (hx : a.eval x = .string s) (hs : s.size ≤ maxLen) {c : Int} (hv : a.eval v = .int .i64 c) (hc : (Lit.int .i64 c).wf = true) (hn : sz < maxLen)
    (hK : ∀ w', MapSI w' mb (if (f s).isSome then sz else sz + 1) (fun t => if t = s then some c else f t) → w.grownBy w' (some mb) → wpList Try.prog ops Q rest (a.put o.dst undef) w') : wpList Try.prog ops Q (o :: rest) a w := by
  obtain ⟨D, h1, h2, h3, h4⟩ := h
  refine wpList_mapUpdate_own w hg m x v 50 hop 9 3 lawS Try.underlying50 _ mb sz D hm h1 hn _ _ (keyL s) hx hv (keyOf_string_mk Try.underlying9 hs) _ [] (plainElem_int Try.underlying3 hc) ?_
  intro w' hown hgrow
  have e : size (D.put (keyL s) (.lit (.int .i64 c))) = if (f s).isSome then sz else sz + 1 := by
    rw [size_put h2, (h4 s).1, h3]
  refine hK w' ⟨D.put (keyL s) (.lit (.int .i64 c)), ?_, h2.put (by trivial) _, e, fun t => ?_⟩ hgrow
  · have := ownsMap_size hown
    rw [e] at this
    exact this
  · by_cases e : t = s
    · subst e
      simp only [if_true, Option.isSome_some, Option.some.injEq]
      refine ⟨has_put_same h2.isMap (by trivial) _, fun c' hc' => ?_⟩
      subst hc'
      exact atKey_put_same h2.isMap (by trivial) _ _
    · have hne : keyL t ≠ keyL s := fun h => e (keyL_inj h)
      simp only [e, if_false]
      rw [has_put_other hne]
      exact ⟨(h4 t).1, fun c' hc' => by rw [atKey_put_other hne]; exact (h4 t).2 c' hc'⟩

theorem wpList_si_del (hg : o.guard = none) (m x : Operand) (hop : o.op = Op.call { callee := Callee.builtin Builtin.delete, args := #[m, x], argTypes := #[50, 9] }) {mb sz : Nat} {f : ByteArray → Option Int} (hm : a.eval m = .map (some mb)) (h : MapSI w mb sz f)
    {s : ByteArray} (hx : a.eval x = .string s) (hs : s.size ≤ maxLen)
    (hK : ∀ w', MapSI w' mb (if (f s).isSome then sz - 1 else sz) (fun t => if t = s then none else f t) → w.mapTurned w' mb → wpList Try.prog ops Q rest (a.put o.dst (.tuple #[])) w') : wpList Try.prog ops Q (o :: rest) a w := by
  obtain ⟨D, h1, h2, h3, h4⟩ := h
  refine wpList_delete_own w hg m x 50 9 hop 3 lawS Try.underlying50 _ mb sz D hm h1 _ (keyL s) hx (keyOf_string_mk Try.underlying9 hs) ?_
  intro w' hown hturn
  have e : size (D.del (keyL s)) = if (f s).isSome then sz - 1 else sz := by
    have := size_del (k := keyL s) h2
    rw [(h4 s).1, h3] at this
    split at this <;> simp_all <;> omega
  refine hK w' ⟨D.del (keyL s), ?_, h2.del _, e, fun t => ?_⟩ hturn
  · have := ownsMap_size hown
    rw [e] at this
    exact this
  · by_cases e : t = s
    · subst e
      simp only [if_true, Option.isSome_none]
      exact ⟨has_del_same, fun c' hc' => by cases hc'⟩
    · have hne : keyL t ≠ keyL s := fun h => e (keyL_inj h)
      simp only [e, if_false]
      rw [has_del_other hne]
      exact ⟨(h4 t).1, fun c' hc' => by rw [atKey_del_other hne]; exact (h4 t).2 c' hc'⟩

theorem wpList_si_len (hg : o.guard = none) (m : Operand) (hop : o.op = Op.call { callee := Callee.builtin Builtin.len, args := #[m], argTypes := #[50] }) {mb sz : Nat} {f : ByteArray → Option Int} (hm : a.eval m = .map (some mb)) (h : MapSI w mb sz f)
    (hK : wpList Try.prog ops Q rest (a.put o.dst (.int .i64 sz)) w) : wpList Try.prog ops Q (o :: rest) a w := by
  obtain ⟨D, h1, h2, h3, h4⟩ := h
  refine wpList_len_own w hg m 50 hop 9 3 Try.underlying50 _ mb sz D hm h1 ?_
  rw [h3]
  exact hK

end

theorem MapSI.run_len {w : World} {mb sz : Nat} {f : ByteArray → Option Int} (h : MapSI w mb sz f) (ty : TypeId) : (Builtin.len_ #[50] ty #[.map (some mb)]).run Try.prog w = .ok (.int .i64 sz) w := by
  obtain ⟨D, h1, h2, h3, h4⟩ := h
  have := h1.len Try.underlying50 ty
  rw [h3] at this
  exact this

end Go.Proofs.Ytjfpbhdcbjaahaa
