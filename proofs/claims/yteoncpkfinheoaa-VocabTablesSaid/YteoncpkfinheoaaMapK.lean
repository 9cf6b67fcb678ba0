/- A map to ints that the program holds, told by what stands at each key, whatever the keys' type. Plain lemmas and laws of the walk. -/
import Derived.Test.YteoncpkfinheoaaLib
import Derived.Maps.OwnOps
import Derived.Maps.OwnSet
import Derived.Maps.Views
namespace Go.Proofs.Yteoncpkfinheoaa
open Go.RowKit Go.Maps Go.ChangeMaps Go.WideMaps
set_option linter.unusedVariables false
set_option linter.unusedSimpArgs false

/-- How keys of a type are told: α's elements that may be, as values and as what the model orders them by. -/
structure KeyView (P : Program) (k : TypeId) (α : Type) where
  val : α → Value
  lit : α → Lit
  ok : α → Prop
  key : ∀ x, ok x → keyOf P k (val x) = some (lit x)
  inj : ∀ x y, ok x → ok y → lit x = lit y → x = y
  keyed : Keyed P k

section
variable {P : Program} {k t e : TypeId} {α : Type} {V : KeyView P k α}

/-- Block mb is a map of sz entries; at key s stands f s. -/
def MapK (V : KeyView P k α) (e : TypeId) (w : World) (mb sz : Nat) (f : α → Option Int) : Prop :=
  ∃ D : DataW Unit, w.ownsMap P k (plainElem P e) mb sz D ∧ Tidy D ∧ size D = sz ∧
    ∀ s, V.ok s → has D (V.lit s) = (f s).isSome ∧ ∀ c, f s = some c → D.atKey (V.lit s) (.lit (.int .i64 0)) = .lit (.int .i64 c)

theorem MapK.lt {w : World} {mb sz : Nat} {f : α → Option Int} (h : MapK V e w mb sz f) : mb < w.heap.size := let ⟨_, h1, _⟩ := h; h1.lt

theorem MapK.stay {w w' : World} {mb sz : Nat} {f : α → Option Int} (h : MapK V e w mb sz f) (hb : w'.heap[mb]? = w.heap[mb]?) : MapK V e w' mb sz f := by
  obtain ⟨D, ⟨es, clock, h1, h2⟩, r⟩ := h
  exact ⟨D, ⟨es, clock, hb.trans h1, h2⟩, r⟩
theorem MapK.below {w w' : World} {mb sz : Nat} {f : α → Option Int} (h : MapK V e w mb sz f) (hb : Below w.heap.size w w') : MapK V e w' mb sz f := h.stay (hb.block _ h.lt)
theorem MapK.drewN {w : World} {mb sz : Nat} {f : α → Option Int} (h : MapK V e w mb sz f) (n : Nat) : MapK V e (w.drewN n) mb sz f := h.stay rfl
theorem MapK.alloc {w : World} {mb sz : Nat} {f : α → Option Int} (h : MapK V e w mb sz f) (o : Obj) : MapK V e (w.alloc o) mb sz f := h.below (below_alloc w o)

theorem ownsMapK_size {w : World} {b n : Nat} {D : DataW Unit} (h : w.ownsMap P k (plainElem P e) b n D) : w.ownsMap P k (plainElem P e) b (size D) D := by
  obtain ⟨es, clock, hb, F, hn, rfl⟩ := h
  refine ⟨es, clock, hb, F, ?_, rfl⟩
  rw [size_eq, length_sorted]
  simp

theorem MapK.new (V : KeyView P k α) (e : TypeId) (w : World) : MapK V e (w.alloc (.map #[] 0)) w.heap.size 0 (fun _ => none) :=
  ⟨.map [], World.ownsMap_made _ _ _ _, tidy_empty, rfl, fun s _ => ⟨rfl, fun c h => by cases h⟩⟩

theorem MapK.congr {w : World} {mb sz sz' : Nat} {f g : α → Option Int} (h : MapK V e w mb sz f) (hs : sz = sz') (hf : ∀ s, V.ok s → f s = g s) : MapK V e w mb sz' g := by
  subst hs
  obtain ⟨D, h1, h2, h3, h4⟩ := h
  exact ⟨D, h1, h2, h3, fun s hs => by rw [← hf s hs]; exact h4 s hs⟩

variable {w : World} {ops : Array Oper} {rest : List Oper} {o : Oper} {a : Act} {Q : Exit → Act → World → Prop}

theorem wpList_mk_ok (ht : P.underlying t = some (.map k e)) (he : P.underlying e = some (.int .i64)) (hz : ∀ w : World, (zeroValue e).run P w = .ok (.int .i64 0) w)
    (hg : o.guard = none) (m x : Operand) (hop : o.op = Op.lookup t m x true) {mb sz : Nat} {f : α → Option Int} (hm : a.eval m = .map (some mb)) (h : MapK V e w mb sz f)
    {s : α} (hx : a.eval x = V.val s) (hs : V.ok s)
    (hK : wpList P ops Q rest (a.put o.dst (.tuple #[.int .i64 ((f s).getD 0), .bool (f s).isSome])) w) : wpList P ops Q (o :: rest) a w := by
  obtain ⟨D, h1, h2, h3, h4⟩ := h
  refine wpList_lookup_own_ok_int w hg m x t hop k e .i64 V.keyed ht he (hz w) mb sz D hm h1 _ (V.lit s) hx (V.key s hs) ?_
  intro c hat _
  have hh := h4 s hs
  rw [hh.1]
  have hc : c = (f s).getD 0 := by
    cases hf : f s with
    | none =>
      rw [hf] at hh
      rw [atKey_of_not_has (by simpa using hh.1)] at hat
      simpa using hat.symm
    | some c' =>
      have := hh.2 c' hf
      rw [this] at hat
      simpa using hat.symm
  rw [hc]
  exact hK

theorem wpList_mk_get (ht : P.underlying t = some (.map k e)) (he : P.underlying e = some (.int .i64)) (hz : ∀ w : World, (zeroValue e).run P w = .ok (.int .i64 0) w)
    (hg : o.guard = none) (m x : Operand) (hop : o.op = Op.lookup t m x false) {mb sz : Nat} {f : α → Option Int} (hm : a.eval m = .map (some mb)) (h : MapK V e w mb sz f)
    {s : α} (hx : a.eval x = V.val s) (hs : V.ok s)
    (hK : wpList P ops Q rest (a.put o.dst (.int .i64 ((f s).getD 0))) w) : wpList P ops Q (o :: rest) a w := by
  obtain ⟨D, h1, h2, h3, h4⟩ := h
  refine wpList_lookup_own_int w hg m x t hop k e .i64 V.keyed ht he (hz w) mb sz D hm h1 _ (V.lit s) hx (V.key s hs) ?_
  intro c hat _
  have hh := h4 s hs
  have hc : c = (f s).getD 0 := by
    cases hf : f s with
    | none =>
      rw [hf] at hh
      rw [atKey_of_not_has (by simpa using hh.1)] at hat
      simpa using hat.symm
    | some c' =>
      have := hh.2 c' hf
      rw [this] at hat
      simpa using hat.symm
  rw [hc]
  exact hK

theorem wpList_mk_put [DecidableEq α] (ht : P.underlying t = some (.map k e)) (he : P.underlying e = some (.int .i64))
    (hg : o.guard = none) (m x v : Operand) (hop : o.op = Op.mapUpdate t m x v) {mb sz : Nat} {f : α → Option Int} (hm : a.eval m = .map (some mb)) (h : MapK V e w mb sz f)
    {s : α} (hx : a.eval x = V.val s) (hs : V.ok s) {c : Int} (hv : a.eval v = .int .i64 c) (hc : (Lit.int .i64 c).wf = true) (hn : sz < maxLen)
    (hK : ∀ w', MapK V e w' mb (if (f s).isSome then sz else sz + 1) (fun t => if t = s then some c else f t) → w.grownBy w' (some mb) → wpList P ops Q rest (a.put o.dst undef) w') : wpList P ops Q (o :: rest) a w := by
  obtain ⟨D, h1, h2, h3, h4⟩ := h
  have hkl : WideAt.IsKeyLit (V.lit s) := V.keyed.key (V.key s hs)
  refine wpList_mapUpdate_own w hg m x v t hop k e V.keyed ht _ mb sz D hm h1 hn _ _ (V.lit s) hx hv (V.key s hs) _ [] (plainElem_int he hc) ?_
  intro w' hown hgrow
  have e1 : size (D.put (V.lit s) (.lit (.int .i64 c))) = if (f s).isSome then sz else sz + 1 := by
    rw [size_put h2, (h4 s hs).1, h3]
  refine hK w' ⟨D.put (V.lit s) (.lit (.int .i64 c)), ?_, h2.put hkl _, e1, fun t ht' => ?_⟩ hgrow
  · have := ownsMapK_size hown
    rw [e1] at this
    exact this
  · by_cases e2 : t = s
    · subst e2
      simp only [if_true, Option.isSome_some, Option.some.injEq]
      refine ⟨has_put_same h2.isMap hkl _, fun c' hc' => ?_⟩
      subst hc'
      exact atKey_put_same h2.isMap hkl _ _
    · have hne : V.lit t ≠ V.lit s := fun h => e2 (V.inj t s ht' hs h)
      simp only [e2, if_false]
      rw [has_put_other hne]
      exact ⟨(h4 t ht').1, fun c' hc' => by rw [atKey_put_other hne]; exact (h4 t ht').2 c' hc'⟩

/-- 'm[k] = c', run. -/
theorem MapK.update [DecidableEq α] (ht : P.underlying t = some (.map k e)) (he : P.underlying e = some (.int .i64)) {mb sz : Nat} {f : α → Option Int} (h : MapK V e w mb sz f)
    {s : α} (hs : V.ok s) {c : Int} (hc : (Lit.int .i64 c).wf = true) (hn : sz < maxLen) :
    ∃ w', (Instr.mapUpdate t (.map (some mb)) (V.val s) (.int .i64 c)).run P w = .ok () w' ∧ MapK V e w' mb (if (f s).isSome then sz else sz + 1) (fun t => if t = s then some c else f t) ∧ w.grownBy w' (some mb) := by
  obtain ⟨D, h1, h2, h3, h4⟩ := h
  have hkl : WideAt.IsKeyLit (V.lit s) := V.keyed.key (V.key s hs)
  obtain ⟨w', hrun, hown, hgrow⟩ := h1.update V.keyed ht hn (V.key s hs) (plainElem_int he hc)
  have e1 : size (D.put (V.lit s) (.lit (.int .i64 c))) = if (f s).isSome then sz else sz + 1 := by
    rw [size_put h2, (h4 s hs).1, h3]
  refine ⟨w', hrun, ⟨D.put (V.lit s) (.lit (.int .i64 c)), ?_, h2.put hkl _, e1, fun t ht' => ?_⟩, hgrow⟩
  · have := ownsMapK_size hown
    rw [e1] at this
    exact this
  · by_cases e2 : t = s
    · subst e2
      simp only [if_true, Option.isSome_some, Option.some.injEq]
      refine ⟨has_put_same h2.isMap hkl _, fun c' hc' => ?_⟩
      subst hc'
      exact atKey_put_same h2.isMap hkl _ _
    · have hne : V.lit t ≠ V.lit s := fun h => e2 (V.inj t s ht' hs h)
      simp only [e2, if_false]
      rw [has_put_other hne]
      exact ⟨(h4 t ht').1, fun c' hc' => by rw [atKey_put_other hne]; exact (h4 t ht').2 c' hc'⟩

/-- 'm[k]', run. -/
theorem MapK.get (ht : P.underlying t = some (.map k e)) (he : P.underlying e = some (.int .i64)) (hz : ∀ w : World, (zeroValue e).run P w = .ok (.int .i64 0) w) {mb sz : Nat} {f : α → Option Int} (h : MapK V e w mb sz f)
    {s : α} (hs : V.ok s) : (Instr.lookup t (.map (some mb)) (V.val s) false).run P w = .ok (.int .i64 ((f s).getD 0)) w := by
  obtain ⟨D, h1, h2, h3, h4⟩ := h
  obtain ⟨c, hrun, hat, _⟩ := h1.lookup_int V.keyed ht he (hz w) (V.key s hs)
  have hh := h4 s hs
  have hc : c = (f s).getD 0 := by
    cases hf : f s with
    | none =>
      rw [hf] at hh
      rw [atKey_of_not_has (by simpa using hh.1)] at hat
      simpa using hat.symm
    | some c' =>
      have := hh.2 c' hf
      rw [this] at hat
      simpa using hat.symm
  rw [← hc]
  exact hrun

/-- What 'm[k]++' leaves between its two halves, and behind them. -/
structure Entry (V : KeyView P k α) (t e : TypeId) (mb sz : Nat) (f : α → Option Int) (s : α) (o0 o1 : Obj) (v stamp : Value) (o2 : Int → Obj) : Prop where
  look0 : ∀ W : World, W.heap[mb]? = some o0 → (Instr.lookup t (.map (some mb)) (V.val s) false).run P W = .ok (.int .i64 ((f s).getD 0)) W
  entry : ∀ W : World, W.heap[mb]? = some o0 → (Instr.mapEntry t (.map (some mb)) (V.val s)).run P W = .ok (.tuple #[v, stamp]) (ChangeMaps.setBlock W mb o1)
  at1 : ∀ W : World, W.heap[mb]? = some o0 → (ChangeMaps.setBlock W mb o1).heap[mb]? = some o1
  look1 : ∀ W : World, W.heap[mb]? = some o1 → (Instr.lookup t (.map (some mb)) (V.val s) false).run P W = .ok (.int .i64 ((f s).getD 0)) W
  store : ∀ (W : World) (c : Int), W.heap[mb]? = some o1 → (Instr.entryStore t (.map (some mb)) stamp (.int .i64 c)).run P W = .ok () (ChangeMaps.setBlock W mb (o2 c))
  fin : ∀ (W : World) (c : Int), (Lit.int .i64 c).wf = true → W.heap[mb]? = some (o2 c) → ∃ sz' g, sz' ≤ sz + 1 ∧ MapK V e W mb sz' g ∧ g s = some c ∧ ∀ t, t ≠ s → g t = f t

theorem findIdx_nodup {es : Array MapEntry} (hnd : (es.toList.map (·.born)).Nodup) {j : Nat} {x : MapEntry} (hj : es[j]? = some x) : es.findIdx? (fun e => (e.born : Int) == (x.born : Int)) = some j := by
  rw [Array.findIdx?_eq_some_iff_getElem]
  obtain ⟨hlt, hx⟩ := Array.getElem?_eq_some_iff.1 hj
  refine ⟨hlt, by rw [hx]; simp, fun i hi => ?_⟩
  have h := (List.pairwise_iff_getElem.1 hnd) i j (by simp; omega) (by simpa using hlt) hi
  simp only [List.getElem_map, Array.getElem_toList] at h
  rw [hx] at h
  simp only [beq_iff_eq]
  intro h2
  exact h (by omega)

theorem below_setBlock {A W : World} {B mb : Nat} {o : Obj} (h : Below B A W) (hm : B ≤ mb) : Below B A (ChangeMaps.setBlock W mb o) :=
  ⟨h.os, h.tape, h.output, by have := h.size; simp [ChangeMaps.setBlock]; exact this, fun q hq => by
    rw [← h.block q hq]
    show (W.heap.setIfInBounds mb o)[q]? = _
    rw [Array.getElem?_setIfInBounds_ne (by omega)]⟩

theorem setBlock_inj {W : World} {mb : Nat} {es : Array MapEntry} {clock : Nat} (hb : W.heap[mb]? = some (.map es clock)) {o o' : Obj} (h : ChangeMaps.setBlock W mb o = ChangeMaps.setBlock W mb o') : o = o' := by
  have h1 := heap_setBlock_same hb o
  have h2 := heap_setBlock_same hb o'
  rw [h, h2] at h1
  exact (Option.some.inj h1).symm

theorem MapK.entry [DecidableEq α] (ht : P.underlying t = some (.map k e)) (he : P.underlying e = some (.int .i64)) (hz : ∀ w : World, (zeroValue e).run P w = .ok (.int .i64 0) w) {mb sz : Nat} {f : α → Option Int} (h : MapK V e w mb sz f)
    {s : α} (hs : V.ok s) (hn : sz < maxLen) : ∃ o0 o1 v stamp o2, w.heap[mb]? = some o0 ∧ Entry V t e mb sz f s o0 o1 v stamp o2 := by
  have hkey := V.key s hs
  have hget := fun (W : World) (hW : MapK V e W mb sz f) => MapK.get (s := s) ht he hz hW hs
  have hupd := fun (W : World) (hW : MapK V e W mb sz f) (c : Int) (hc : (Lit.int .i64 c).wf = true) => MapK.update (s := s) ht he hW hs hc hn
  have hmem := h
  obtain ⟨D, ⟨es, clock, hb, F, hsz, hD⟩, hrest⟩ := h
  have hM : ∀ W : World, W.heap[mb]? = some (.map es clock) → MapK V e W mb sz f := fun W hW => ⟨D, ⟨es, clock, hW, F, hsz, hD⟩, hrest⟩
  by_cases hx : ∃ x ∈ es.toList, x.key = V.val s
  · -- it is there
    obtain ⟨x, hxm, hxk⟩ := hx
    obtain ⟨j, hj⟩ : ∃ j, es[j]? = some x := by
      obtain ⟨j, hj, rfl⟩ := List.getElem_of_mem hxm
      exact ⟨j, by simp at hj; exact Array.getElem?_eq_getElem hj⟩
    have hjl := (Array.getElem?_eq_some_iff.1 hj).1
    have hfind : ∀ W : World, (Instr.findKey k (V.val s) es.toList).run P W = .ok (some (j, x.val)) W := fun W => by
      rcases V.keyed.find W hkey es.toList F.keys with ⟨_, h2⟩ | ⟨j', e0, h1, h2, h3⟩
      · exact absurd hxk (h2 x hxm)
      · have hjj : j' = j := by
          have hnd := F.stamped.2.2
          have hj' : es[j']? = some e0 := by simpa using h2
          have hjl' := (Array.getElem?_eq_some_iff.1 hj').1
          rcases Nat.lt_trichotomy j' j with h4 | h4 | h4
          · have := (List.pairwise_iff_getElem.1 hnd) j' j (by simpa using hjl') (by simpa using hjl) h4
            simp only [List.getElem_map, Array.getElem_toList] at this
            rw [(Array.getElem?_eq_some_iff.1 hj).2, (Array.getElem?_eq_some_iff.1 hj').2, hxk, h3] at this
            exact absurd rfl this
          · exact h4
          · have := (List.pairwise_iff_getElem.1 hnd) j j' (by simpa using hjl) (by simpa using hjl') h4
            simp only [List.getElem_map, Array.getElem_toList] at this
            rw [(Array.getElem?_eq_some_iff.1 hj).2, (Array.getElem?_eq_some_iff.1 hj').2, hxk, h3] at this
            exact absurd rfl this
        subst hjj
        have hj' : es[j']? = some e0 := by simpa using h2
        rw [hj] at hj'
        cases hj'
        exact h1
    have hmod : es.modify j (fun e => { e with key := V.val s }) = es := by
      apply Array.ext
      · simp
      · intro i h1 h2
        rw [Array.getElem_modify]
        split
        · subst i
          have : es[j] = x := (Array.getElem?_eq_some_iff.1 hj).2
          rw [this, ← hxk]
        · rfl
    have hmod2 : ∀ c : Int, (es.modify j fun e => { e with key := V.val s, val := .int .i64 c }) = es.modify j (fun e => { e with val := .int .i64 c }) := fun c => by
      apply Array.ext
      · simp
      · intro i h1 h2
        rw [Array.getElem_modify, Array.getElem_modify]
        split
        · subst i
          have : es[j] = x := (Array.getElem?_eq_some_iff.1 hj).2
          rw [this, ← hxk]
        · rfl
    have hstay : ∀ W : World, (Instr.keyThatStays x.key (V.val s)).run P W = .ok (V.val s) W := fun W => by
      rw [hxk]
      exact V.keyed.stays W hkey
    refine ⟨.map es clock, .map es clock, x.val, goInt x.born, fun c => .map (es.modify j (fun e => { e with val := .int .i64 c })) clock, hb, ⟨fun W hW => hget W (hM W hW), fun W hW => ?_, fun W hW => heap_setBlock_same hW _, fun W hW => hget W (hM W hW), fun W c hW => ?_, fun W c hc hW => ?_⟩⟩
    · simp [Instr.mapEntry, run_underlying ht, MapKept.run_getObj_map hW, V.keyed.check W false hkey, hfind W, hstay W, hmod, MapKept.run_setObj_map _ hW, Result.andThen, ChangeMaps.setBlock, hj]
    · simp [Instr.entryStore, MapKept.run_getObj_map hW, MapKept.run_setObj_map _ hW, Result.andThen, ChangeMaps.setBlock, goInt, asInt, asIntOf, findIdx_nodup F.stamped.2.1 hj]
    · obtain ⟨w', hrun, hm', hg'⟩ := hupd w hmem c hc
      have hrun2 : (Instr.mapUpdate t (.map (some mb)) (V.val s) (.int .i64 c)).run P w = .ok () (ChangeMaps.setBlock w mb (.map (es.modify j (fun e => { e with val := .int .i64 c })) clock)) := by
        simp [Instr.mapUpdate, run_underlying ht, MapKept.run_getObj_map hb, V.keyed.check w false hkey, hfind w, hj, hstay w, hmod2, MapKept.run_setObj_map _ hb, Result.andThen, ChangeMaps.setBlock]
      rw [hrun] at hrun2
      have hw' : w' = _ := (Result.ok.inj hrun2).2
      refine ⟨_, _, ?_, hm'.stay (by rw [hW, hw']; exact (heap_setBlock_same hb _).symm), by simp, fun t ht => by simp [ht]⟩
      split <;> omega
  · have hx' : ∀ x ∈ es.toList, x.key ≠ V.val s := fun x hxm e => hx ⟨x, hxm, e⟩
    have hfind : ∀ W : World, (Instr.findKey k (V.val s) es.toList).run P W = .ok none W := fun W => by
      rcases V.keyed.find W hkey es.toList F.keys with ⟨h1, _⟩ | ⟨j', e0, _, h2, h3⟩
      · exact h1
      · exact absurd h3 (hx' e0 (by have : es.toList[j']? = some e0 := h2; exact List.mem_of_getElem? this))
    have hf0 : (f s).getD 0 = 0 := by
      have h1 := hget w hmem
      simp [Instr.lookup, run_underlying ht, MapKept.run_getObj_map hb, V.keyed.check w _ hkey, hfind w, hz w, Result.andThen] at h1
      exact h1.symm
    have hfit : ∀ c : Int, (Lit.int .i64 c).wf = true → MapK V e (ChangeMaps.setBlock w mb (.map (es.push ⟨V.val s, .int .i64 c, clock⟩) (clock + 1))) mb (if (f s).isSome then sz else sz + 1) (fun t => if t = s then some c else f t) := fun c hc => by
      obtain ⟨w', hrun, hm', hg'⟩ := hupd w hmem c hc
      have hrun2 : (Instr.mapUpdate t (.map (some mb)) (V.val s) (.int .i64 c)).run P w = .ok () (ChangeMaps.setBlock w mb (.map (es.push ⟨V.val s, .int .i64 c, clock⟩) (clock + 1))) := by
        simp [Instr.mapUpdate, run_underlying ht, MapKept.run_getObj_map hb, V.keyed.check w false hkey, hfind w, MapKept.run_setObj_map _ hb, Result.andThen, ChangeMaps.setBlock]
      rw [hrun] at hrun2
      have hw' : w' = _ := (Result.ok.inj hrun2).2
      rw [← hw']; exact hm'
    have hw0 : (Lit.int .i64 0).wf = true := by decide
    have hes1 : ∀ W : World, W.heap[mb]? = some (.map (es.push ⟨V.val s, .int .i64 0, clock⟩) (clock + 1)) → (Instr.lookup t (.map (some mb)) (V.val s) false).run P W = .ok (.int .i64 ((f s).getD 0)) W := fun W hW => by
      have h1 := (hfit 0 hw0).stay (w' := W) (by rw [hW]; exact (heap_setBlock_same hb _).symm)
      have h2 := MapK.get (s := s) ht he hz h1 hs
      rw [h2, hf0]
      simp
    have hidx : (es.push ⟨V.val s, .int .i64 0, clock⟩).findIdx? (fun e => (e.born : Int) == (clock : Int)) = some es.size := by
      rw [Array.findIdx?_eq_some_iff_getElem]
      refine ⟨by simp, by simp, fun i hi => ?_⟩
      rw [Array.getElem_push_lt hi]
      have := F.stamped.1 es[i] (by simp)
      simp only [beq_iff_eq]
      omega
    have hmod : ∀ c : Int, (es.push ⟨V.val s, .int .i64 0, clock⟩).modify es.size (fun e => { e with val := .int .i64 c }) = es.push ⟨V.val s, .int .i64 c, clock⟩ := fun c => by
      apply Array.ext
      · simp
      · intro i h1 h2
        rw [Array.getElem_modify]
        split
        · subst i; simp
        · rename_i hne
          have hi : i < es.size := by simp at h2; omega
          rw [Array.getElem_push_lt hi, Array.getElem_push_lt hi]
    refine ⟨.map es clock, .map (es.push ⟨V.val s, .int .i64 0, clock⟩) (clock + 1), .int .i64 0, goInt clock, fun c => .map (es.push ⟨V.val s, .int .i64 c, clock⟩) (clock + 1), hb, ⟨fun W hW => hget W (hM W hW), fun W hW => ?_, fun W hW => heap_setBlock_same hW _, hes1, fun W c hW => ?_, fun W c hc hW => ?_⟩⟩
    · simp [Instr.mapEntry, run_underlying ht, MapKept.run_getObj_map hW, V.keyed.check W false hkey, hfind W, hz W, MapKept.run_setObj_map _ hW, Result.andThen, ChangeMaps.setBlock]
    · simp [Instr.entryStore, MapKept.run_getObj_map hW, MapKept.run_setObj_map _ hW, Result.andThen, ChangeMaps.setBlock, goInt, asInt, asIntOf, hidx, hmod c]
    · refine ⟨_, _, ?_, (hfit c hc).stay (by rw [hW]; exact (heap_setBlock_same hb _).symm), by simp, fun t ht => by simp [ht]⟩
      split <;> omega

end

/-- Keys told by the model's own words. -/
noncomputable def KeyView.of {P : Program} {k : TypeId} {α : Type} (val : α → Value) (ok : α → Prop) (h : ∀ x, ok x → (keyOf P k (val x)).isSome = true) (inj : ∀ x y, val x = val y → x = y) (K : Keyed P k) : KeyView P k α where
  val := val
  lit x := (keyOf P k (val x)).getD (.bool false)
  ok := ok
  key x hx := by
    cases e : keyOf P k (val x) with
    | none => have := h x hx; rw [e] at this; cases this
    | some l => rfl
  inj x y hx hy e := by
    cases e1 : keyOf P k (val x) with
    | none => have := h x hx; rw [e1] at this; cases this
    | some l =>
      cases e2 : keyOf P k (val y) with
      | none => have := h y hy; rw [e2] at this; cases this
      | some l2 =>
        rw [e1, e2] at e
        simp at e
        subst e
        exact inj x y (K.inj e1 e2)
  keyed := K

/-- Strings as keys. -/
noncomputable def strView {P : Program} {k : TypeId} (hk : P.underlying k = some .string) : KeyView P k ByteArray :=
  KeyView.of .string (fun s => s.size ≤ maxLen) (fun s hs => by rw [keyOf_string_mk hk hs]; rfl) (fun x y h => by simpa using h) (string_keyed hk)

/-- Ints as keys. -/
theorem i64_wf {x : Int} : (Lit.int .i64 x).wf = true ↔ -9223372036854775808 ≤ x ∧ x ≤ 9223372036854775807 := by
  simp [Lit.wf, IntKind.min, IntKind.max, IntKind.signed, IntKind.bits]
noncomputable def intView {P : Program} {k : TypeId} (hk : P.underlying k = some (.int .i64)) : KeyView P k Int :=
  KeyView.of (.int .i64) (fun x => (Lit.int .i64 x).wf = true) (fun s hs => by rw [keyOf_int_mk hk hs]; rfl) (fun x y h => by simpa using h) (int_keyed hk)

end Go.Proofs.Yteoncpkfinheoaa
