/- A map from strings to ints that the program holds, told by what stands at each key. Plain lemmas and laws of the walk. -/
import Derived.Test.YtimkkkdabmhedaaGreatDoorB29
import Derived.Maps.OwnOps
import Derived.Maps.OwnSet
import Derived.Maps.Views
import Derived.Test.YtimkkkdabmhedaaGreatDoorB1
import Derived.Test.YtimkkkdabmhedaaGreatDoorB30
import Derived.StillTailTactics
import Derived.Deep.AppendLies
namespace Go.Proofs.YtimkkkdabmhedaaGreatDoor
open Go.RowKit Go.Maps Go.ChangeMaps Go.WideMaps
set_option linter.unusedVariables false
set_option linter.unusedSimpArgs false

theorem lawS : Keyed Tryz.prog 9 := string_keyed Tryz.underlying9
theorem zeroSI (w : World) : (zeroValue 3).run Tryz.prog w = .ok (.int .i64 0) w := by kernel_rfl

def keyL (s : ByteArray) : Lit := .string s.data.toList
theorem keyL_inj {s t : ByteArray} (h : keyL s = keyL t) : s = t := by
  simp only [keyL, Lit.string.injEq] at h
  have h2 : s.data = t.data := Array.toList_inj.1 h
  cases s; cases t; simp_all

/-- Block mb is a map of sz entries; at key s stands f s. -/
def MapSI (w : World) (mb sz : Nat) (f : ByteArray → Option Int) : Prop :=
  ∃ D : DataW Unit, w.ownsMap Tryz.prog 9 (plainElem Tryz.prog 3) mb sz D ∧ Tidy D ∧ size D = sz ∧
    ∀ s, has D (keyL s) = (f s).isSome ∧ ∀ c, f s = some c → D.atKey (keyL s) (.lit (.int .i64 0)) = .lit (.int .i64 c)

theorem MapSI.lt {w : World} {mb sz : Nat} {f : ByteArray → Option Int} (h : MapSI w mb sz f) : mb < w.heap.size := let ⟨_, h1, _⟩ := h; h1.lt

theorem MapSI.stay {w w' : World} {mb sz : Nat} {f : ByteArray → Option Int} (h : MapSI w mb sz f) (hb : w'.heap[mb]? = w.heap[mb]?) : MapSI w' mb sz f := by
  obtain ⟨D, ⟨es, clock, h1, h2⟩, r⟩ := h
  exact ⟨D, ⟨es, clock, hb.trans h1, h2⟩, r⟩

theorem ownsMap_size {w : World} {b n : Nat} {D : DataW Unit} (h : w.ownsMap Tryz.prog 9 (plainElem Tryz.prog 3) b n D) : w.ownsMap Tryz.prog 9 (plainElem Tryz.prog 3) b (size D) D := by
  obtain ⟨es, clock, hb, F, hn, rfl⟩ := h
  refine ⟨es, clock, hb, F, ?_, rfl⟩
  rw [size_eq, length_sorted]
  simp

theorem MapSI.new (w : World) : MapSI (w.alloc (.map #[] 0)) w.heap.size 0 (fun _ => none) :=
  ⟨.map [], World.ownsMap_made _ _ _ _, tidy_empty, rfl, fun s => ⟨rfl, fun c h => by cases h⟩⟩

theorem MapSI.congr {w : World} {mb sz sz' : Nat} {f g : ByteArray → Option Int} (h : MapSI w mb sz f) (hs : sz = sz') (hf : ∀ s, f s = g s) : MapSI w mb sz' g := by
  subst hs
  have : f = g := funext hf
  subst this
  exact h

section
variable {w : World} {ops : Array Oper} {rest : List Oper} {o : Oper} {a : Act} {Q : Exit → Act → World → Prop}

theorem wpList_si_ok (hg : o.guard = none) (m x : Operand) (hop : o.op = Op.lookup 131 m x true) {mb sz : Nat} {f : ByteArray → Option Int} (hm : a.eval m = .map (some mb)) (h : MapSI w mb sz f)
    {s : ByteArray} (hx : a.eval x = .string s) (hs : s.size ≤ maxLen)
    (hK : wpList Tryz.prog ops Q rest (a.put o.dst (.tuple #[.int .i64 ((f s).getD 0), .bool (f s).isSome])) w) : wpList Tryz.prog ops Q (o :: rest) a w := by
  obtain ⟨D, h1, h2, h3, h4⟩ := h
  refine wpList_lookup_own_ok_int w hg m x 131 hop 9 3 .i64 lawS Tryz.underlying131 Tryz.underlying3 (zeroSI w) mb sz D hm h1 _ (keyL s) hx (keyOf_string_mk Tryz.underlying9 hs) ?_
  intro c hat _
  have hh := h4 s
  rw [hh.1]
  have hc : c = (f s).getD 0 := by
    cases hf : f s with
    | none =>
      rw [hf] at hh
      rw [atKey_of_not_has (by simpa using hh.1)] at hat
      simpa using hat.symm
    | some c' =>
      have := hh.2 c' hf
      rw [this] at hat
      simpa using hat.symm
  rw [hc]
  exact hK

theorem wpList_si_put (hg : o.guard = none) (m x v : Operand) (hop : o.op = Op.mapUpdate 131 m x v) {mb sz : Nat} {f : ByteArray → Option Int} (hm : a.eval m = .map (some mb)) (h : MapSI w mb sz f)
    {s : ByteArray} (hx : a.eval x = .string s) (hs : s.size ≤ maxLen) {c : Int} (hv : a.eval v = .int .i64 c) (hc : (Lit.int .i64 c).wf = true) (hn : sz < maxLen)
    (hK : ∀ w', MapSI w' mb (if (f s).isSome then sz else sz + 1) (fun t => if t = s then some c else f t) → w.grownBy w' (some mb) → wpList Tryz.prog ops Q rest (a.put o.dst undef) w') : wpList Tryz.prog ops Q (o :: rest) a w := by
  obtain ⟨D, h1, h2, h3, h4⟩ := h
  refine wpList_mapUpdate_own w hg m x v 131 hop 9 3 lawS Tryz.underlying131 _ mb sz D hm h1 hn _ _ (keyL s) hx hv (keyOf_string_mk Tryz.underlying9 hs) _ [] (plainElem_int Tryz.underlying3 hc) ?_
  intro w' hown hgrow
  have e : size (D.put (keyL s) (.lit (.int .i64 c))) = if (f s).isSome then sz else sz + 1 := by
    rw [size_put h2, (h4 s).1, h3]
  refine hK w' ⟨D.put (keyL s) (.lit (.int .i64 c)), ?_, h2.put (by trivial) _, e, fun t => ?_⟩ hgrow
  · have := ownsMap_size hown
    rw [e] at this
    exact this
  · by_cases e : t = s
    · subst e
      simp only [if_true, Option.isSome_some, Option.some.injEq]
      refine ⟨has_put_same h2.isMap (by trivial) _, fun c' hc' => ?_⟩
      subst hc'
      exact atKey_put_same h2.isMap (by trivial) _ _
    · have hne : keyL t ≠ keyL s := fun h => e (keyL_inj h)
      simp only [e, if_false]
      rw [has_put_other hne]
      exact ⟨(h4 t).1, fun c' hc' => by rw [atKey_put_other hne]; exact (h4 t).2 c' hc'⟩

theorem wpList_si_del (hg : o.guard = none) (m x : Operand) (hop : o.op = Op.call { callee := Callee.builtin Builtin.delete, args := #[m, x], argTypes := #[131, 9] }) {mb sz : Nat} {f : ByteArray → Option Int} (hm : a.eval m = .map (some mb)) (h : MapSI w mb sz f)
    {s : ByteArray} (hx : a.eval x = .string s) (hs : s.size ≤ maxLen)
    (hK : ∀ w', MapSI w' mb (if (f s).isSome then sz - 1 else sz) (fun t => if t = s then none else f t) → w.mapTurned w' mb → wpList Tryz.prog ops Q rest (a.put o.dst (.tuple #[])) w') : wpList Tryz.prog ops Q (o :: rest) a w := by
  obtain ⟨D, h1, h2, h3, h4⟩ := h
  refine wpList_delete_own w hg m x 131 9 hop 3 lawS Tryz.underlying131 _ mb sz D hm h1 _ (keyL s) hx (keyOf_string_mk Tryz.underlying9 hs) ?_
  intro w' hown hturn
  have e : size (D.del (keyL s)) = if (f s).isSome then sz - 1 else sz := by
    have := size_del (k := keyL s) h2
    rw [(h4 s).1, h3] at this
    split at this <;> simp_all <;> omega
  refine hK w' ⟨D.del (keyL s), ?_, h2.del _, e, fun t => ?_⟩ hturn
  · have := ownsMap_size hown
    rw [e] at this
    exact this
  · by_cases e : t = s
    · subst e
      simp only [if_true, Option.isSome_none]
      exact ⟨has_del_same, fun c' hc' => by cases hc'⟩
    · have hne : keyL t ≠ keyL s := fun h => e (keyL_inj h)
      simp only [e, if_false]
      rw [has_del_other hne]
      exact ⟨(h4 t).1, fun c' hc' => by rw [atKey_del_other hne]; exact (h4 t).2 c' hc'⟩

end

theorem MapSI.run_len {w : World} {mb sz : Nat} {f : ByteArray → Option Int} (h : MapSI w mb sz f) (ty : TypeId) : (Builtin.len_ #[131] ty #[.map (some mb)]).run Tryz.prog w = .ok (.int .i64 sz) w := by
  obtain ⟨D, h1, h2, h3, h4⟩ := h
  have := h1.len Tryz.underlying131 ty
  rw [h3] at this
  exact this

end Go.Proofs.YtimkkkdabmhedaaGreatDoor

/- Walk: are two rows of integers the same? -/
namespace Go.Proofs.YtimkkkdabmhedaaGreatDoor
open Go.RowKit
set_option linter.unusedVariables false

theorem eq_of_ix {A B : List Int} (hl : A.length = B.length) (h : ∀ i, i < A.length → ix A i = ix B i) : A = B := by
  apply List.ext_getElem? 
  intro i
  by_cases hi : i < A.length
  · rw [ix_eq hi, ix_eq (by omega), h i hi]
  · rw [List.getElem?_eq_none (by omega), List.getElem?_eq_none (by omega)]

/-- 'A and B are the same', as a Bool of its own. -/
def eqB (A B : List Int) : Bool := A == B
theorem eqB_true {A B : List Int} (h : A = B) : eqB A B = true := by subst h; simp [eqB]
theorem eqB_false {A B : List Int} (h : A ≠ B) : eqB A B = false := by simp [eqB, h]

set_option maxHeartbeats 400000 in
theorem same10 {A B : List Int} {ao bo : Option Addr} {n m c d : Nat} (w : World) (hA : SlI w ao n c A) (hB : SlI w bo m d B) :
    Calls Tryz.prog 20 #[.slice ao n c, .slice bo m d] w fun e w' => ∃ k, e = .returned (.bool (eqB A B)) ∧ w' = w.drewN k := by
  have hmA := Nat.le_trans hA.le hA.max
  have hmB := Nat.le_trans hB.le hB.max
  have hlA := Lib.hid hA.len
  have hlB := Lib.hid hB.len
  unfold maxLen at hmA hmB
  by_cases hl : n = m
  · have ht : (((n : Nat) : Int) != (m : Nat)) = false := by rw [hl]; simp
    have hl2 := Lib.hid hl
    clear hl
    go_enter Tryz.func20, Tryz.ntmps20
    go_wp2
    go_loopw [5, 13] (fun _ i wr => ∃ k j : Nat, k ≤ n ∧ i = .int .i64 k ∧ (Hid (∀ i, i < k → ix A i = ix B i)) ∧ wr = w.drewN j) (fun _ i _ => n - (intOf i).toNat)
    case atStart => exact ⟨0, 0, Nat.zero_le _, rfl, (fun i h => by omega), rfl⟩
    case round =>
      obtain ⟨k, j, hk, rfl, htk, rfl⟩ := hrel
      by_cases hlt : k < n
      · have hlt2 : k < m := by have := hl2.out; omega
        obtain ⟨b1, o1, rfl, c1⟩ := hA.at_ hlt
        obtain ⟨b2, o2, rfl, c2⟩ := hB.at_ hlt2
        by_cases he : ix A k = ix B k
        · have he3 : (ix A k != ix B k) = false := by simpa using he
          have he2 := Lib.hid he
          clear he
          go_wp2
          go_quiet (fail)
          go_wp2
          go_roundw
          case rel => exact ⟨k + 1, _, by omega, by go_num, (fun i h => by by_cases e : i = k; (subst e; exact he2.out); exact htk.out i (by omega)), rfl⟩
          case measure => simp [intOf]; omega
        · have he3 : (ix A k != ix B k) = true := by simpa using he
          have he2 := Lib.hid he
          clear he
          go_wp2
          go_quiet (fail)
          go_wp2
          go_ret
          refine ⟨_, ret_bool (eqB_false ?_).symm, World.drewN_drewN ..⟩
          intro h
          exact he2.out (by rw [h])
      · go_wp2
        go_ret
        obtain rfl : k = n := by omega
        exact ⟨_, ret_bool (eqB_true (eq_of_ix (by rw [hlA.out, hlB.out, hl2.out]) (by rw [hlA.out]; exact htk.out))).symm, rfl⟩
  · have ht : (((n : Nat) : Int) != (m : Nat)) = true := by simp; omega
    have hl2 := Lib.hid hl
    clear hl
    go_enter Tryz.func20, Tryz.ntmps20
    go_wp2
    go_ret
    refine ⟨0, ret_bool (eqB_false ?_).symm, rfl⟩
    intro h
    have := hlA.out
    have := hlB.out
    have := hl2.out
    subst h
    omega

end Go.Proofs.YtimkkkdabmhedaaGreatDoor

/- Walk: slices.Clone of a row of integers. -/
namespace Go.Proofs.YtimkkkdabmhedaaGreatDoor
open Go.RowKit
set_option linter.unusedVariables false

theorem infoInt : (Tryz.prog.info? 3).map (fun i => (i.zero, i.size, i.bytes)) = some (some (.int .i64 0), 1, 8) := by kernel_rfl


theorem own_made0 (w : World) : Own (w.alloc (.cells #[] 3)) w.heap.size (.slice (some ⟨w.heap.size, 0, none⟩) 0 0) [] :=
  World.ownsRow_made w #[] 0 (Nat.le_refl _) (by unfold maxLen; omega) rfl

set_option maxHeartbeats 400000 in
theorem clone_nil (c : Nat) (w : World) :
    Calls Tryz.prog 70 #[.slice none 0 c] w fun e w' => ∃ v, e = .returned v ∧ Own w' w.heap.size v [] ∧ Below w.heap.size w w' := by
  have hsn := fun w => Lib.run_eql_slice_nil (P := Tryz.prog) w 43 3 none 0 c 0 0 Tryz.underlying43
  go_enter Tryz.func70, Tryz.ntmps70
  go_wp2
  go_ret
  exact ⟨_, rfl, Own.nil _ _, Below.refl _ _⟩

set_option maxHeartbeats 400000 in
theorem clone_some {A : List Int} {ad : Addr} {n c : Nat} (w : World) (hA : SlI w (some ad) n c A) (hreach : n * 8 ≤ 140737488355328) :
    Calls Tryz.prog 70 #[.slice (some ad) n c] w fun e w' => ∃ v, e = .returned v ∧ Own w' w.heap.size v A ∧ Below w.heap.size w w' := by
  have hmA := Nat.le_trans hA.le hA.max
  have hlA := Lib.hid hA.len
  unfold maxLen at hmA
  obtain ⟨i0, hi, hz0, hz1, hz2⟩ := info_parts infoInt
  have hsn := fun w => Lib.run_eql_slice_nil (P := Tryz.prog) w 43 3 (some ad) n c 0 0 Tryz.underlying43
  have hown := own_made0 w
  have hA2 := hA.alloc (.cells #[] 3)
  go_enter Tryz.func70, Tryz.ntmps70
  go_wp2_with (at_builtin; refine wpList_app rfl _ _ 43 rfl w.heap.size 3 i0 (.int .i64 0) 8 Tryz.underlying43 hi hz0 hz1 hz2 rfl _ 0 [] rfl hown (some ad) n c _ rfl hA2 (int_one A) (by unfold maxLen; omega) (by omega) (by simp) ?_)
  intro v' w' ho hg _
  go_wp2
  go_ret
  refine ⟨_, rfl, ?_, (below_alloc w _).grown hg (by simp) (by simp [Value.ownBlock])⟩
  unfold Own
  rw [hlA.out]
  simpa using ho

theorem clone_calls' {A : List Int} {ao : Option Addr} {n c : Nat} (w : World) (hA : SlI w ao n c A) (hreach : n * 8 ≤ 140737488355328) :
    Calls Tryz.prog 70 #[.slice ao n c] w fun e w' => ∃ v, e = .returned v ∧ Own w' w.heap.size v A ∧ Below w.heap.size w w' := by
  cases ao with
  | some ad => exact clone_some w hA hreach
  | none =>
    have hc := Sl.nil hA rfl
    have hn : n = 0 := by have := Sl.le hA; omega
    subst hn
    have : A = [] := List.eq_nil_of_length_eq_zero hA.len
    subst this
    exact clone_nil c w

theorem clone_calls {A : List Int} {ao : Option Addr} {n c : Nat} (w : World) (hA : SlI w ao n c A) (hreach : n * 8 ≤ 140737488355328) :
    Calls Tryz.prog 70 #[.slice ao n c] w fun e w' => ∃ vo vc, e = .returned (.slice vo n vc) ∧ Own w' w.heap.size (.slice vo n vc) A ∧ Below w.heap.size w w' := by
  have key : Calls Tryz.prog 70 #[.slice ao n c] w fun e w' => ∃ v, e = .returned v ∧ Own w' w.heap.size v A ∧ Below w.heap.size w w' := clone_calls' w hA hreach
  refine key.mono fun e w' ⟨v, he, ho, hb⟩ => ?_
  obtain ⟨vo, vc, rfl, _⟩ := ho.sl
  have := hA.len
  subst this
  exact ⟨vo, vc, he, ho, hb⟩



end Go.Proofs.YtimkkkdabmhedaaGreatDoor

/- The whole cache in memory: fields, nodes, rows, map, chain. Plain lemmas. -/
namespace Go.Proofs.YtimkkkdabmhedaaGreatDoor
open Go.RowKit
set_option linter.unusedVariables false

/-- The blocks that a cache writes. -/
def Ft (cb mb : Nat) (no : Option Addr) (k : Nat) : Prop := k = cb ∨ k = mb ∨ no = some ⟨k, 0, none⟩

/-- The nodes: none yet, or a row of the cache's own. -/
def NdsO (w : World) (base top cb mb : Nat) (no : Option Addr) (m cap : Nat) (N : Nat → Nd) : Prop :=
  (no = none ∧ m = 0 ∧ cap = 0) ∨ ∃ nb, no = some ⟨nb, 0, none⟩ ∧ Nds w nb m cap N ∧ cb ≠ nb ∧ mb ≠ nb ∧ base ≤ nb ∧ nb < top

/-- A row: it reads, and lies outside what the cache writes. -/
def RowOK (w : World) (base top cb mb : Nat) (no : Option Addr) (n : Nd) (A : List Int) : Prop :=
  SlI w n.ro n.rn n.rc A ∧ ∀ ad, n.ro = some ad → base ≤ ad.block ∧ ad.block < top ∧ ¬ Ft cb mb no ad.block

structure CSt (w : World) (base top cb mb : Nat) (no : Option Addr) (m cap : Nat) (N : Nat → Nd) (e y room hits misses : Int) (ord : List Nat) (sz : Nat) (f : ByteArray → Option Int) (R : Nat → List Int) : Prop where
  fl : Flds w cb (.slice no m cap) mb e y room hits misses
  nd : NdsO w base top cb mb no m cap N
  mp : MapSI w mb sz f
  ch : Chain ord N e y
  lt : ∀ i ∈ ord, i < m
  cm : cb ≠ mb
  bc : base ≤ cb ∧ cb < top
  bm : base ≤ mb ∧ mb < top
  rows : ∀ i, i < m → RowOK w base top cb mb no (N i) (R i)
  keys : ∀ i, i < m → (N i).key.size ≤ maxLen

theorem SlI.keep {w w' : World} {ao : Option Addr} {n cap : Nat} {A : List Int} (h : SlI w ao n cap A) (hb : ∀ ad, ao = some ad → w'.heap[ad.block]? = w.heap[ad.block]?) : SlI w' ao n cap A :=
  ⟨Sl.len h, Sl.le h, Sl.max h, Sl.nil h, fun i u hu => let ⟨b, o, e, c⟩ := Sl.at_ h i u hu; ⟨b, o, e, by rw [World.cell?_of_block (w := w) (a := ⟨b, o + i, none⟩) (hb ⟨b, o, none⟩ e)]; exact c⟩⟩

section
variable {w : World} {base top cb mb m cap sz : Nat} {no : Option Addr} {N : Nat → Nd} {e y room hits misses : Int} {ord : List Nat} {f : ByteArray → Option Int} {R : Nat → List Int}

theorem CSt.below {w' : World} (h : CSt w base top cb mb no m cap N e y room hits misses ord sz f R) (hb : Below top w w') : CSt w' base top cb mb no m cap N e y room hits misses ord sz f R := by
  refine ⟨h.fl.stay (hb.block _ h.bc.2), ?_, h.mp.stay (hb.block _ h.bm.2), h.ch, h.lt, h.cm, h.bc, h.bm, fun i hi => ?_, h.keys⟩
  · rcases h.nd with h' | ⟨nb, h1, h2, h3, h4, h5, h6⟩
    · exact .inl h'
    · exact .inr ⟨nb, h1, h2.stay (hb.block _ h6), h3, h4, h5, h6⟩
  · obtain ⟨h1, h2⟩ := h.rows i hi
    exact ⟨h1.keep fun ad e => hb.block _ (h2 ad e).2.1, h2⟩

theorem CSt.up {top' : Nat} (h : CSt w base top cb mb no m cap N e y room hits misses ord sz f R) (ht : top ≤ top') : CSt w base top' cb mb no m cap N e y room hits misses ord sz f R := by
  refine ⟨h.fl, ?_, h.mp, h.ch, h.lt, h.cm, ⟨h.bc.1, by have := h.bc.2; omega⟩, ⟨h.bm.1, by have := h.bm.2; omega⟩, fun i hi => ?_, h.keys⟩
  · rcases h.nd with h' | ⟨nb, h1, h2, h3, h4, h5, h6⟩
    · exact .inl h'
    · exact .inr ⟨nb, h1, h2, h3, h4, h5, by omega⟩
  · obtain ⟨h1, h2⟩ := h.rows i hi
    exact ⟨h1, fun ad e => ⟨(h2 ad e).1, by have := (h2 ad e).2.1; omega, (h2 ad e).2.2⟩⟩

/-- With a node there is a block of nodes. -/
theorem CSt.cmem (h : CSt w base top cb mb no m cap N e y room hits misses ord sz f R) (hm : 0 < m) : ∃ nb, no = some ⟨nb, 0, none⟩ ∧ CMem w cb nb mb m cap N e y room hits misses ∧ mb ≠ nb ∧ base ≤ nb ∧ nb < top := by
  rcases h.nd with ⟨_, h', _⟩ | ⟨nb, h1, h2, h3, h4, h5, h6⟩
  · omega
  · exact ⟨nb, h1, ⟨by rw [← h1]; exact h.fl, h2, h3⟩, h4, h5, h6⟩

/-- Nodes and ends turn (the blocks cb and nb alone are written); keys and rows stay. -/
theorem CSt.relink {w' : World} {nb : Nat} {N' : Nat → Nd} {e' y' : Int} {ord' : List Nat} (h : CSt w base top cb mb (some ⟨nb, 0, none⟩) m cap N e y room hits misses ord sz f R) (htop : top ≤ w.heap.size) (hmn : mb ≠ nb) (hbn : base ≤ nb ∧ nb < top)
    (hc : CMem w' cb nb mb m cap N' e' y' room hits misses) (hk : Keeps (Two cb nb) w w') (hN : ∀ i, (N' i).held = (N i).held) (hch : Chain ord' N' e' y') (hlt : ∀ i ∈ ord', i < m) :
    CSt w' base top cb mb (some ⟨nb, 0, none⟩) m cap N' e' y' room hits misses ord' sz f R := by
  have hb : ∀ k, k < top → k ≠ cb → k ≠ nb → w'.heap[k]? = w.heap[k]? := fun k hk1 h1 h2 => hk.block k (by omega) (fun h => by rcases h with h | h <;> omega)
  have e1 : ∀ i, (N' i).ro = (N i).ro ∧ (N' i).rn = (N i).rn ∧ (N' i).rc = (N i).rc ∧ (N' i).key = (N i).key := by
    intro i
    have := hN i
    simp only [Nd.held, Prod.mk.injEq] at this
    exact ⟨this.2.1, this.2.2.1, this.2.2.2, this.1⟩
  refine ⟨hc.f, .inr ⟨nb, rfl, hc.n, hc.ne, hmn, hbn.1, hbn.2⟩, h.mp.stay (hb mb h.bm.2 (fun e => h.cm e.symm) hmn), hch, hlt, h.cm, h.bc, h.bm, fun i hi => ?_, fun i hi => ?_⟩
  · obtain ⟨h1, h2⟩ := h.rows i hi
    obtain ⟨a1, a2, a3, a4⟩ := e1 i
    refine ⟨?_, ?_⟩
    · rw [a1, a2, a3]
      exact h1.keep fun ad e => hb _ (h2 ad e).2.1 (fun e' => (h2 ad e).2.2 (.inl e')) (fun e' => (h2 ad e).2.2 (.inr (.inr (by rw [e']))))
    · rw [a1]; exact h2
  · rw [(e1 i).2.2.2]; exact h.keys i hi
end

end Go.Proofs.YtimkkkdabmhedaaGreatDoor

/- Walks: New, Room, Len, Counts; free. -/
namespace Go.Proofs.YtimkkkdabmhedaaGreatDoor
open Go.RowKit
set_option linter.unusedVariables false

def noNd : Nd := ⟨ByteArray.empty, none, 0, 0, 0, 0⟩

set_option maxHeartbeats 1000000 in
theorem new_no (room : Int) (h : room < 0 ∨ 1048576 < room) (w : World) :
    Calls Tryz.prog 49 #[.int .i64 room] w fun en w' => en = .returned (.pointer none) ∧ Below w.heap.size w w' := by
  by_cases h0 : room < 0
  · go_enter Tryz.func49, Tryz.ntmps49
    go_wp2
    go_ret
    exact ⟨rfl, Below.refl _ _⟩
  · have h1 : 1048576 < room := by omega
    go_enter Tryz.func49, Tryz.ntmps49
    go_wp2
    go_ret
    exact ⟨rfl, Below.refl _ _⟩

set_option maxHeartbeats 1000000 in
theorem new_yes (room : Int) (h0 : 0 ≤ room) (h1 : room ≤ 1048576) (w : World) (R : Nat → List Int) :
    Calls Tryz.prog 49 #[.int .i64 room] w fun en w' => ∃ cb mb, en = .returned (.pointer (some ⟨cb, 0, none⟩)) ∧
      CSt w' w.heap.size w'.heap.size cb mb none 0 0 (fun _ => noNd) (-1) (-1) room 0 0 [] 0 (fun _ => none) R ∧ Below w.heap.size w w' := by
  have hmm := @run_makeMap Tryz.prog
  go_enter Tryz.func49, Tryz.ntmps49
  go_wp2
  go_ret
  refine ⟨w.heap.size + 1, w.heap.size, rfl, ?_, (below_alloc w _).alloc (below_alloc w _).size _⟩
  refine ⟨⟨by simp [go_sem], by simp [go_sem], by simp [go_sem], by simp [go_sem], by simp [go_sem], by simp [go_sem], by simp [go_sem], fun o => by simp [go_sem]⟩, .inl ⟨rfl, rfl, rfl⟩, ?_, ⟨by simp, rfl, rfl, fun pre i post h => by simp at h⟩, by simp, by omega, ⟨by omega, by simp⟩, ⟨by omega, by simp; omega⟩, fun i hi => by omega, fun i hi => by omega⟩
  exact (MapSI.new w).stay (Below.heap_alloc _ _ _ (by simp))

section
variable {w : World} {base top cb mb m cap sz : Nat} {no : Option Addr} {N : Nat → Nd} {e y room hits misses : Int} {ord : List Nat} {f : ByteArray → Option Int} {R : Nat → List Int}

end

end Go.Proofs.YtimkkkdabmhedaaGreatDoor

/- Nodes as a row of the cache's own, and back. Plain lemmas. -/
namespace Go.Proofs.YtimkkkdabmhedaaGreatDoor
open Go.RowKit
set_option linter.unusedVariables false

def cellsN (N : Nat → Nd) : Nat → List Value
  | 0 => []
  | m + 1 => cellsN N m ++ ndCells (N m)

theorem cellsN_length (N : Nat → Nd) (m : Nat) : (cellsN N m).length = m * 4 := by
  induction m with
  | zero => rfl
  | succ m ih => simp [cellsN, ih, ndCells]; omega

theorem cellsN_at (N : Nat → Nd) {m i j : Nat} (hi : i < m) (hj : j < 4) : (cellsN N m)[i * 4 + j]? = (ndCells (N i))[j]? := by
  induction m with
  | zero => omega
  | succ m ih =>
    unfold cellsN
    by_cases e : i = m
    · subst e
      rw [List.getElem?_append_right (by rw [cellsN_length]; omega), cellsN_length, show i * 4 + j - i * 4 = j by omega]
    · rw [List.getElem?_append_left (by rw [cellsN_length]; omega)]
      exact ih (by omega)

theorem cellsN_congr {N N' : Nat → Nd} {m : Nat} (h : ∀ i, i < m → N i = N' i) : cellsN N m = cellsN N' m := by
  induction m with
  | zero => rfl
  | succ m ih => unfold cellsN; rw [ih fun i hi => h i (by omega), h m (by omega)]

theorem cellsN_push (N : Nat → Nd) (m : Nat) (x : Nd) : cellsN N m ++ ndCells x = cellsN (upd N m x) (m + 1) := by
  show _ = cellsN (upd N m x) m ++ ndCells (upd N m x m)
  rw [upd_same, cellsN_congr (N := N) (N' := upd N m x) fun i hi => by rw [upd_other _ _ _ _ (by omega)]]

theorem NdsO.row {w : World} {base top cb mb m cap : Nat} {no : Option Addr} {N : Nat → Nd} (h : NdsO w base top cb mb no m cap N) : w.ownsRow base 208 4 (.slice no m cap) m (cellsN N m) := by
  refine ⟨cellsN_length N m, ?_⟩
  rcases h with ⟨rfl, rfl, rfl⟩ | ⟨nb, rfl, h2, h3, h4, h5, h6⟩
  · exact .inl ⟨rfl, rfl⟩
  · obtain ⟨cur, hb, hl, hc⟩ := h2.blk
    refine .inr ⟨nb, cap, cur.toArray, rfl, h5, hb, h2.le, h2.max, by simpa using hl, ?_⟩
    have hle := h2.le
    have hcl := cellsN_length N m
    show cur.take (m * 4) = cellsN N m
    apply List.ext_getElem?
    intro k
    by_cases hk : k < m * 4
    · rw [List.getElem?_take, if_pos hk]
      have e : k = k / 4 * 4 + k % 4 := by omega
      rw [e, hc (k / 4) (by omega) (k % 4) (by omega), cellsN_at N (by omega) (by omega)]
    · rw [List.getElem?_take, if_neg hk, List.getElem?_eq_none (by omega)]

theorem Nds.of_row {w : World} {base g m cap : Nat} {N : Nat → Nd} (h : w.ownsRow base 208 4 (.slice (some ⟨g, 0, none⟩) m cap) m (cellsN N m)) : Nds w g m cap N ∧ base ≤ g := by
  obtain ⟨h1, h2⟩ := h
  rcases h2 with ⟨hv, hn⟩ | ⟨g', cap', cur, hv, hg, hh, hn, hm, hs, ht⟩
  · simp at hv
  · simp at hv
    obtain ⟨rfl, rfl⟩ := hv
    refine ⟨⟨hn, hm, cur.toList, by simpa using hh, by simpa using hs, fun i hi j hj => ?_⟩, hg⟩
    rw [← cellsN_at N hi hj, ← ht, List.getElem?_take, if_pos (by omega)]

theorem Keeps.then {S T : Nat → Prop} {a b c : World} (h : Keeps S a b) (k : Keeps T b c) (hst : ∀ i, i < a.heap.size → T i → S i) : Keeps S a c :=
  ⟨k.os.trans h.os, k.tape.trans h.tape, k.output.trans h.output, Nat.le_trans h.size k.size, fun i hi hs => (k.block i (Nat.lt_of_lt_of_le hi h.size) fun ht => hs (hst i hi ht)).trans (h.block i hi hs)⟩

theorem Keeps.grown {S : Nat → Prop} {a w w' : World} (h : Keeps S a w) {row : Option Nat} (hg : w.grownBy w' row) (hr : ∀ k, row = some k → k < a.heap.size → S k) : Keeps S a w' :=
  h.then (T := fun k => row = some k) ⟨hg.os, hg.tape, hg.output, hg.size, fun i hi hne => hg.block i hi fun e => hne e.symm⟩ fun i hi e => hr i e hi

theorem infoNode : (Tryz.prog.info? 208).map (fun i => (i.zero, i.size, i.bytes)) = some (some (.agg #[.string ByteArray.empty, .slice none 0 0, .int .i64 0, .int .i64 0]), 4, 56) := by kernel_rfl

theorem Chain.congr {ord : List Nat} {N N' : Nat → Nd} {e y : Int} (h : Chain ord N e y) (hN : ∀ i ∈ ord, (N' i).el = (N i).el ∧ (N' i).yo = (N i).yo) : Chain ord N' e y :=
  ⟨h.nd, h.e_, h.y_, fun pre i post hs => by
    obtain ⟨h1, h2⟩ := hN i (by rw [hs]; simp)
    rw [h1, h2]; exact h.at_ pre i post hs⟩

theorem SlI.none (w : World) : SlI w none 0 0 [] := ⟨rfl, Nat.le_refl _, by unfold maxLen; omega, fun _ => rfl, fun i u hu => by simp at hu⟩

theorem NdsO.ne {w : World} {base top cb mb m cap : Nat} {no : Option Addr} {N : Nat → Nd} (h : NdsO w base top cb mb no m cap N) : no ≠ some ⟨cb, 0, Option.none⟩ ∧ no ≠ some ⟨mb, 0, Option.none⟩ := by
  rcases h with ⟨rfl, _⟩ | ⟨nb, rfl, h2, h3, h4, h5, h6⟩
  · exact ⟨by simp, by simp⟩
  · exact ⟨fun e => by injection e with e; injection e with e; exact h3 e.symm, fun e => by injection e with e; injection e with e; exact h4 e.symm⟩

/-- One node more. -/
theorem CSt.push {w w' : World} {base top cb mb m cap sz g cap' : Nat} {no : Option Addr} {N : Nat → Nd} {e y room hits misses : Int} {ord : List Nat} {f : ByteArray → Option Int} {R : Nat → List Int}
    (h : CSt w base top cb mb no m cap N e y room hits misses ord sz f R) (htop : top ≤ w'.heap.size) (hfl : Flds w' cb (.slice (some ⟨g, 0, Option.none⟩) (m + 1) cap') mb e y room hits misses) (hn : Nds w' g (m + 1) cap' (upd N m noNd))
    (hbg : base ≤ g) (hglt : g < w'.heap.size) (hat : no = some ⟨g, 0, Option.none⟩ ∨ top ≤ g) (hblk : ∀ k, k < top → k ≠ cb → no ≠ some ⟨k, 0, Option.none⟩ → w'.heap[k]? = w.heap[k]?) :
    CSt w' base w'.heap.size cb mb (some ⟨g, 0, Option.none⟩) (m + 1) cap' (upd N m noNd) e y room hits misses ord sz f (upd R m []) := by
  obtain ⟨n1, n2⟩ := h.nd.ne
  have hb := h.bc
  have hb2 := h.bm
  have hcg : cb ≠ g := by rintro rfl; rcases hat with e | e; exact n1 e; omega
  have hmg : mb ≠ g := by rintro rfl; rcases hat with e | e; exact n2 e; omega
  refine ⟨hfl, .inr ⟨g, rfl, hn, hcg, hmg, hbg, hglt⟩, h.mp.stay (hblk mb hb2.2 (fun e => h.cm e.symm) n2), h.ch.congr fun i hi => ?_, fun i hi => by have := h.lt i hi; omega, h.cm, ⟨hb.1, by omega⟩, ⟨hb2.1, by omega⟩, fun i hi => ?_, fun i hi => ?_⟩
  · rw [upd_other _ _ _ _ (by have := h.lt i hi; omega)]; exact ⟨rfl, rfl⟩
  · by_cases e : i = m
    · subst e
      rw [upd_same, upd_same]
      exact ⟨SlI.none _, fun ad e => by cases e⟩
    · rw [upd_other _ _ _ _ e, upd_other _ _ _ _ e]
      obtain ⟨h1, h2⟩ := h.rows i (by omega)
      refine ⟨h1.keep fun ad e => hblk _ (h2 ad e).2.1 (fun e' => (h2 ad e).2.2 (.inl e')) (fun e' => (h2 ad e).2.2 (.inr (.inr e'))), fun ad e => ?_⟩
      obtain ⟨a1, a2, a3⟩ := h2 ad e
      refine ⟨a1, by omega, fun hf => ?_⟩
      rcases hf with h3 | h3 | h3
      · exact a3 (.inl h3)
      · exact a3 (.inr (.inl h3))
      · simp at h3
        rcases hat with h4 | h4
        · exact a3 (.inr (.inr (by rw [h4, h3])))
        · omega
  · by_cases e : i = m
    · subst e; rw [upd_same]; simp [noNd]
    · rw [upd_other _ _ _ _ e]; exact h.keys i (by omega)

theorem Keeps.turned {S : Nat → Prop} {a w w' : World} {mb : Nat} (h : Keeps S a w) (ht : w.mapTurned w' mb) (hs : S mb) : Keeps S a w' := by
  obtain ⟨es, clock, es', clock', hb, rfl⟩ := ht
  refine h.then (T := fun k => k = mb) ⟨rfl, rfl, rfl, by simp [ChangeMaps.setBlock], fun k hk hne => ChangeMaps.heap_setBlock_other hb _ hne⟩ (fun k _ e => e ▸ hs)

/-- The map turned, and nothing else that was there. -/
theorem CSt.mapped {w w' : World} {base top cb mb m cap sz sz' : Nat} {no : Option Addr} {N : Nat → Nd} {e y room hits misses : Int} {ord : List Nat} {f f' : ByteArray → Option Int} {R : Nat → List Int}
    (h : CSt w base top cb mb no m cap N e y room hits misses ord sz f R) (htop : top ≤ w.heap.size) (hm : MapSI w' mb sz' f') (hk : ∀ k, k < w.heap.size → k ≠ mb → w'.heap[k]? = w.heap[k]?) : CSt w' base top cb mb no m cap N e y room hits misses ord sz' f' R := by
  refine ⟨h.fl.stay (hk cb (by have := h.bc; omega) h.cm), ?_, hm, h.ch, h.lt, h.cm, h.bc, h.bm, fun i hi => ?_, h.keys⟩
  · rcases h.nd with h' | ⟨nb, h1, h2, h3, h4, h5, h6⟩
    · exact .inl h'
    · exact .inr ⟨nb, h1, h2.stay (hk nb (by omega) (fun e => h4 e.symm)), h3, h4, h5, h6⟩
  · obtain ⟨h1, h2⟩ := h.rows i hi
    exact ⟨h1.keep fun ad e => hk _ (by have := (h2 ad e).2.1; omega) fun e' => (h2 ad e).2.2 (.inr (.inl e')), h2⟩

/-- 'append(c.nodes, node{..})'. -/
theorem wpList_app_node {w : World} {ops : Array Oper} {rest : List Oper} {o : Oper} {a : Act} {Q : Exit → Act → World → Prop} (hgd : o.guard = none) (s x : Operand)
    (ho : o.op = .call { callee := .builtin .append, args := #[s, x], argTypes := #[132, 132] })
    {base top cb mb m cap B : Nat} {no : Option Addr} {N : Nat → Nd} {n : Nd} {t : TypeId} {fr : Nat × Nat} (hs : a.eval s = .slice no m cap) (hnd : NdsO w base top cb mb no m cap N) (hx : a.eval x = .slice (some ⟨B, 0, none⟩) 1 1)
    (hb : w.heap[B]? = some (.cells (ndCells n).toArray t fr)) (hm : m < 1048576) (hbase : base ≤ w.heap.size) (H : Nat) (hH : w.heap.size = H)
    (hK : ∀ g cap' w', Nds w' g (m + 1) cap' (upd N m n) → base ≤ g → Keeps (fun k => no = some ⟨k, 0, none⟩) w w' → (no = some ⟨g, 0, none⟩ ∨ g = H) → g < w'.heap.size → wpList Tryz.prog ops Q rest (a.put o.dst (.slice (some ⟨g, 0, none⟩) (m + 1) cap')) w') :
    wpList Tryz.prog ops Q (o :: rest) a w := by
  obtain ⟨i0, hi0, hz0, hz1, hz2⟩ := info_parts infoNode
  refine wpList_append_lies (P := Tryz.prog) (w := w) hgd s x 132 ho base 208 i0 _ 4 56 Tryz.underlying132 hi0 hz0 hz1 hz2 rfl (by omega) _ m _ hs hnd.row _ 1 1 (ndCells n) hx rfl
    (World.news_of_block hb) (by intro u hu; simp [ndCells] at hu; rcases hu with rfl | rfl | rfl | rfl <;> rfl) (by omega) (by unfold maxLen; omega) (by omega) hbase H hH ?_
  intro g cap' w' hown hgr hat hlt
  rw [cellsN_push] at hown
  obtain ⟨h1, h2⟩ := Nds.of_row hown
  have hown2 : ∀ k, (Value.slice no m cap).ownBlock = some k → no = some ⟨k, 0, none⟩ := by
    intro k hk
    rcases hnd with ⟨rfl, _⟩ | ⟨nb, rfl, _⟩
    · simp [Value.ownBlock] at hk
    · simp [Value.ownBlock] at hk; rw [hk]
  refine hK g cap' w' h1 h2 ((Keeps.refl _ _).grown hgr fun k hk _ => hown2 k hk) ?_ hlt
  rcases hat with h | h
  · exact .inl (hown2 g h)
  · exact .inr h

end Go.Proofs.YtimkkkdabmhedaaGreatDoor

/- Walk: free. -/
namespace Go.Proofs.YtimkkkdabmhedaaGreatDoor
open Go.RowKit
set_option linter.unusedVariables false

section
variable {w : World} {base top cb mb m cap sz : Nat} {no : Option Addr} {N : Nat → Nd} {e y room hits misses : Int} {ord : List Nat} {f : ByteArray → Option Int} {R : Nat → List Int}

set_option maxRecDepth 100000 in
set_option maxHeartbeats 2000000 in
theorem free_new (h : CSt w base w.heap.size cb mb no m cap N e y room hits misses ord sz f R) (hs : (sz : Int) < room) (hm : m < 1048576) :
    Calls Tryz.prog 149 #[.pointer (some ⟨cb, 0, none⟩)] w fun en w' => en = .returned (.int .i64 m) ∧
      ∃ g cap', CSt w' base w'.heap.size cb mb (some ⟨g, 0, none⟩) (m + 1) cap' (upd N m noNd) e y room hits misses ord sz f (upd R m []) ∧ Keeps (Ft cb mb no) w w' ∧ (no = some ⟨g, 0, none⟩ ∨ w.heap.size ≤ g) := by
  obtain ⟨f0, f1, f2, f3, f4, f5, f6, ff⟩ := id h.fl
  have hrun := fun ty => (h.mp.stay (w' := w.drew) rfl).run_len ty
  have hb1 := (below_alloc w (.cells (ndCells noNd).toArray 208)).drew
  have hnd := (h.below hb1).nd
  have hb : (w.alloc (.cells (ndCells noNd).toArray 208)).drew.heap[w.heap.size]? = some (.cells (ndCells noNd).toArray 208 (0, 0)) := heap_alloc_new w _
  have hsz : (w.alloc (.cells (ndCells noNd).toArray 208)).drew.heap.size = w.heap.size + 1 := by simp
  have hbase := h.bc
  have hbase2 : base ≤ (w.alloc (.cells (ndCells noNd).toArray 208)).drew.heap.size := by rw [hsz]; omega
  have hne := h.nd.ne
  have H := Lib.hid h
  clear h
  go_enter Tryz.func149, Tryz.ntmps149
  go_wp2
  go_region
  all_goals go_wp2_with (at_builtin; refine wpList_app_node rfl _ _ rfl rfl hnd rfl hb hm hbase2 (w.heap.size + 1) hsz ?_)
  all_goals
    intro g cap' w' hn hbg hk hat hglt
    have hcg : cb ≠ g := by rintro rfl; rcases hat with e | e; exact hne.1 e; omega
    have hf := H.out.fl.stay ((hk.block cb (Nat.lt_of_lt_of_le hbase.2 hb1.size) hne.1).trans (hb1.block _ hbase.2))
    have g0 := hf.f0
    have gf := hf.ff
    have hk2 := Lib.hid hk
    have hn2 := Lib.hid hn
    have hf2 := Lib.hid hf
    clear hf hk hn f0 f1 f2 f3 f4 f5 f6 ff hrun hb hnd
    go_wp2
    go_ret
    have hblk : ∀ k, k < w.heap.size → k ≠ cb → no ≠ some ⟨k, 0, none⟩ → (w'.setCell ⟨cb, 0, none⟩ (.slice (some ⟨g, 0, none⟩) (m + 1) cap')).heap[k]? = w.heap[k]? := fun k h1 h2 h3 =>
      (heap_set_other h2).trans ((hk2.out.block k (Nat.lt_of_lt_of_le h1 hb1.size) h3).trans (hb1.block _ h1))
    have hsz2 : w.heap.size ≤ w'.heap.size := Nat.le_trans hb1.size hk2.out.size
    have hat2 : no = some ⟨g, 0, none⟩ ∨ w.heap.size ≤ g := by rcases hat with e | e; exact .inl e; exact .inr (by omega)
    refine ⟨rfl, g, cap', ?_, ?_, hat2⟩
    · exact H.out.push (by simpa using hsz2) (hf2.out.set0 _) (hn2.out.stay (heap_set_other hcg.symm)) hbg (by simpa using hglt) hat2 hblk
    · exact (((Keeps.of_below hb1).then hk2.out (fun k _ e => .inr (.inr e))).set (p := ⟨cb, 0, none⟩) (.inl rfl) _)

set_option maxRecDepth 100000 in
set_option maxHeartbeats 2000000 in
theorem free_old {i : Nat} {post : List Nat} (h : CSt w base w.heap.size cb mb no m cap N e y room hits misses (i :: post) sz f R) (hs : room ≤ (sz : Int)) (hfk : (f (N i).key).isSome = true) :
    Calls Tryz.prog 149 #[.pointer (some ⟨cb, 0, none⟩)] w fun en w' => en = .returned (.int .i64 i) ∧
      ∃ N' e' y', CSt w' base w'.heap.size cb mb no m cap N' e' y' room hits misses post (sz - 1) (fun t => if t = (N i).key then none else f t) R ∧ (∀ j, (N' j).held = (N j).held) ∧ Keeps (Ft cb mb no) w w' := by
  have him : i < m := h.lt i (by simp)
  obtain ⟨nb, rfl, hc, hmn, hbn, hbn2⟩ := h.cmem (by omega)
  have hei : e = (i : Int) := h.ch.e_
  subst hei
  obtain ⟨hel, hyo⟩ := h.ch.at_ [] i post rfl
  have hpost : ∀ k ∈ post, k < m := fun k hk => h.lt k (by simp [hk])
  have pel : Pl m (N i).el := by rw [hel]; exact .inl rfl
  have pyo : Pl m (N i).yo := by rw [hyo]; exact hdD_pl hpost
  obtain ⟨f0, f1, f2, f3, f4, f5, f6, ff⟩ := id h.fl
  have hrun := fun ty => (h.mp.stay (w' := w.drew) rfl).run_len ty
  have H := Lib.hid h
  have HC := Lib.hid hc.drew
  have hd : decide ((sz : Int) < room) = false := by simp; omega
  clear h hc
  go_enter Tryz.func149, Tryz.ntmps149
  go_wp2
  go_region
  all_goals go_wp2_with (fail)
  all_goals
    refine (unlink_calls w.drew HC.out i him pel pyo).mono ?_
    rintro en w1 ⟨rfl, hc1, hk1⟩
    have h1 := (H.out.below (w' := w.drew) (Below.refl _ _).drew).relink (Nat.le_refl _) hmn ⟨hbn, hbn2⟩ hc1 hk1 (unlN_held N i) (ord' := post) (Chain.unlink (pre := []) H.out.ch) hpost
    have hkey : (unlN N i i).key = (N i).key := by have := unlN_held N i i; simp only [Nd.held, Prod.mk.injEq] at this; exact this.1
    obtain ⟨c0, c1, c2, c3⟩ := hc1.cells him
    rw [hkey] at c0
    obtain ⟨f0, f1, f2, f3, f4, f5, f6, ff⟩ := id hc1.f
    have hm1 := h1.mp
    have hle := hc1.n.le
    have hmax := hc1.n.max
    unfold maxLen at hmax
    have him2 : (i : Int) < (m : Int) := by omega
    have hkl := H.out.keys i him
    have H1 := Lib.hid h1
    have HK := Lib.hid hk1
    clear h1 hk1 hc1
    go_wp2
    go_still_tail 12, (by kernel_rfl)
    refine wpList_si_del rfl _ _ rfl rfl (hm1.stay rfl) rfl hkl ?_
    intro w2 hm2 hturn
    rw [if_pos hfk] at hm2
    have HK2 : Keeps (fun k => k = mb) w1 w2 := (Keeps.refl _ w1).drew.turned hturn rfl
    go_wp2
    go_ret
    have htop : w.heap.size ≤ w1.heap.size := HK.out.size
    refine ⟨rfl, unlN N i, _, _, (H1.out.mapped htop hm2 fun k h1 h2 => HK2.block k h1 h2).up (Nat.le_trans htop HK2.size), unlN_held N i, ?_⟩
    have hK1 : Keeps (Ft cb mb (some ⟨nb, 0, none⟩)) w w1 := (Keeps.refl _ w).drew.then HK.out fun k _ hk => by
      rcases hk with h | h
      · exact .inl h
      · exact .inr (.inr (by rw [h]))
    exact hK1.then HK2 fun k _ hk => .inr (.inl hk)

end

end Go.Proofs.YtimkkkdabmhedaaGreatDoor

/- Walk: Get. -/
namespace Go.Proofs.YtimkkkdabmhedaaGreatDoor
open Go.RowKit
set_option linter.unusedVariables false

theorem Lib.wrap_add_one {x : Int} (h0 : 0 ≤ x) (h1 : x < 4611686018427387904) : IntKind.i64.wrap (x + 1) = x + 1 := by
  rw [IntKind.wrap_i64]; omega

section
variable {w : World} {base top cb mb m cap sz : Nat} {no : Option Addr} {N : Nat → Nd} {e y room hits misses : Int} {ord : List Nat} {f : ByteArray → Option Int} {R : Nat → List Int}

theorem CSt.cbLt (h : CSt w base top cb mb no m cap N e y room hits misses ord sz f R) (htop : top ≤ w.heap.size) : cb < w.heap.size ∧ mb < w.heap.size := ⟨by have := h.bc; omega, by have := h.bm; omega⟩

/-- Only the cache's own fields turn. -/
theorem CSt.refield {w' : World} {hits' misses' : Int} (h : CSt w base top cb mb no m cap N e y room hits misses ord sz f R) (htop : top ≤ w.heap.size) (hf : Flds w' cb (.slice no m cap) mb e y room hits' misses') (hk : ∀ k, k < w.heap.size → k ≠ cb → w'.heap[k]? = w.heap[k]?) :
    CSt w' base top cb mb no m cap N e y room hits' misses' ord sz f R := by
  refine ⟨hf, ?_, h.mp.stay (hk mb (h.cbLt htop).2 (fun e => h.cm e.symm)), h.ch, h.lt, h.cm, h.bc, h.bm, fun i hi => ?_, h.keys⟩
  · rcases h.nd with h' | ⟨nb, h1, h2, h3, h4, h5, h6⟩
    · exact .inl h'
    · exact .inr ⟨nb, h1, h2.stay (hk nb (by omega) (fun e => h3 e.symm)), h3, h4, h5, h6⟩
  · obtain ⟨h1, h2⟩ := h.rows i hi
    exact ⟨h1.keep fun ad e => hk _ (by have := (h2 ad e).2.1; omega) fun e' => (h2 ad e).2.2 (.inl e'), h2⟩

set_option maxRecDepth 100000 in
set_option maxHeartbeats 2000000 in
theorem get_miss (h : CSt w base top cb mb no m cap N e y room hits misses ord sz f R) (htop : top ≤ w.heap.size) (key : ByteArray) (hkl : key.size ≤ maxLen) (hf : f key = none) (hm0 : 0 ≤ misses) (hm1 : misses < 4611686018427387904) :
    Calls Tryz.prog 118 #[.pointer (some ⟨cb, 0, none⟩), .string key] w fun en w' => en = .returned (.tuple #[.slice none 0 0, .bool false]) ∧
      CSt w' base top cb mb no m cap N e y room hits (misses + 1) ord sz f R ∧ Keeps (Ft cb mb no) w w' := by
  obtain ⟨f0, f1, f2, f3, f4, f5, f6, ff⟩ := id h.fl
  have hmp := h.mp
  have H := Lib.hid h
  have hadd : IntKind.i64.wrap (misses + 1) = misses + 1 := Lib.wrap_add_one hm0 hm1
  clear h
  go_enter Tryz.func118, Tryz.ntmps118
  go_wp2_with (with_reducible show wpList _ _ _ (⟨_, .lookup _ _ _ _, _, _, _, _⟩ :: _) _ _; refine wpList_si_ok rfl _ _ rfl rfl hmp rfl hkl ?_; rw [hf])
  go_ret2
  have H2 := H.out.fl.set6 (misses + 1)
  exact ⟨rfl, H.out.refield htop H2 (fun k h1 h2 => heap_set_other h2), (Keeps.refl _ w).set (p := ⟨cb, 6, none⟩) (.inl rfl) _⟩

set_option maxRecDepth 100000 in
set_option maxHeartbeats 4000000 in
theorem get_hit {pre post : List Nat} {i : Nat} (h : CSt w base top cb mb no m cap N e y room hits misses (pre ++ i :: post) sz f R) (htop : top ≤ w.heap.size) (key : ByteArray) (hkl : key.size ≤ maxLen) (hf : f key = some (i : Int)) (hm0 : 0 ≤ hits) (hm1 : hits < 4611686018427387904)
    (hlim : (R i).length ≤ 1048576) :
    Calls Tryz.prog 118 #[.pointer (some ⟨cb, 0, none⟩), .string key] w fun en w' => ∃ vo vn vc N' e' y', en = .returned (.tuple #[.slice vo vn vc, .bool true]) ∧ Own w' w.heap.size (.slice vo vn vc) (R i) ∧
      CSt w' base top cb mb no m cap N' e' y' room (hits + 1) misses (pre ++ post ++ [i]) sz f R ∧ (∀ j, (N' j).held = (N j).held) ∧ Keeps (Ft cb mb no) w w' := by
  have him : i < m := h.lt i (by simp)
  obtain ⟨nb, rfl, hc, hmn, hbn, hbn2⟩ := h.cmem (by omega)
  obtain ⟨hel, hyo⟩ := h.ch.at_ pre i post rfl
  have hpost : ∀ k ∈ pre ++ post, k < m := fun k hk => h.lt k (by simp at hk ⊢; rcases hk with h | h <;> simp [h])
  have pel : Pl m (N i).el := by rw [hel]; exact lstD_pl fun k hk => hpost k (by simp [hk])
  have pyo : Pl m (N i).yo := by rw [hyo]; exact hdD_pl fun k hk => hpost k (by simp [hk])
  have hni : i ∉ pre ++ post := by
    have := h.ch.nd
    have h2 : (i :: (pre ++ post)).Nodup := (List.perm_middle.nodup_iff).1 this
    exact (List.nodup_cons.1 h2).1
  obtain ⟨f0, f1, f2, f3, f4, f5, f6, ff⟩ := id h.fl
  have hmp := h.mp
  have HC := Lib.hid (h.refield htop (h.fl.set5 (hits + 1)) fun k h1 h2 => heap_set_other h2)
  have hadd : IntKind.i64.wrap (hits + 1) = hits + 1 := Lib.wrap_add_one hm0 hm1
  have hwl : w.heap.size = (w.setCell ⟨cb, 5, none⟩ (.int .i64 (hits + 1))).heap.size := by simp
  clear h hc
  go_enter Tryz.func118, Tryz.ntmps118
  go_wp2_with (with_reducible show wpList _ _ _ (⟨_, .lookup _ _ _ _, _, _, _, _⟩ :: _) _ _; refine wpList_si_ok rfl _ _ rfl rfl hmp rfl hkl ?_; rw [hf])
  obtain ⟨nb', e1, hc, _⟩ := HC.out.cmem (by omega)
  simp at e1
  subst e1
  refine (unlink_calls _ hc i him pel pyo).mono ?_
  rintro en w1 ⟨rfl, hc1, hk1⟩
  have h1 := HC.out.relink (by rw [← hwl]; exact htop) hmn ⟨hbn, hbn2⟩ hc1 hk1 (unlN_held N i) HC.out.ch.unlink hpost
  have ht1 : w.heap.size ≤ w1.heap.size := by rw [hwl]; exact hk1.size
  have hk1' := Lib.hid hk1
  clear hk1 hc f0 f1 f2 f3 f4 f5 f6 ff hmp
  have hN1 := unlN_held N i
  have hy1 := h1.ch.y_
  have py : Pl m (if (N i).yo = -1 then (N i).el else y) := by rw [hy1]; exact lstD_pl hpost
  have hyi : (if (N i).yo = -1 then (N i).el else y) ≠ (i : Int) := by
    rw [hy1]
    rcases nil_or_snoc (pre ++ post) with e | ⟨l', x, e⟩
    · rw [e, lstD_nil]; omega
    · rw [e, lstD_snoc]
      intro e2
      exact hni (by rw [e]; simp; omega)
  generalize unlN N i = N1 at hc1 h1 hN1
  generalize (if (N i).el = -1 then (N i).yo else e) = e1 at hc1 h1
  generalize (if (N i).yo = -1 then (N i).el else y) = y1 at hc1 h1 hy1 py hyi
  go_wp2_with (fail)
  refine (link_calls _ hc1 i him py hyi).mono ?_
  rintro en w2 ⟨rfl, hc2, hk2⟩
  have h2 := h1.relink (by omega) hmn ⟨hbn, hbn2⟩ hc2 hk2 (lnkN_held N1 i y1) (h1.ch.link hni) (fun k hk => by simp at hk; rcases hk with h | h | h; exact hpost k (by simp [h]); exact hpost k (by simp [h]); omega)
  have ht2 : w1.heap.size ≤ w2.heap.size := hk2.size
  have hN2 : ∀ j, (lnkN N1 i y1 j).held = (N j).held := fun j => (lnkN_held N1 i y1 j).trans (hN1 j)
  have hk2' := Lib.hid hk2
  clear hk2 hc1 h1 hy1 py hyi
  generalize lnkN N1 i y1 = N2 at hc2 h2 hN2
  generalize (if y1 = -1 then (i : Int) else e1) = e2 at hc2 h2
  obtain ⟨c0, c1, c2, c3⟩ := hc2.cells him
  obtain ⟨f0, f1, f2, f3, f4, f5, f6, ff⟩ := id hc2.f
  have hle := hc2.n.le
  have hmax := hc2.n.max
  unfold maxLen at hmax
  have him2 : (i : Int) < (m : Int) := by omega
  obtain ⟨hrow, hrow2⟩ := h2.rows i him
  have hlen := Lib.hid hrow.len
  have hc2' := Lib.hid hc2
  have h2' := Lib.hid h2
  clear hc2 h2
  go_wp2_with (fail)
  refine (clone_calls _ hrow (by have := hlen.out; omega)).mono ?_
  rintro en w3 ⟨vo, vc, rfl, hown, hb3⟩
  clear c0 c1 c2 c3 f0 f1 f2 f3 f4 f5 f6 ff
  go_wp2
  go_ret2
  have hww : w.heap.size ≤ w2.heap.size := by omega
  have htt : top ≤ w2.heap.size := by omega
  refine ⟨vo, _, vc, N2, e2, i, rfl, hown.mono hww, h2'.out.below ⟨hb3.os, hb3.tape, hb3.output, hb3.size, fun k hk => hb3.block k (by omega)⟩, hN2, ?_⟩
  have K1 : Keeps (Ft cb mb (some ⟨nb, 0, none⟩)) w w1 := ((Keeps.refl _ w).set (p := ⟨cb, 5, none⟩) (.inl rfl) _).then hk1'.out fun k _ hk => by
    rcases hk with h | h
    · exact .inl h
    · exact .inr (.inr (by rw [h]))
  have K2 : Keeps (Ft cb mb (some ⟨nb, 0, none⟩)) w w2 := K1.then hk2'.out fun k _ hk => by
    rcases hk with h | h
    · exact .inl h
    · exact .inr (.inr (by rw [h]))
  exact K2.trans (Keeps.of_below hb3)
end

end Go.Proofs.YtimkkkdabmhedaaGreatDoor
