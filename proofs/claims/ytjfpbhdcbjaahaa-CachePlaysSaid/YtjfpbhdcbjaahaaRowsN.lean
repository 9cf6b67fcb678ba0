/- Nodes as a row of the cache's own, and back. Plain lemmas. -/
import Derived.Test.YtjfpbhdcbjaahaaCacheA
import Derived.Deep.AppendLies
namespace Go.Proofs.Ytjfpbhdcbjaahaa
open Go.RowKit
set_option linter.unusedVariables false

def cellsN (N : Nat → Nd) : Nat → List Value
  | 0 => []
  | m + 1 => cellsN N m ++ ndCells (N m)

theorem cellsN_length (N : Nat → Nd) (m : Nat) : (cellsN N m).length = m * 4 := by
  induction m with
  | zero => rfl
  | succ m ih => simp [cellsN, ih, ndCells]; omega

theorem cellsN_at (N : Nat → Nd) {m i j : Nat} (hi : i < m) (hj : j < 4) : (cellsN N m)[i * 4 + j]? = (ndCells (N i))[j]? := by
  induction m with
  | zero => omega
  | succ m ih =>
    unfold cellsN
    by_cases e : i = m
    · subst e
      rw [List.getElem?_append_right (by rw [cellsN_length]; omega), cellsN_length, show i * 4 + j - i * 4 = j by omega]
    · rw [List.getElem?_append_left (by rw [cellsN_length]; omega)]
      exact ih (by omega)

theorem cellsN_congr {N N' : Nat → Nd} {m : Nat} (h : ∀ i, i < m → N i = N' i) : cellsN N m = cellsN N' m := by
  induction m with
  | zero => rfl
  | succ m ih => unfold cellsN; rw [ih fun i hi => h i (by omega), h m (by omega)]

theorem cellsN_push (N : Nat → Nd) (m : Nat) (x : Nd) : cellsN N m ++ ndCells x = cellsN (upd N m x) (m + 1) := by
  show _ = cellsN (upd N m x) m ++ ndCells (upd N m x m)
  rw [upd_same, cellsN_congr (N := N) (N' := upd N m x) fun i hi => by rw [upd_other _ _ _ _ (by omega)]]

theorem NdsO.row {w : World} {base top cb mb m cap : Nat} {no : Option Addr} {N : Nat → Nd} (h : NdsO w base top cb mb no m cap N) : w.ownsRow base 58 4 (.slice no m cap) m (cellsN N m) := by
  refine ⟨cellsN_length N m, ?_⟩
  rcases h with ⟨rfl, rfl, rfl⟩ | ⟨nb, rfl, h2, h3, h4, h5, h6⟩
  · exact .inl ⟨rfl, rfl⟩
  · obtain ⟨cur, hb, hl, hc⟩ := h2.blk
    refine .inr ⟨nb, cap, cur.toArray, rfl, h5, hb, h2.le, h2.max, by simpa using hl, ?_⟩
    have hle := h2.le
    have hcl := cellsN_length N m
    show cur.take (m * 4) = cellsN N m
    apply List.ext_getElem?
    intro k
    by_cases hk : k < m * 4
    · rw [List.getElem?_take, if_pos hk]
      have e : k = k / 4 * 4 + k % 4 := by omega
      rw [e, hc (k / 4) (by omega) (k % 4) (by omega), cellsN_at N (by omega) (by omega)]
    · rw [List.getElem?_take, if_neg hk, List.getElem?_eq_none (by omega)]

theorem Nds.of_row {w : World} {base g m cap : Nat} {N : Nat → Nd} (h : w.ownsRow base 58 4 (.slice (some ⟨g, 0, none⟩) m cap) m (cellsN N m)) : Nds w g m cap N ∧ base ≤ g := by
  obtain ⟨h1, h2⟩ := h
  rcases h2 with ⟨hv, hn⟩ | ⟨g', cap', cur, hv, hg, hh, hn, hm, hs, ht⟩
  · simp at hv
  · simp at hv
    obtain ⟨rfl, rfl⟩ := hv
    refine ⟨⟨hn, hm, cur.toList, by simpa using hh, by simpa using hs, fun i hi j hj => ?_⟩, hg⟩
    rw [← cellsN_at N hi hj, ← ht, List.getElem?_take, if_pos (by omega)]

theorem Keeps.then {S T : Nat → Prop} {a b c : World} (h : Keeps S a b) (k : Keeps T b c) (hst : ∀ i, i < a.heap.size → T i → S i) : Keeps S a c :=
  ⟨k.os.trans h.os, k.tape.trans h.tape, k.output.trans h.output, Nat.le_trans h.size k.size, fun i hi hs => (k.block i (Nat.lt_of_lt_of_le hi h.size) fun ht => hs (hst i hi ht)).trans (h.block i hi hs)⟩

theorem Keeps.grown {S : Nat → Prop} {a w w' : World} (h : Keeps S a w) {row : Option Nat} (hg : w.grownBy w' row) (hr : ∀ k, row = some k → k < a.heap.size → S k) : Keeps S a w' :=
  h.then (T := fun k => row = some k) ⟨hg.os, hg.tape, hg.output, hg.size, fun i hi hne => hg.block i hi fun e => hne e.symm⟩ fun i hi e => hr i e hi

theorem infoNode : (Try.prog.info? 58).map (fun i => (i.zero, i.size, i.bytes)) = some (some (.agg #[.string ByteArray.empty, .slice none 0 0, .int .i64 0, .int .i64 0]), 4, 56) := by kernel_rfl

theorem Chain.congr {ord : List Nat} {N N' : Nat → Nd} {e y : Int} (h : Chain ord N e y) (hN : ∀ i ∈ ord, (N' i).el = (N i).el ∧ (N' i).yo = (N i).yo) : Chain ord N' e y :=
  ⟨h.nd, h.e_, h.y_, fun pre i post hs => by
    obtain ⟨h1, h2⟩ := hN i (by rw [hs]; simp)
    rw [h1, h2]; exact h.at_ pre i post hs⟩

theorem SlI.none (w : World) : SlI w none 0 0 [] := ⟨rfl, Nat.le_refl _, by unfold maxLen; omega, fun _ => rfl, fun i u hu => by simp at hu⟩

theorem NdsO.ne {w : World} {base top cb mb m cap : Nat} {no : Option Addr} {N : Nat → Nd} (h : NdsO w base top cb mb no m cap N) : no ≠ some ⟨cb, 0, Option.none⟩ ∧ no ≠ some ⟨mb, 0, Option.none⟩ := by
  rcases h with ⟨rfl, _⟩ | ⟨nb, rfl, h2, h3, h4, h5, h6⟩
  · exact ⟨by simp, by simp⟩
  · exact ⟨fun e => by injection e with e; injection e with e; exact h3 e.symm, fun e => by injection e with e; injection e with e; exact h4 e.symm⟩

/-- One node more. -/
theorem CSt.push {w w' : World} {base top cb mb m cap sz g cap' : Nat} {no : Option Addr} {N : Nat → Nd} {e y room hits misses : Int} {ord : List Nat} {f : ByteArray → Option Int} {R : Nat → List Int}
    (h : CSt w base top cb mb no m cap N e y room hits misses ord sz f R) (htop : top ≤ w'.heap.size) (hfl : Flds w' cb (.slice (some ⟨g, 0, Option.none⟩) (m + 1) cap') mb e y room hits misses) (hn : Nds w' g (m + 1) cap' (upd N m noNd))
    (hbg : base ≤ g) (hglt : g < w'.heap.size) (hat : no = some ⟨g, 0, Option.none⟩ ∨ top ≤ g) (hblk : ∀ k, k < top → k ≠ cb → no ≠ some ⟨k, 0, Option.none⟩ → w'.heap[k]? = w.heap[k]?) :
    CSt w' base w'.heap.size cb mb (some ⟨g, 0, Option.none⟩) (m + 1) cap' (upd N m noNd) e y room hits misses ord sz f (upd R m []) := by
  obtain ⟨n1, n2⟩ := h.nd.ne
  have hb := h.bc
  have hb2 := h.bm
  have hcg : cb ≠ g := by rintro rfl; rcases hat with e | e; exact n1 e; omega
  have hmg : mb ≠ g := by rintro rfl; rcases hat with e | e; exact n2 e; omega
  refine ⟨hfl, .inr ⟨g, rfl, hn, hcg, hmg, hbg, hglt⟩, h.mp.stay (hblk mb hb2.2 (fun e => h.cm e.symm) n2), h.ch.congr fun i hi => ?_, fun i hi => by have := h.lt i hi; omega, h.cm, ⟨hb.1, by omega⟩, ⟨hb2.1, by omega⟩, fun i hi => ?_, fun i hi => ?_⟩
  · rw [upd_other _ _ _ _ (by have := h.lt i hi; omega)]; exact ⟨rfl, rfl⟩
  · by_cases e : i = m
    · subst e
      rw [upd_same, upd_same]
      exact ⟨SlI.none _, fun ad e => by cases e⟩
    · rw [upd_other _ _ _ _ e, upd_other _ _ _ _ e]
      obtain ⟨h1, h2⟩ := h.rows i (by omega)
      refine ⟨h1.keep fun ad e => hblk _ (h2 ad e).2.1 (fun e' => (h2 ad e).2.2 (.inl e')) (fun e' => (h2 ad e).2.2 (.inr (.inr e'))), fun ad e => ?_⟩
      obtain ⟨a1, a2, a3⟩ := h2 ad e
      refine ⟨a1, by omega, fun hf => ?_⟩
      rcases hf with h3 | h3 | h3
      · exact a3 (.inl h3)
      · exact a3 (.inr (.inl h3))
      · simp at h3
        rcases hat with h4 | h4
        · exact a3 (.inr (.inr (by rw [h4, h3])))
        · omega
  · by_cases e : i = m
    · subst e; rw [upd_same]; simp [noNd]
    · rw [upd_other _ _ _ _ e]; exact h.keys i (by omega)

theorem Keeps.turned {S : Nat → Prop} {a w w' : World} {mb : Nat} (h : Keeps S a w) (ht : w.mapTurned w' mb) (hs : S mb) : Keeps S a w' := by
  obtain ⟨es, clock, es', clock', hb, rfl⟩ := ht
  refine h.then (T := fun k => k = mb) ⟨rfl, rfl, rfl, by simp [ChangeMaps.setBlock], fun k hk hne => ChangeMaps.heap_setBlock_other hb _ hne⟩ (fun k _ e => e ▸ hs)

/-- The map turned, and nothing else that was there. -/
theorem CSt.mapped {w w' : World} {base top cb mb m cap sz sz' : Nat} {no : Option Addr} {N : Nat → Nd} {e y room hits misses : Int} {ord : List Nat} {f f' : ByteArray → Option Int} {R : Nat → List Int}
    (h : CSt w base top cb mb no m cap N e y room hits misses ord sz f R) (htop : top ≤ w.heap.size) (hm : MapSI w' mb sz' f') (hk : ∀ k, k < w.heap.size → k ≠ mb → w'.heap[k]? = w.heap[k]?) : CSt w' base top cb mb no m cap N e y room hits misses ord sz' f' R := by
  refine ⟨h.fl.stay (hk cb (by have := h.bc; omega) h.cm), ?_, hm, h.ch, h.lt, h.cm, h.bc, h.bm, fun i hi => ?_, h.keys⟩
  · rcases h.nd with h' | ⟨nb, h1, h2, h3, h4, h5, h6⟩
    · exact .inl h'
    · exact .inr ⟨nb, h1, h2.stay (hk nb (by omega) (fun e => h4 e.symm)), h3, h4, h5, h6⟩
  · obtain ⟨h1, h2⟩ := h.rows i hi
    exact ⟨h1.keep fun ad e => hk _ (by have := (h2 ad e).2.1; omega) fun e' => (h2 ad e).2.2 (.inr (.inl e')), h2⟩

/-- 'append(c.nodes, node{..})'. -/
theorem wpList_app_node {w : World} {ops : Array Oper} {rest : List Oper} {o : Oper} {a : Act} {Q : Exit → Act → World → Prop} (hgd : o.guard = none) (s x : Operand)
    (ho : o.op = .call { callee := .builtin .append, args := #[s, x], argTypes := #[51, 51] })
    {base top cb mb m cap B : Nat} {no : Option Addr} {N : Nat → Nd} {n : Nd} {t : TypeId} {fr : Nat × Nat} (hs : a.eval s = .slice no m cap) (hnd : NdsO w base top cb mb no m cap N) (hx : a.eval x = .slice (some ⟨B, 0, none⟩) 1 1)
    (hb : w.heap[B]? = some (.cells (ndCells n).toArray t fr)) (hm : m < 1048576) (hbase : base ≤ w.heap.size) (H : Nat) (hH : w.heap.size = H)
    (hK : ∀ g cap' w', Nds w' g (m + 1) cap' (upd N m n) → base ≤ g → Keeps (fun k => no = some ⟨k, 0, none⟩) w w' → (no = some ⟨g, 0, none⟩ ∨ g = H) → g < w'.heap.size → wpList Try.prog ops Q rest (a.put o.dst (.slice (some ⟨g, 0, none⟩) (m + 1) cap')) w') :
    wpList Try.prog ops Q (o :: rest) a w := by
  obtain ⟨i0, hi0, hz0, hz1, hz2⟩ := info_parts infoNode
  refine wpList_append_lies (P := Try.prog) (w := w) hgd s x 51 ho base 58 i0 _ 4 56 Try.underlying51 hi0 hz0 hz1 hz2 rfl (by omega) _ m _ hs hnd.row _ 1 1 (ndCells n) hx rfl
    (World.news_of_block hb) (by intro u hu; simp [ndCells] at hu; rcases hu with rfl | rfl | rfl | rfl <;> rfl) (by omega) (by unfold maxLen; omega) (by omega) hbase H hH ?_
  intro g cap' w' hown hgr hat hlt
  rw [cellsN_push] at hown
  obtain ⟨h1, h2⟩ := Nds.of_row hown
  have hown2 : ∀ k, (Value.slice no m cap).ownBlock = some k → no = some ⟨k, 0, none⟩ := by
    intro k hk
    rcases hnd with ⟨rfl, _⟩ | ⟨nb, rfl, _⟩
    · simp [Value.ownBlock] at hk
    · simp [Value.ownBlock] at hk; rw [hk]
  refine hK g cap' w' h1 h2 ((Keeps.refl _ _).grown hgr fun k hk _ => hown2 k hk) ?_ hlt
  rcases hat with h | h
  · exact .inl (hown2 g h)
  · exact .inr h

end Go.Proofs.Ytjfpbhdcbjaahaa
