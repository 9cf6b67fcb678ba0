/- Walk: Keys. -/
import Derived.Test.YtjfpbhdcbjaahaaPutLib
import Derived.Deep.AppendLies
namespace Go.Proofs.Ytjfpbhdcbjaahaa
open Go.RowKit
set_option linter.unusedVariables false

theorem infoStr : (Try.prog.info? 9).map (fun i => (i.zero, i.size, i.bytes)) = some (some (.string ByteArray.empty), 1, 16) := by kernel_rfl

/-- A row of strings of the call's own. -/
def OwnS (w : World) (base : Nat) (v : Value) (ks : List ByteArray) : Prop := w.ownsRow base 9 1 v ks.length (ks.map .string)

def lenOf : Value → Nat
  | .slice _ n _ => n
  | _ => 0

theorem OwnS.len {w : World} {base : Nat} {vo : Option Addr} {n vc : Nat} {ks : List ByteArray} (h : OwnS w base (.slice vo n vc) ks) : n = ks.length := by
  obtain ⟨_, h2⟩ := h
  rcases h2 with ⟨hv, hn⟩ | ⟨g, cap, cur, hv, _⟩
  · simp at hv; omega
  · simp at hv; omega

theorem OwnS.cell {w : World} {base : Nat} {vo : Option Addr} {n vc : Nat} {ks : List ByteArray} (h : OwnS w base (.slice vo n vc) ks) {i : Nat} (hi : i < n) : n ≤ vc ∧ vc ≤ maxLen ∧ ∃ g, vo = some ⟨g, 0, none⟩ ∧ base ≤ g ∧ g < w.heap.size ∧ w.cell? ⟨g, i, none⟩ = some (.string (ks.getD i ByteArray.empty)) := by
  have hn := h.len
  obtain ⟨h1, h2⟩ := id h
  rcases h2 with ⟨hv, hn⟩ | ⟨g, cap, cur, hv, hg, hh, hle, hm, hs, ht⟩
  · simp at hv; omega
  · simp at hv
    obtain ⟨rfl, hnn, rfl⟩ := hv
    have hlt : g < w.heap.size := by
      rcases Nat.lt_or_ge g w.heap.size with h' | h'
      · exact h'
      · rw [Array.getElem?_eq_none h'] at hh; cases hh
    refine ⟨by omega, hm, g, rfl, hg, hlt, ?_⟩
    have e1 := World.ownsRow.cells h (g := g) rfl i (.string (ks.getD i ByteArray.empty)) (by rw [List.getElem?_map, List.getElem?_eq_getElem (by omega)]; simp [List.getD, List.getElem?_eq_getElem (show i < ks.length by omega)])
    rw [Addr.add_lit, Nat.zero_add] at e1
    exact e1

/-- 'append(out, s)'. -/
theorem wpList_app_str {w : World} {ops : Array Oper} {rest : List Oper} {o : Oper} {a : Act} {Q : Exit → Act → World → Prop} (hgd : o.guard = none) (s x : Operand)
    (ho : o.op = .call { callee := .builtin .append, args := #[s, x], argTypes := #[44, 44] })
    {base B : Nat} {v : Value} {ks : List ByteArray} {k : ByteArray} {t : TypeId} {fr : Nat × Nat} (hs : a.eval s = v) (hown : OwnS w base v ks) (hx : a.eval x = .slice (some ⟨B, 0, none⟩) 1 1)
    (hb : w.heap[B]? = some (.cells #[.string k] t fr)) (hm : ks.length < 1048576) (hbase : base ≤ w.heap.size)
    (hK : ∀ g cap' w', OwnS w' base (.slice (some ⟨g, 0, none⟩) (ks.length + 1) cap') (ks ++ [k]) → Below base w w' → wpList Try.prog ops Q rest (a.put o.dst (.slice (some ⟨g, 0, none⟩) (ks.length + 1) cap')) w') :
    wpList Try.prog ops Q (o :: rest) a w := by
  obtain ⟨i0, hi0, hz0, hz1, hz2⟩ := info_parts infoStr
  refine wpList_append_lies (P := Try.prog) (w := w) hgd s x 44 ho base 9 i0 _ 1 16 Try.underlying44 hi0 hz0 hz1 hz2 rfl (by omega) _ ks.length _ hs hown _ 1 1 [.string k] hx rfl
    (World.news_of_block hb) (by intro u hu; simp at hu; subst hu; rfl) (by omega) (by unfold maxLen; omega) (by omega) hbase w.heap.size rfl ?_
  intro g cap' w' ho' hgr hat hlt
  refine hK g cap' w' ?_ ((Below.refl _ _).grown hgr hbase fun k hk => (World.ownsRow.lt hown k hk).1)
  unfold OwnS
  rw [List.length_append, List.map_append]
  exact ho'

theorem OwnS.below {w w' : World} {base : Nat} {v : Value} {ks : List ByteArray} (h : OwnS w base v ks) (hb : Below w.heap.size w w') : OwnS w' base v ks := by
  obtain ⟨h1, h2⟩ := h
  rcases h2 with h2 | ⟨g, cap, cur, e, hg, hh, r⟩
  · exact ⟨h1, .inl h2⟩
  · have hlt : g < w.heap.size := by
      rcases Nat.lt_or_ge g w.heap.size with h' | h'
      · exact h'
      · rw [Array.getElem?_eq_none h'] at hh; cases hh
    exact ⟨h1, .inr ⟨g, cap, cur, e, hg, (hb.block g hlt).trans hh, r⟩⟩

section
variable {w : World} {base top cb mb m cap sz : Nat} {no : Option Addr} {N : Nat → Nd} {e y room hits misses : Int} {ord : List Nat} {f : ByteArray → Option Int} {R : Nat → List Int}

set_option maxHeartbeats 4000000 in
theorem keys_calls (h : CSt w base top cb mb no m cap N e y room hits misses ord sz f R) (htop : top ≤ w.heap.size) (hord : ord.length ≤ 1048576) :
    Calls Try.prog 18 #[.pointer (some ⟨cb, 0, none⟩)] w fun en w' => ∃ vo n vc, en = .returned (.slice vo n vc) ∧ OwnS w' w.heap.size (.slice vo n vc) (ord.map fun i => (N i).key) ∧ Below w.heap.size w w' := by
  obtain ⟨f0, f1, f2, f3, f4, f5, f6, ff⟩ := id h.fl
  obtain ⟨i0, hi0, hz0, hz1, hz2⟩ := info_parts infoStr
  obtain rfl := h.ch.e_
  have H := Lib.hid h
  clear h
  go_enter Try.func18, Try.ntmps18
  go_wp2
  go_loopw [3, 4] (fun s3 s4 wr => ∃ done rest vo n vc, Hid (ord = done ++ rest) ∧ s3 = .slice vo n vc ∧ s4 = .int .i64 (hdD rest) ∧ Below w.heap.size w wr ∧ OwnS wr w.heap.size (.slice vo n vc) (done.map fun i => (N i).key)) (fun s3 _ _ => ord.length - lenOf s3)
  case atStart => exact ⟨[], ord, none, 0, 0, Lib.hid rfl, rfl, rfl, Below.refl _ _, World.ownsRow_nil _ _ _ _⟩
  case round =>
    obtain ⟨done, rest, vo, n, vc, hsp, rfl, rfl, hb, hown⟩ := hrel
    have hn := hown.len
    simp only [List.length_map] at hn
    cases rest with
    | nil =>
      have e0 : hdD ([] : List Nat) = -1 := rfl
      have hall : (done.map fun i => (N i).key) = ord.map fun i => (N i).key := by rw [hsp.out, List.append_nil]
      rw [hall] at hown
      rw [e0]
      go_wp2
      go_ret
      exact ⟨vo, n, vc, rfl, hown, hb⟩
    | cons i rest =>
      have him : i < m := H.out.lt i (by rw [hsp.out]; simp)
      obtain ⟨nb, rfl, hc, hmn, hbn, hbn2⟩ := H.out.cmem (by omega)
      have hcr := hc.below (w' := wr) ⟨hb.os, hb.tape, hb.output, hb.size, hb.block⟩
      obtain ⟨c0, c1, c2, c3⟩ := hcr.cells him
      obtain ⟨hel, hyo⟩ := H.out.ch.at_ done i rest hsp.out
      rw [hyo] at c3
      have f0r := hcr.f.f0
      have hle := hcr.n.le
      have hmax := hcr.n.max
      unfold maxLen at hmax
      have him2 : (i : Int) < (m : Int) := by omega
      have hlen := Lib.hid (congrArg List.length hsp.out)
      have hown2 : OwnS (wr.alloc (.cells #[.string (N i).key] 9)) w.heap.size (.slice vo n vc) (done.map fun i => (N i).key) := hown.below (below_alloc _ _)
      have hb2 := hb.alloc hb.size (.cells #[.string (N i).key] 9)
      rw [hdD_cons]
      clear f0 f1 f2 f3 f4 f5 f6 ff
      go_wp2_with (at_builtin; refine wpList_app_str rfl _ _ rfl rfl hown2 rfl (heap_alloc_new wr _) (by have := hlen.out; simp at this ⊢; omega) hb2.size ?_)
      intro g cap' w2 hown3 hb3
      have hb4 := hb2.trans hb3
      have hcr2 := hc.below (w' := w2) ⟨hb4.os, hb4.tape, hb4.output, hb4.size, hb4.block⟩
      obtain ⟨c02, c12, c22, c32⟩ := hcr2.cells him
      rw [hyo] at c32
      have f02 := hcr2.f.f0
      go_wp2
      go_roundw
      case rel => exact ⟨done ++ [i], rest, some ⟨g, 0, none⟩, _, cap', Lib.hid (by rw [hsp.out]; simp), rfl, rfl, hb4, by rw [List.map_append]; exact hown3⟩
      case measure => have := hlen.out; simp [lenOf] at this ⊢; omega
end

end Go.Proofs.Ytjfpbhdcbjaahaa
