/- Walk: free. -/
import Derived.Test.YtjfpbhdcbjaahaaRowsN
namespace Go.Proofs.Ytjfpbhdcbjaahaa
open Go.RowKit
set_option linter.unusedVariables false

section
variable {w : World} {base top cb mb m cap sz : Nat} {no : Option Addr} {N : Nat → Nd} {e y room hits misses : Int} {ord : List Nat} {f : ByteArray → Option Int} {R : Nat → List Int}

set_option maxHeartbeats 2000000 in
theorem free_new (h : CSt w base w.heap.size cb mb no m cap N e y room hits misses ord sz f R) (hs : (sz : Int) < room) (hm : m < 1048576) :
    Calls Try.prog 21 #[.pointer (some ⟨cb, 0, none⟩)] w fun en w' => en = .returned (.int .i64 m) ∧
      ∃ g cap', CSt w' base w'.heap.size cb mb (some ⟨g, 0, none⟩) (m + 1) cap' (upd N m noNd) e y room hits misses ord sz f (upd R m []) ∧ Keeps (Ft cb mb no) w w' ∧ (no = some ⟨g, 0, none⟩ ∨ w.heap.size ≤ g) := by
  obtain ⟨f0, f1, f2, f3, f4, f5, f6, ff⟩ := id h.fl
  have hrun := fun ty => (h.mp.stay (w' := w.drew) rfl).run_len ty
  have hb1 := (below_alloc w (.cells (ndCells noNd).toArray 58)).drew
  have hnd := (h.below hb1).nd
  have hb : (w.alloc (.cells (ndCells noNd).toArray 58)).drew.heap[w.heap.size]? = some (.cells (ndCells noNd).toArray 58 (0, 0)) := heap_alloc_new w _
  have hsz : (w.alloc (.cells (ndCells noNd).toArray 58)).drew.heap.size = w.heap.size + 1 := by simp
  have hbase := h.bc
  have hbase2 : base ≤ (w.alloc (.cells (ndCells noNd).toArray 58)).drew.heap.size := by rw [hsz]; omega
  have hne := h.nd.ne
  have H := Lib.hid h
  clear h
  go_enter Try.func21, Try.ntmps21
  go_wp2
  go_region
  all_goals go_wp2_with (at_builtin; refine wpList_app_node rfl _ _ rfl rfl hnd rfl hb hm hbase2 (w.heap.size + 1) hsz ?_)
  all_goals
    intro g cap' w' hn hbg hk hat hglt
    have hcg : cb ≠ g := by rintro rfl; rcases hat with e | e; exact hne.1 e; omega
    have hf := H.out.fl.stay ((hk.block cb (Nat.lt_of_lt_of_le hbase.2 hb1.size) hne.1).trans (hb1.block _ hbase.2))
    have g0 := hf.f0
    have gf := hf.ff
    have hk2 := Lib.hid hk
    have hn2 := Lib.hid hn
    have hf2 := Lib.hid hf
    clear hf hk hn f0 f1 f2 f3 f4 f5 f6 ff hrun hb hnd
    go_wp2
    go_ret
    have hblk : ∀ k, k < w.heap.size → k ≠ cb → no ≠ some ⟨k, 0, none⟩ → (w'.setCell ⟨cb, 0, none⟩ (.slice (some ⟨g, 0, none⟩) (m + 1) cap')).heap[k]? = w.heap[k]? := fun k h1 h2 h3 =>
      (heap_set_other h2).trans ((hk2.out.block k (Nat.lt_of_lt_of_le h1 hb1.size) h3).trans (hb1.block _ h1))
    have hsz2 : w.heap.size ≤ w'.heap.size := Nat.le_trans hb1.size hk2.out.size
    have hat2 : no = some ⟨g, 0, none⟩ ∨ w.heap.size ≤ g := by rcases hat with e | e; exact .inl e; exact .inr (by omega)
    refine ⟨rfl, g, cap', ?_, ?_, hat2⟩
    · exact H.out.push (by simpa using hsz2) (hf2.out.set0 _) (hn2.out.stay (heap_set_other hcg.symm)) hbg (by simpa using hglt) hat2 hblk
    · exact (((Keeps.of_below hb1).then hk2.out (fun k _ e => .inr (.inr e))).set (p := ⟨cb, 0, none⟩) (.inl rfl) _)

set_option maxHeartbeats 2000000 in
theorem free_old {i : Nat} {post : List Nat} (h : CSt w base w.heap.size cb mb no m cap N e y room hits misses (i :: post) sz f R) (hs : room ≤ (sz : Int)) (hfk : (f (N i).key).isSome = true) :
    Calls Try.prog 21 #[.pointer (some ⟨cb, 0, none⟩)] w fun en w' => en = .returned (.int .i64 i) ∧
      ∃ N' e' y', CSt w' base w'.heap.size cb mb no m cap N' e' y' room hits misses post (sz - 1) (fun t => if t = (N i).key then none else f t) R ∧ (∀ j, (N' j).held = (N j).held) ∧ Keeps (Ft cb mb no) w w' := by
  have him : i < m := h.lt i (by simp)
  obtain ⟨nb, rfl, hc, hmn, hbn, hbn2⟩ := h.cmem (by omega)
  have hei : e = (i : Int) := h.ch.e_
  subst hei
  obtain ⟨hel, hyo⟩ := h.ch.at_ [] i post rfl
  have hpost : ∀ k ∈ post, k < m := fun k hk => h.lt k (by simp [hk])
  have pel : Pl m (N i).el := by rw [hel]; exact .inl rfl
  have pyo : Pl m (N i).yo := by rw [hyo]; exact hdD_pl hpost
  obtain ⟨f0, f1, f2, f3, f4, f5, f6, ff⟩ := id h.fl
  have hrun := fun ty => (h.mp.stay (w' := w.drew) rfl).run_len ty
  have H := Lib.hid h
  have HC := Lib.hid hc.drew
  have hd : decide ((sz : Int) < room) = false := by simp; omega
  clear h hc
  go_enter Try.func21, Try.ntmps21
  go_wp2
  go_region
  all_goals go_wp2_with (fail)
  all_goals
    refine (unlink_calls w.drew HC.out i him pel pyo).mono ?_
    rintro en w1 ⟨rfl, hc1, hk1⟩
    have h1 := (H.out.below (w' := w.drew) (Below.refl _ _).drew).relink (Nat.le_refl _) hmn ⟨hbn, hbn2⟩ hc1 hk1 (unlN_held N i) (ord' := post) (Chain.unlink (pre := []) H.out.ch) hpost
    have hkey : (unlN N i i).key = (N i).key := by have := unlN_held N i i; simp only [Nd.held, Prod.mk.injEq] at this; exact this.1
    obtain ⟨c0, c1, c2, c3⟩ := hc1.cells him
    rw [hkey] at c0
    obtain ⟨f0, f1, f2, f3, f4, f5, f6, ff⟩ := id hc1.f
    have hm1 := h1.mp
    have hle := hc1.n.le
    have hmax := hc1.n.max
    unfold maxLen at hmax
    have him2 : (i : Int) < (m : Int) := by omega
    have hkl := H.out.keys i him
    have H1 := Lib.hid h1
    have HK := Lib.hid hk1
    clear h1 hk1 hc1
    go_wp2
    go_still_tail 12, (by kernel_rfl)
    refine wpList_si_del rfl _ _ rfl rfl (hm1.stay rfl) rfl hkl ?_
    intro w2 hm2 hturn
    rw [if_pos hfk] at hm2
    have HK2 : Keeps (fun k => k = mb) w1 w2 := (Keeps.refl _ w1).drew.turned hturn rfl
    go_wp2
    go_ret
    have htop : w.heap.size ≤ w1.heap.size := HK.out.size
    refine ⟨rfl, unlN N i, _, _, (H1.out.mapped htop hm2 fun k h1 h2 => HK2.block k h1 h2).up (Nat.le_trans htop HK2.size), unlN_held N i, ?_⟩
    have hK1 : Keeps (Ft cb mb (some ⟨nb, 0, none⟩)) w w1 := (Keeps.refl _ w).drew.then HK.out fun k _ hk => by
      rcases hk with h | h
      · exact .inl h
      · exact .inr (.inr (by rw [h]))
    exact hK1.then HK2 fun k _ hk => .inr (.inl hk)

end

end Go.Proofs.Ytjfpbhdcbjaahaa
