/- Walk: Get. -/
import Derived.Test.YtjfpbhdcbjaahaaFree
namespace Go.Proofs.Ytjfpbhdcbjaahaa
open Go.RowKit
set_option linter.unusedVariables false

theorem Lib.wrap_add_one {x : Int} (h0 : 0 ≤ x) (h1 : x < 4611686018427387904) : IntKind.i64.wrap (x + 1) = x + 1 := by
  rw [IntKind.wrap_i64]; omega

section
variable {w : World} {base top cb mb m cap sz : Nat} {no : Option Addr} {N : Nat → Nd} {e y room hits misses : Int} {ord : List Nat} {f : ByteArray → Option Int} {R : Nat → List Int}

theorem CSt.cbLt (h : CSt w base top cb mb no m cap N e y room hits misses ord sz f R) (htop : top ≤ w.heap.size) : cb < w.heap.size ∧ mb < w.heap.size := ⟨by have := h.bc; omega, by have := h.bm; omega⟩

/-- Only the cache's own fields turn. -/
theorem CSt.refield {w' : World} {hits' misses' : Int} (h : CSt w base top cb mb no m cap N e y room hits misses ord sz f R) (htop : top ≤ w.heap.size) (hf : Flds w' cb (.slice no m cap) mb e y room hits' misses') (hk : ∀ k, k < w.heap.size → k ≠ cb → w'.heap[k]? = w.heap[k]?) :
    CSt w' base top cb mb no m cap N e y room hits' misses' ord sz f R := by
  refine ⟨hf, ?_, h.mp.stay (hk mb (h.cbLt htop).2 (fun e => h.cm e.symm)), h.ch, h.lt, h.cm, h.bc, h.bm, fun i hi => ?_, h.keys⟩
  · rcases h.nd with h' | ⟨nb, h1, h2, h3, h4, h5, h6⟩
    · exact .inl h'
    · exact .inr ⟨nb, h1, h2.stay (hk nb (by omega) (fun e => h3 e.symm)), h3, h4, h5, h6⟩
  · obtain ⟨h1, h2⟩ := h.rows i hi
    exact ⟨h1.keep fun ad e => hk _ (by have := (h2 ad e).2.1; omega) fun e' => (h2 ad e).2.2 (.inl e'), h2⟩

set_option maxHeartbeats 2000000 in
theorem get_miss (h : CSt w base top cb mb no m cap N e y room hits misses ord sz f R) (htop : top ≤ w.heap.size) (key : ByteArray) (hkl : key.size ≤ maxLen) (hf : f key = none) (hm0 : 0 ≤ misses) (hm1 : misses < 4611686018427387904) :
    Calls Try.prog 10 #[.pointer (some ⟨cb, 0, none⟩), .string key] w fun en w' => en = .returned (.tuple #[.slice none 0 0, .bool false]) ∧
      CSt w' base top cb mb no m cap N e y room hits (misses + 1) ord sz f R ∧ Keeps (Ft cb mb no) w w' := by
  obtain ⟨f0, f1, f2, f3, f4, f5, f6, ff⟩ := id h.fl
  have hmp := h.mp
  have H := Lib.hid h
  have hadd : IntKind.i64.wrap (misses + 1) = misses + 1 := Lib.wrap_add_one hm0 hm1
  clear h
  go_enter Try.func10, Try.ntmps10
  go_wp2_with (with_reducible show wpList _ _ _ (⟨_, .lookup _ _ _ _, _, _, _, _⟩ :: _) _ _; refine wpList_si_ok rfl _ _ rfl rfl hmp rfl hkl ?_; rw [hf])
  go_ret2
  have H2 := H.out.fl.set6 (misses + 1)
  exact ⟨rfl, H.out.refield htop H2 (fun k h1 h2 => heap_set_other h2), (Keeps.refl _ w).set (p := ⟨cb, 6, none⟩) (.inl rfl) _⟩

set_option maxHeartbeats 4000000 in
theorem get_hit {pre post : List Nat} {i : Nat} (h : CSt w base top cb mb no m cap N e y room hits misses (pre ++ i :: post) sz f R) (htop : top ≤ w.heap.size) (key : ByteArray) (hkl : key.size ≤ maxLen) (hf : f key = some (i : Int)) (hm0 : 0 ≤ hits) (hm1 : hits < 4611686018427387904)
    (hlim : (R i).length ≤ 1048576) :
    Calls Try.prog 10 #[.pointer (some ⟨cb, 0, none⟩), .string key] w fun en w' => ∃ vo vn vc N' e' y', en = .returned (.tuple #[.slice vo vn vc, .bool true]) ∧ Own w' w.heap.size (.slice vo vn vc) (R i) ∧
      CSt w' base top cb mb no m cap N' e' y' room (hits + 1) misses (pre ++ post ++ [i]) sz f R ∧ (∀ j, (N' j).held = (N j).held) ∧ Keeps (Ft cb mb no) w w' := by
  have him : i < m := h.lt i (by simp)
  obtain ⟨nb, rfl, hc, hmn, hbn, hbn2⟩ := h.cmem (by omega)
  obtain ⟨hel, hyo⟩ := h.ch.at_ pre i post rfl
  have hpost : ∀ k ∈ pre ++ post, k < m := fun k hk => h.lt k (by simp at hk ⊢; rcases hk with h | h <;> simp [h])
  have pel : Pl m (N i).el := by rw [hel]; exact lstD_pl fun k hk => hpost k (by simp [hk])
  have pyo : Pl m (N i).yo := by rw [hyo]; exact hdD_pl fun k hk => hpost k (by simp [hk])
  have hni : i ∉ pre ++ post := by
    have := h.ch.nd
    have h2 : (i :: (pre ++ post)).Nodup := (List.perm_middle.nodup_iff).1 this
    exact (List.nodup_cons.1 h2).1
  obtain ⟨f0, f1, f2, f3, f4, f5, f6, ff⟩ := id h.fl
  have hmp := h.mp
  have HC := Lib.hid (h.refield htop (h.fl.set5 (hits + 1)) fun k h1 h2 => heap_set_other h2)
  have hadd : IntKind.i64.wrap (hits + 1) = hits + 1 := Lib.wrap_add_one hm0 hm1
  have hwl : w.heap.size = (w.setCell ⟨cb, 5, none⟩ (.int .i64 (hits + 1))).heap.size := by simp
  clear h hc
  go_enter Try.func10, Try.ntmps10
  go_wp2_with (with_reducible show wpList _ _ _ (⟨_, .lookup _ _ _ _, _, _, _, _⟩ :: _) _ _; refine wpList_si_ok rfl _ _ rfl rfl hmp rfl hkl ?_; rw [hf])
  obtain ⟨nb', e1, hc, _⟩ := HC.out.cmem (by omega)
  simp at e1
  subst e1
  refine (unlink_calls _ hc i him pel pyo).mono ?_
  rintro en w1 ⟨rfl, hc1, hk1⟩
  have h1 := HC.out.relink (by rw [← hwl]; exact htop) hmn ⟨hbn, hbn2⟩ hc1 hk1 (unlN_held N i) HC.out.ch.unlink hpost
  have ht1 : w.heap.size ≤ w1.heap.size := by rw [hwl]; exact hk1.size
  have hk1' := Lib.hid hk1
  clear hk1 hc f0 f1 f2 f3 f4 f5 f6 ff hmp
  have hN1 := unlN_held N i
  have hy1 := h1.ch.y_
  have py : Pl m (if (N i).yo = -1 then (N i).el else y) := by rw [hy1]; exact lstD_pl hpost
  have hyi : (if (N i).yo = -1 then (N i).el else y) ≠ (i : Int) := by
    rw [hy1]
    rcases nil_or_snoc (pre ++ post) with e | ⟨l', x, e⟩
    · rw [e, lstD_nil]; omega
    · rw [e, lstD_snoc]
      intro e2
      exact hni (by rw [e]; simp; omega)
  generalize unlN N i = N1 at hc1 h1 hN1
  generalize (if (N i).el = -1 then (N i).yo else e) = e1 at hc1 h1
  generalize (if (N i).yo = -1 then (N i).el else y) = y1 at hc1 h1 hy1 py hyi
  go_wp2_with (fail)
  refine (link_calls _ hc1 i him py hyi).mono ?_
  rintro en w2 ⟨rfl, hc2, hk2⟩
  have h2 := h1.relink (by omega) hmn ⟨hbn, hbn2⟩ hc2 hk2 (lnkN_held N1 i y1) (h1.ch.link hni) (fun k hk => by simp at hk; rcases hk with h | h | h; exact hpost k (by simp [h]); exact hpost k (by simp [h]); omega)
  have ht2 : w1.heap.size ≤ w2.heap.size := hk2.size
  have hN2 : ∀ j, (lnkN N1 i y1 j).held = (N j).held := fun j => (lnkN_held N1 i y1 j).trans (hN1 j)
  have hk2' := Lib.hid hk2
  clear hk2 hc1 h1 hy1 py hyi
  generalize lnkN N1 i y1 = N2 at hc2 h2 hN2
  generalize (if y1 = -1 then (i : Int) else e1) = e2 at hc2 h2
  obtain ⟨c0, c1, c2, c3⟩ := hc2.cells him
  obtain ⟨f0, f1, f2, f3, f4, f5, f6, ff⟩ := id hc2.f
  have hle := hc2.n.le
  have hmax := hc2.n.max
  unfold maxLen at hmax
  have him2 : (i : Int) < (m : Int) := by omega
  obtain ⟨hrow, hrow2⟩ := h2.rows i him
  have hlen := Lib.hid hrow.len
  have hc2' := Lib.hid hc2
  have h2' := Lib.hid h2
  clear hc2 h2
  go_wp2_with (fail)
  refine (clone_calls _ hrow (by have := hlen.out; omega)).mono ?_
  rintro en w3 ⟨vo, vc, rfl, hown, hb3⟩
  clear c0 c1 c2 c3 f0 f1 f2 f3 f4 f5 f6 ff
  go_wp2
  go_ret2
  have hww : w.heap.size ≤ w2.heap.size := by omega
  have htt : top ≤ w2.heap.size := by omega
  refine ⟨vo, _, vc, N2, e2, i, rfl, hown.mono hww, h2'.out.below ⟨hb3.os, hb3.tape, hb3.output, hb3.size, fun k hk => hb3.block k (by omega)⟩, hN2, ?_⟩
  have K1 : Keeps (Ft cb mb (some ⟨nb, 0, none⟩)) w w1 := ((Keeps.refl _ w).set (p := ⟨cb, 5, none⟩) (.inl rfl) _).then hk1'.out fun k _ hk => by
    rcases hk with h | h
    · exact .inl h
    · exact .inr (.inr (by rw [h]))
  have K2 : Keeps (Ft cb mb (some ⟨nb, 0, none⟩)) w w2 := K1.then hk2'.out fun k _ hk => by
    rcases hk with h | h
    · exact .inl h
    · exact .inr (.inr (by rw [h]))
  exact K2.trans (Keeps.of_below hb3)
end

end Go.Proofs.Ytjfpbhdcbjaahaa
