/- Walks: slices.Clone of specials; vocab.whole. -/
import Derived.Test.YteoncpkfinheoaaMay
import Derived.Test.YteoncpkfinheoaaSort3
import Derived.Laws.ResultCell
namespace Go.Proofs.Yteoncpkfinheoaa
open Go.RowKit
set_option linter.unusedVariables false

theorem infoSp : (Try.prog.info? 48).map (fun i => (i.zero.map (·.cells.size), i.size, i.bytes)) = some (some 2, 2, 24) := by kernel_rfl
theorem infoMg : (Try.prog.info? 51).map (fun i => (i.zero.map (·.cells.size), i.size, i.bytes)) = some (some 4, 4, 32) := by kernel_rfl
theorem info_row {t : TypeId} {k m b : Nat} (h : (Try.prog.info? t).map (fun i => (i.zero.map (·.cells.size), i.size, i.bytes)) = some (some k, m, b)) : ∃ i z, Try.prog.info? t = some i ∧ i.zero = some z ∧ i.size = m ∧ i.bytes = b ∧ z.cells.size = k := by
  cases hi : Try.prog.info? t with
  | none => rw [hi] at h; cases h
  | some i =>
    rw [hi] at h
    simp only [Option.map_some, Option.some.injEq, Prod.mk.injEq] at h
    obtain ⟨h1, h2, h3⟩ := h
    cases hz : i.zero with
    | none => rw [hz] at h1; cases h1
    | some z => rw [hz] at h1; exact ⟨i, z, rfl, hz, h2, h3, by simpa using h1⟩

theorem one_sp (x : Sp) : ∀ u ∈ x.enc, u.oneCell' = true := Sp.enc_one x

set_option maxHeartbeats 400000 in
theorem cloneS_nil (c : Nat) (w : World) :
    Calls Try.prog 25 #[.slice none 0 c] w fun e w' => ∃ v, e = .returned v ∧ OwnF Sp.enc 2 48 w' w.heap.size v [] ∧ Below w.heap.size w w' := by
  have hsn := fun w => Lib.run_eql_slice_nil (P := Try.prog) w 23 48 none 0 c 0 0 Try.underlying23
  go_enter Try.func25, Try.ntmps25
  go_wp2
  go_ret
  exact ⟨_, rfl, OwnF.nil _ _, Below.refl _ _⟩

set_option maxHeartbeats 400000 in
theorem cloneS_some {S : List Sp} {ad : Addr} {n c : Nat} (w : World) (hS : SlF 2 w (some ad) n c (flat Sp.enc S)) (hn : n ≤ 1048576) :
    Calls Try.prog 25 #[.slice (some ad) n c] w fun e w' => ∃ v, e = .returned v ∧ OwnF Sp.enc 2 48 w' w.heap.size v S ∧ Below w.heap.size w w' := by
  obtain ⟨i0, z0, hi, hz0, hz1, hz2, hz3⟩ := info_row infoSp
  have hsn := fun w => Lib.run_eql_slice_nil (P := Try.prog) w 23 48 (some ad) n c 0 0 Try.underlying23
  have hown : OwnF Sp.enc 2 48 (w.alloc (.cells #[] 48)) w.heap.size (.slice (some ⟨w.heap.size, 0, .none⟩) 0 0) [] := OwnF.made0 w
  have hA2 := hS.alloc (.cells #[] 48)
  go_enter Try.func25, Try.ntmps25
  go_wp2_with (at_builtin; refine wpList_flat_app rfl _ _ 23 rfl i0 z0 24 Try.underlying23 hi hz0 hz1 hz2 hz3 Sp.enc_len (by omega) one_sp rfl hown rfl hA2 (by unfold maxLen; simp; omega) (by simp; omega) (by simp) ?_)
  intro v' w' ho hg hb
  go_wp2
  go_ret
  exact ⟨_, rfl, by simpa using ho, (below_alloc w _).trans hb⟩

theorem cloneS_calls {S : List Sp} {ao : Option Addr} {n c : Nat} (w : World) (hS : SlF 2 w ao n c (flat Sp.enc S)) (hn : n ≤ 1048576) :
    Calls Try.prog 25 #[.slice ao n c] w fun e w' => ∃ v, e = .returned v ∧ OwnF Sp.enc 2 48 w' w.heap.size v S ∧ Below w.heap.size w w' := by
  cases ao with
  | some ad => exact cloneS_some w hS hn
  | none =>
    have hc := hS.nil rfl
    have h0 : n = 0 := by have := hS.le; omega
    subst h0
    have : S = [] := List.eq_nil_of_length_eq_zero (hS.count Sp.enc_len (by omega))
    subst this
    exact cloneS_nil c w

theorem ownF_slice {α : Type} {enc : α → List Value} {s : Nat} {t : TypeId} {w : World} {base n cap : Nat} {ao : Option Addr} {L : List α} (h : OwnF enc s t w base (.slice ao n cap) L) : SlF s w ao n cap (flat enc L) := by
  obtain ⟨a, c, e, hs⟩ := h.sl
  simp only [Value.slice.injEq] at e
  obtain ⟨rfl, h1, rfl⟩ := e
  rw [h1]; exact hs
theorem ownF_ltg {α : Type} {enc : α → List Value} {s : Nat} {t : TypeId} {w : World} {base : Nat} {v : Value} {L : List α} (h : OwnF enc s t w base v L) : ∀ k, v.ownBlock = some k → base ≤ k ∧ k < w.heap.size := World.ownsRow.lt h

/-- The cells of a vocabulary's box. -/
theorem boxf {w : World} {g : Nat} {x y z : Value} {t : TypeId} (h : w.heap[g]? = some (.cells #[x, y, z] t)) : (∀ o, w.frozen? ⟨g, o, none⟩ = false) := by
  intro o
  simp [World.frozen?, h]

theorem heap_set3 (w : World) (g : Nat) (x y z : Value) {q : Nat} (h : q ≠ g) : (((w.setCell ⟨g, 0, none⟩ x).setCell ⟨g, 1, none⟩ y).setCell ⟨g, 2, none⟩ z).heap[q]? = w.heap[q]? := by
  simp [World.setCell, Array.getElem?_modify, Ne.symm h]

def noVd : Vd := ⟨none, 0, 0, none, 0, 0, none, 0, 0⟩
def WholePost (T : List ByteArray) (M : List Mg) (S : List Sp) (base g : Nat) (w : World) (e : Ending) (w' : World) : Prop :=
  ((May ⟨T, sortMg M, sortSp S⟩ ∧ ∃ d : Vd, e = .returned (.tuple #[d.val, .int .i64 0]) ∧ ∀ w'', (∀ q, q ≠ g → w''.heap[q]? = w'.heap[q]?) → VocR w'' d ⟨T, sortMg M, sortSp S⟩) ∨ (¬ May ⟨T, sortMg M, sortSp S⟩ ∧ e = .returned (.tuple #[noVd.val, .int .i64 2]))) ∧ Below base w w'

set_option maxHeartbeats 2000000 in
theorem whole_calls {T : List ByteArray} {M : List Mg} {S : List Sp} {ta so : Option Addr} {tn tc sn sc base g : Nat} {mv : Value} (w : World) (hb : base ≤ w.heap.size) (hg : g < base)
    (hT : ∀ w', (∀ q, q < base → q ≠ g → w'.heap[q]? = w.heap[q]?) → SlS w' ta tn tc T) (hM : OwnF Mg.enc 4 51 w base mv M) (hS : SlF 2 w so sn sc (flat Sp.enc S))
    (hsz : ∀ s ∈ T, s.size ≤ maxLen) (hml : M.length < 4611686018427387904) (hss : Sized S) (hsn : sn ≤ 20) :
    Calls Try.prog 17 #[.slice ta tn tc, mv, .slice so sn sc] w (WholePost T M S base g w) := by
  have hSl := hS.count Sp.enc_len (by omega)
  obtain ⟨mo, mc, rfl, _⟩ := hM.sl
  obtain ⟨mn, hmn⟩ : ∃ mn, M.length = mn := ⟨_, rfl⟩
  rw [hmn] at hM hml ⊢
  obtain ⟨w0, hw0⟩ : ∃ w0, w.alloc (.cells #[.slice none 0 0, .slice none 0 0, .slice none 0 0] 31) = w0 := ⟨_, rfl⟩
  have hb0 : Below w.heap.size w w0 := hw0 ▸ below_alloc w _
  have hx0 : w0.heap[w.heap.size]? = some (.cells #[.slice none 0 0, .slice none 0 0, .slice none 0 0] 31) := by rw [← hw0]; exact heap_alloc_new w _
  have hs0 : w.heap.size < w0.heap.size := by rw [← hw0]; simp
  have hclone := cloneS_calls w0 (hS.below hb0) (by omega)
  have HB := Lib.hid hb
  have HT := Lib.hid hT
  have HM := Lib.hid hM
  have HX0 := Lib.hid hx0
  have HB0 := Lib.hid hb0
  have HW0 := Lib.hid hw0
  have HSZ := Lib.hid hsz
  have HSS := Lib.hid hss
  have HSL := Lib.hid hSl
  have HML := Lib.hid hml
  have HMN := Lib.hid hmn
  clear hb hT hM hb0 hx0 hw0 hsz hss hSl hS hml hmn
  go_enter Try.func17, Try.ntmps17
  go_wp2_with (fail)
  rw [HW0.out]
  refine hclone.mono ?_
  rintro e w1 ⟨v1, rfl, ho1, hb1⟩
  obtain ⟨oo, oc, rfl, _⟩ := ho1.sl
  obtain ⟨on, hon⟩ : ∃ on, S.length = on := ⟨_, rfl⟩
  rw [hon] at ho1 ⊢
  have HON := Lib.hid hon
  have HO1 := Lib.hid ho1
  have HB1 := Lib.hid hb1
  clear ho1 hb1 hclone hon
  go_wp2_with (fail)
  refine (sortS_calls HO1.out HB1.out.size (by rw [HSL.out]; exact hsn)).mono ?_
  rintro e w2 ⟨rfl, S', hp, hs, ho2, hb2⟩
  have HO2 := Lib.hid ho2
  have HB2 := Lib.hid (HB1.out.trans hb2)
  have HPS := Lib.hid (And.intro hp hs)
  clear ho2 hb2 hp hs
  have HBW := Lib.hid (HB0.out.trans (HB2.out.mono HB0.out.size))
  go_wp2_with (fail)
  refine (sortM_calls (HM.out.below HBW.out) (Nat.le_trans HB.out HBW.out.size) (by rw [HMN.out]; exact HML.out)).mono ?_
  rintro e w3 ⟨rfl, M', hp, hs, ho3, hb3, hq3⟩
  have HO3 := Lib.hid ho3
  have HB3 := Lib.hid ((HBW.out.mono HB.out).trans hb3)
  have HPM := Lib.hid (And.intro hp hs)
  have HQ3 := Lib.hid hq3
  clear ho3 hb3 hp hs hq3
  go_wp2_with (fail)
  have hb4 : Below base w (w3.alloc (.cells #[.slice ta tn tc, .slice mo mn mc, .slice oo on oc] 31)) := HB3.out.alloc (Nat.le_trans HB.out HB3.out.size) _
  have HMO : Hid (∀ k, (Value.slice mo mn mc).ownBlock = some k → k < w.heap.size) := Lib.hid (fun k hk => (ownF_ltg HM.out k hk).2)
  have HS3 : Hid (OwnF Sp.enc 2 48 w3 w0.heap.size (.slice oo on oc) S') := Lib.hid (own_stay HO2.out (fun q hq => HQ3.out q (ownF_ltg HO2.out q hq).2 (fun e => by
    have h1 := HMO.out q e
    have h2 := (ownF_ltg HO2.out q hq).1
    omega)))
  have HV4 : Hid (VocR (w3.alloc (.cells #[.slice ta tn tc, .slice mo mn mc, .slice oo on oc] 31)) ⟨ta, tn, tc, mo, mn, mc, oo, on, oc⟩ ⟨T, M', S'⟩) := Lib.hid ⟨HT.out _ (fun q h _ => hb4.block q h), (ownF_slice HO3.out).alloc _, (ownF_slice HS3.out).alloc _⟩
  have HOK : Hid (VOk ⟨T, M', S'⟩) := Lib.hid ⟨HSZ.out, fun x hx => HSS.out x (HPS.out.1.mem_iff.1 hx), by
    have := HPS.out.1.length_eq
    have := HSL.out
    show S'.length ≤ _
    omega⟩
  have HX3 : Hid (w3.heap[w.heap.size]? = some (.cells #[.slice none 0 0, .slice none 0 0, .slice none 0 0] 31)) := Lib.hid (by
    rw [HQ3.out w.heap.size (Nat.lt_of_lt_of_le hs0 HB2.out.size) (fun e => by have := HMO.out _ e; omega), HB2.out.block w.heap.size hs0]
    exact HX0.out)
  have hs3 : w.heap.size < w3.heap.size := (Array.getElem?_eq_some_iff.1 HX3.out).1
  have HB4 := Lib.hid hb4
  clear hb4
  refine (may_calls (V := ⟨T, M', S'⟩) (dd := ⟨ta, tn, tc, mo, mn, mc, oo, on, oc⟩) _ HV4.out HOK.out).mono ?_
  rintro e w5 ⟨⟨b, rfl, hi⟩, hb5⟩
  have HI := Lib.hid hi
  have HB5 := Lib.hid hb5
  clear hi
  have hx5 : w5.heap[w.heap.size]? = some (.cells #[.slice none 0 0, .slice none 0 0, .slice none 0 0] 31) := by
    rw [hb5.block w.heap.size (by simp; omega), (below_alloc w3 _).block w.heap.size hs3]
    exact HX3.out
  have hx6 : w5.heap[w3.heap.size]? = some (.cells #[.slice ta tn tc, .slice mo mn mc, .slice oo on oc] 31) := by
    rw [hb5.block w3.heap.size (by simp)]
    exact heap_alloc_new w3 _
  obtain ⟨c0, c1, c2⟩ := box3v hx5
  obtain ⟨d0, d1, d2⟩ := box3v hx6
  have f0 := boxf hx5
  have hs5 : w.heap.size < w5.heap.size := (Array.getElem?_eq_some_iff.1 hx5).1
  have hs6 : w3.heap.size < w5.heap.size := (Array.getElem?_eq_some_iff.1 hx6).1
  have hbb : base ≤ w.heap.size := HB.out
  have HB6 : Hid (Below base w w5) := Lib.hid (HB4.out.trans (HB5.out.mono (Nat.le_trans HB.out HB4.out.size)))
  have HO3' : Hid (OwnF Mg.enc 4 51 w5 base (.slice mo mn mc) M') := Lib.hid (HO3.out.below ((below_alloc w3 _).trans (HB5.out.mono (by simp))))
  have HS5 : Hid (OwnF Sp.enc 2 48 w5 w0.heap.size (.slice oo on oc) S') := Lib.hid (HS3.out.below ((below_alloc w3 _).trans (HB5.out.mono (by simp))))
  clear hx5 hx6 hb5
  cases b with
  | false =>
    have HF : Hid (¬ May ⟨T, sortMg M, sortSp S⟩) := Lib.hid (fun h => by
      have := HI.out.2 ((sorted_may HPM.out.1 HPM.out.2 HPS.out.1 HPS.out.2).1.2 h)
      cases this)
    go_wp2_with (fail)
    refine bodyPost_ret (v := .tuple #[noVd.val, .int .i64 2]) ?_ rfl ⟨.inr ⟨HF.out, rfl⟩, ?_⟩
    · simp [results, Try.results17, go_sem, c0, c1, c2, noVd]
    · exact ((HB6.out.setCell hbb _).setCell hbb _).setCell hbb _
  | true =>
    have HF : Hid (May ⟨T, sortMg M, sortSp S⟩ ∧ M' = sortMg M ∧ S' = sortSp S) := Lib.hid (by
      have h := HI.out.1 rfl
      exact ⟨(sorted_may HPM.out.1 HPM.out.2 HPS.out.1 HPS.out.2).1.1 h, (sorted_may HPM.out.1 HPM.out.2 HPS.out.1 HPS.out.2).2 h⟩)
    go_wp2_with (fail)
    have hbW : Below base w (((w5.setCell ⟨w.heap.size, 0, none⟩ (.slice ta tn tc)).setCell ⟨w.heap.size, 1, none⟩ (.slice mo mn mc)).setCell ⟨w.heap.size, 2, none⟩ (.slice oo on oc)) := ((HB6.out.setCell hbb _).setCell hbb _).setCell hbb _
    refine bodyPost_ret (v := .tuple #[Vd.val ⟨ta, tn, tc, mo, mn, mc, oo, on, oc⟩, .int .i64 0]) ?_ rfl ⟨.inl ⟨HF.out.1, ⟨ta, tn, tc, mo, mn, mc, oo, on, oc⟩, rfl, ?_⟩, hbW⟩
    · simp [results, Try.results17, go_sem, c0, c1, c2]
    · rw [← HF.out.2.1, ← HF.out.2.2]
      intro w'' hq
      refine ⟨HT.out _ (fun q h1 h2 => (hq q h2).trans (hbW.block q h1)), ownF_slice (own_stay HO3'.out fun q h => (hq q ?_).trans (heap_set3 _ _ _ _ _ ?_)), ownF_slice (own_stay HS5.out fun q h => (hq q ?_).trans (heap_set3 _ _ _ _ _ ?_))⟩
      · have := (ownF_ltg HO3'.out q h).1
        omega
      · have := HMO.out q h
        omega
      · have h1 := (ownF_ltg HS5.out q h).1
        have h2 := HB.out
        omega
      · have := (ownF_ltg HS5.out q h).1
        omega

end Go.Proofs.Yteoncpkfinheoaa
