/- Walks: the document's cache (Find, Young, Put), and whether there is more than is gone through. -/
import Derived.Test.YtjfpbhdcbjaahaaFlat
import Derived.Test.YtjfpbhdcbjaahaaSame
import Derived.Test.YtjfpbhdcbjaahaaClone
import Derived.Test.YtjfpbhdcbjaahaaMapSI
namespace Go.Proofs.Ytjfpbhdcbjaahaa
open Go.RowKit
set_option linter.unusedVariables false

theorem bytes_of {s t : ByteArray} (h : s.toList = t.toList) : s = t := by
  rw [ByteArray.toList_eq, ByteArray.toList_eq] at h
  have := Array.toList_inj.1 h
  cases s; cases t; simp_all
theorem beqS_yes {s t : ByteArray} (h : s = t) : (s.toList == t.toList) = true := by rw [h]; simp
theorem beqS_no {s t : ByteArray} (h : s ≠ t) : (s.toList == t.toList) = false := beq_eq_false_iff_ne.2 fun e => h (bytes_of e)
theorem bneS_yes {s t : ByteArray} (h : s = t) : (s.toList != t.toList) = false := by rw [h]; simp
theorem bneS_no {s t : ByteArray} (h : s ≠ t) : (s.toList != t.toList) = true := by rw [bne_iff_ne]; exact fun e => h (bytes_of e)

/-- A key with its row, as the reference holds them. -/
structure Er where
  key : ByteArray
  ro : Option Addr
  rn : Nat
  rc : Nat
  row : List Int

def Er.enc (e : Er) : List Value := [.string e.key, .slice e.ro e.rn e.rc]
theorem Er.enc_len (e : Er) : e.enc.length = 2 := rfl
theorem Er.enc_one (e : Er) : ∀ u ∈ e.enc, u.oneCell' = true := by
  intro u hu
  simp [Er.enc] at hu
  rcases hu with rfl | rfl <;> rfl

/-- The place of a key. -/
def findL (L : List Er) (key : ByteArray) : Int := match L.findIdx? (fun e => decide (e.key = key)) with | some i => (i : Int) | none => -1

theorem findL_some {L : List Er} {key : ByteArray} {i : Nat} {e : Er} (hi : L[i]? = some e) (he : e.key = key) (hn : ∀ j, j < i → ∀ e', L[j]? = some e' → e'.key ≠ key) : findL L key = i := by
  unfold findL
  have hil : i < L.length := (List.getElem?_eq_some_iff.1 hi).1
  have : L.findIdx? (fun e => decide (e.key = key)) = some i := by
    rw [List.findIdx?_eq_some_iff_getElem]
    refine ⟨hil, ?_, fun j hj => ?_⟩
    · have : L[i] = e := by rw [List.getElem?_eq_getElem hil] at hi; exact Option.some.inj hi
      rw [this, he]; simp
    · have h2 := hn j hj (L[j]'(by omega)) (List.getElem?_eq_getElem _)
      simpa using h2
  rw [this]
theorem findL_none {L : List Er} {key : ByteArray} (hn : ∀ e ∈ L, e.key ≠ key) : findL L key = -1 := by
  unfold findL
  have : L.findIdx? (fun e => decide (e.key = key)) = none := by
    rw [List.findIdx?_eq_none_iff]
    intro x hx
    simpa using hn x hx
  rw [this]

theorem el_of {L : List Er} {k : Nat} (h : k < L.length) : ∃ e, L[k]? = some e := ⟨L[k], List.getElem?_eq_getElem h⟩

set_option maxHeartbeats 400000 in
theorem find_calls {L : List Er} {ao : Option Addr} {n c : Nat} (key : ByteArray) (w : World) (hL : SlF 2 w ao n c (flat Er.enc L)) :
    Calls Try.prog 16 #[.slice ao n c, .string key] w fun e w' => e = .returned (.int .i64 (findL L key)) ∧ w' = w := by
  have hm := Nat.le_trans hL.le hL.max
  unfold maxLen at hm
  have hlen := Lib.hid (hL.count Er.enc_len (by omega))
  go_enter Try.func16, Try.ntmps16
  go_wp2
  go_loop [5, 8] (fun _ i => ∃ k : Nat, k ≤ n ∧ i = .int .i64 k ∧ Hid (∀ j, j < k → ∀ e, L[j]? = some e → e.key ≠ key)) (fun _ i => n - (intOf i).toNat)
  case atStart => exact ⟨0, Nat.zero_le _, rfl, Lib.hid (fun j h => by omega)⟩
  case round =>
    obtain ⟨k, hk, rfl, hno⟩ := hrel
    by_cases hlt : k < n
    · obtain ⟨e, he⟩ := el_of (L := L) (k := k) (by have := hlen.out; omega)
      obtain ⟨b, o, rfl, hc⟩ := hL.elem Er.enc_len (by omega) he
      have h0 := hc 0 _ rfl
      rw [Nat.add_zero] at h0
      have He := Lib.hid he
      clear hc he
      by_cases hkk : e.key = key
      · have hb := beqS_yes hkk
        have Hk := Lib.hid hkk
        clear hkk
        have Hfin := Lib.hid (findL_some He.out Hk.out (fun j hj e' h' => hno.out j hj e' h'))
        go_wp2
        go_ret
        exact ⟨ret_i64 Hfin.out.symm, rfl⟩
      · have hb := beqS_no hkk
        have Hk := Lib.hid hkk
        clear hkk
        go_wp2
        go_round
        case rel => exact ⟨k + 1, by omega, by go_num, Lib.hid (fun j hj e' h' => by
          by_cases ej : j = k
          · subst ej; rw [He.out] at h'; cases h'; exact Hk.out
          · exact hno.out j (by omega) e' h')⟩
        case measure => simp [intOf]; omega
    · have Hfin := Lib.hid (findL_none (L := L) (key := key) (fun e he => by
        obtain ⟨j, hj, rfl⟩ := List.getElem_of_mem he
        exact hno.out j (by have := hlen.out; have hkn : k = n := (by omega); omega) _ (List.getElem?_eq_getElem hj)))
      go_wp2
      go_ret
      exact ⟨ret_i64 Hfin.out.symm, rfl⟩

theorem infoE : (Try.prog.info? 41).map (fun i => (i.zero.map (·.cells.size), i.size, i.bytes)) = some (some 2, 2, 40) := by kernel_rfl
theorem infoE_parts : ∃ i z, Try.prog.info? 41 = some i ∧ i.zero = some z ∧ i.size = 2 ∧ i.bytes = 40 ∧ z.cells.size = 2 := by
  have h := infoE
  cases hi : Try.prog.info? 41 with
  | none => rw [hi] at h; cases h
  | some i =>
    rw [hi] at h
    simp only [Option.map_some, Option.some.injEq, Prod.mk.injEq] at h
    obtain ⟨h1, h2, h3⟩ := h
    cases hz : i.zero with
    | none => rw [hz] at h1; cases h1
    | some z => rw [hz] at h1; exact ⟨i, z, rfl, hz, h2, h3, by simpa using h1⟩

/-- All rows but a key's, and then this one. -/
def youngE (L : List Er) (e : Er) : List Er := L.filter (fun x => decide (x.key ≠ e.key)) ++ [e]
def keepE (L : List Er) (e : Er) (k : Nat) : List Er := (L.take k).filter (fun x => decide (x.key ≠ e.key))
theorem keepE_zero (L : List Er) (e : Er) : keepE L e 0 = [] := rfl
theorem keepE_yes {L : List Er} {e x : Er} {k : Nat} (hk : L[k]? = some x) (h : x.key ≠ e.key) : keepE L e (k + 1) = keepE L e k ++ [x] := by
  unfold keepE; rw [List.take_add_one, hk, List.filter_append]; simp [h]
theorem keepE_no {L : List Er} {e x : Er} {k : Nat} (hk : L[k]? = some x) (h : x.key = e.key) : keepE L e (k + 1) = keepE L e k := by
  unfold keepE; rw [List.take_add_one, hk, List.filter_append]; simp [h]
theorem keepE_le (L : List Er) (e : Er) (k : Nat) : (keepE L e k).length ≤ k := by
  unfold keepE; exact Nat.le_trans (List.length_filter_le _ _) (List.length_take_le _ _)
theorem keepE_all (L : List Er) (e : Er) : keepE L e L.length ++ [e] = youngE L e := by unfold keepE youngE; rw [List.take_length]
theorem youngE_len (L : List Er) (e : Er) : (youngE L e).length ≤ L.length + 1 := by
  unfold youngE; rw [List.length_append]; have := List.length_filter_le (fun x : Er => decide (x.key ≠ e.key)) L; simpa using this

abbrev OwnE (w : World) (base : Nat) (v : Value) (L : List Er) : Prop := OwnF Er.enc 2 41 w base v L

/-- A box of two cells reads. -/
theorem box2 {w : World} {g : Nat} {x y : Value} {t : TypeId} (h : w.heap[g]? = some (.cells #[x, y] t)) : w.cell? ⟨g, 0, none⟩ = some x ∧ w.cell? ⟨g, 1, none⟩ = some y := by
  simp [World.cell?, h]

set_option maxHeartbeats 1000000 in
theorem young_calls {L : List Er} {ao : Option Addr} {n c : Nat} (e : Er) (w : World) (hL : SlF 2 w ao n c (flat Er.enc L)) (hreach : n ≤ 1048576) :
    Calls Try.prog 17 #[.slice ao n c, .agg #[.string e.key, .slice e.ro e.rn e.rc]] w fun en w' => ∃ v, en = .returned v ∧ OwnE w' w.heap.size v (youngE L e) ∧ Below w.heap.size w w' := by
  have hm := Nat.le_trans hL.le hL.max
  unfold maxLen at hm
  have hlen := Lib.hid (hL.count Er.enc_len (by omega))
  obtain ⟨i0, z0, hi, hz0, hz1, hz2, hz3⟩ := infoE_parts
  obtain ⟨w1, hw1e⟩ : ∃ w1, w.alloc (.cells #[.string e.key, .slice e.ro e.rn e.rc] 41) = w1 := ⟨_, rfl⟩
  have hw1 : Below w.heap.size w w1 := hw1e ▸ below_alloc w _
  have hs1 : w1.heap.size = w.heap.size + 1 := by rw [← hw1e]; simp
  have hbk1 : w1.heap[w.heap.size]? = some (.cells #[.string e.key, .slice e.ro e.rn e.rc] 41) := by rw [← hw1e]; exact heap_alloc_new w _
  have HE := Lib.hid hw1e
  have HS := Lib.hid hs1
  have HL1 := Lib.hid (hL.below hw1)
  have Hmade := Lib.hid (OwnF.made0 (enc := Er.enc) (s := 2) (e := 41) w1)
  have HW2 := Lib.hid (below_alloc w1 (.cells #[] 41))
  have HW1 := Lib.hid hw1
  have HBK1 := Lib.hid hbk1
  clear hL hw1 hs1 hbk1 hw1e
  go_enter Try.func17, Try.ntmps17
  go_wp2
  rw [HE.out]
  go_loopw [5, 6, 10] (fun v _ i wr => ∃ k : Nat, k ≤ n ∧ i = .int .i64 k ∧ OwnE wr w1.heap.size v (keepE L e k) ∧ Below w1.heap.size w1 wr) (fun _ _ i _ => n - (intOf i).toNat)
  case atStart => exact ⟨0, Nat.zero_le _, rfl, by rw [keepE_zero]; rw [← HS.out]; exact Hmade.out, HW2.out⟩
  case round =>
    obtain ⟨k, hk, rfl, hown, hb⟩ := hrel
    obtain ⟨c0, c1⟩ := box2 ((hb.block w.heap.size (by have := HS.out; omega)).trans HBK1.out)
    have hz := hb.size
    have HO := Lib.hid hown
    have HB := Lib.hid hb
    clear hb hown
    by_cases hlt : k < n
    · obtain ⟨x, hx⟩ := el_of (L := L) (k := k) (by have := hlen.out; omega)
      obtain ⟨b, o, rfl, hc⟩ := (HL1.out.below HB.out).elem Er.enc_len (by omega) hx
      have d0 := hc 0 _ rfl
      have d1 := hc 1 _ rfl
      rw [Nat.add_zero] at d0
      have HX := Lib.hid hx
      clear hc hx
      by_cases hkk : x.key = e.key
      · have hbq := bneS_yes hkk
        have hbq2 := beqS_yes hkk
        have Hkk := Lib.hid hkk
        clear hkk
        go_wp2
        go_quiet (fail)
        go_wp2
        go_roundw
        case rel => exact ⟨k + 1, by omega, by go_num, by rw [keepE_no HX.out Hkk.out]; exact HO.out.drewN _, below_drewN HB.out _⟩
        case measure => simp [intOf]; omega
      · have hbq := bneS_no hkk
        have hbq2 := beqS_no hkk
        have Hkk := Lib.hid hkk
        clear hkk
        go_wp2
        go_quiet (fail)
        have hk2 := keepE_le L e k
        have ho2 := (HO.out.drewN nq).alloc (.cells #[.string x.key, .slice x.ro x.rn x.rc] 41)
        have hl2 : SlF 2 ((wr.drewN nq).alloc (.cells #[.string x.key, .slice x.ro x.rn x.rc] 41)) (some ⟨wr.heap.size, 0, none⟩) 1 1 (flat Er.enc [x]) := SlF.one Er.enc_len (wr.drewN nq) x _ rfl
        have hb2 : Below w1.heap.size w1 ((wr.drewN nq).alloc (.cells #[.string x.key, .slice x.ro x.rn x.rc] 41)) := (below_drewN HB.out nq).alloc hz _
        have hbs : w1.heap.size ≤ ((wr.drewN nq).alloc (.cells #[.string x.key, .slice x.ro x.rn x.rc] 41)).heap.size := hb2.size
        have HB2 := Lib.hid hb2
        clear hb2
        go_wp2_with (at_builtin; refine wpList_flat_app rfl _ _ 36 rfl i0 z0 40 Try.underlying36 hi hz0 hz1 hz2 hz3 Er.enc_len (by omega) Er.enc_one rfl ho2 rfl hl2 (by unfold maxLen; omega) (by omega) hbs ?_)
        intro v' w' ho3 hg3 hb3
        have HB3 := Lib.hid (HB2.out.trans hb3)
        have HO3 := Lib.hid ho3
        clear ho2 hl2 ho3 hg3 hb3 hbs
        go_wp2
        go_roundw
        case rel => exact ⟨k + 1, by omega, by go_num, by rw [keepE_yes HX.out Hkk.out]; exact HO3.out, HB3.out⟩
        case measure => simp [intOf]; omega
    · have e1 : k = n := by omega
      have hk2 := keepE_le L e k
      have ho2 := HO.out.alloc (.cells #[.string e.key, .slice e.ro e.rn e.rc] 41)
      have hl2 : SlF 2 (wr.alloc (.cells #[.string e.key, .slice e.ro e.rn e.rc] 41)) (some ⟨wr.heap.size, 0, none⟩) 1 1 (flat Er.enc [e]) := SlF.one Er.enc_len wr e _ rfl
      have hb2 : Below w1.heap.size w1 (wr.alloc (.cells #[.string e.key, .slice e.ro e.rn e.rc] 41)) := HB.out.alloc hz _
      have hbs : w1.heap.size ≤ (wr.alloc (.cells #[.string e.key, .slice e.ro e.rn e.rc] 41)).heap.size := hb2.size
      have HB2 := Lib.hid hb2
      have HE1 := Lib.hid e1
      clear hb2 e1
      go_wp2_with (at_builtin; refine wpList_flat_app rfl _ _ 36 rfl i0 z0 40 Try.underlying36 hi hz0 hz1 hz2 hz3 Er.enc_len (by omega) Er.enc_one rfl ho2 rfl hl2 (by unfold maxLen; omega) (by omega) hbs ?_)
      intro v' w' ho3 hg3 hb3
      have HB3 := Lib.hid (HB2.out.trans hb3)
      have HO3 := Lib.hid ho3
      clear ho2 hl2 ho3 hg3 hb3 hbs
      go_wp2
      go_ret
      refine ⟨_, rfl, ?_, HW1.out.trans (HB3.out.mono HW1.out.size)⟩
      rw [← keepE_all, hlen.out, ← HE1.out]
      exact OwnF.mono HO3.out HW1.out.size

/-- .. of which as many are left as there is room for. -/
def putE (L : List Er) (room : Int) (e : Er) : List Er := if (room : Int) < (youngE L e).length then (youngE L e).drop 1 else youngE L e

set_option maxHeartbeats 1000000 in
theorem refput_calls {L : List Er} {ao : Option Addr} {n c : Nat} (room : Int) (e : Er) (w : World) (hL : SlF 2 w ao n c (flat Er.enc L)) (hreach : n ≤ 1048576) :
    Calls Try.prog 15 #[.slice ao n c, .int .i64 room, .agg #[.string e.key, .slice e.ro e.rn e.rc]] w fun en w' => ∃ ao' n' c', en = .returned (.slice ao' n' c') ∧ SlF 2 w' ao' n' c' (flat Er.enc (putE L room e)) ∧ (∀ ad, ao' = some ad → w.heap.size ≤ ad.block) ∧ Below w.heap.size w w' := by
  obtain ⟨i0, z0, hi, hz0, hz1, hz2, hz3⟩ := infoE_parts
  have hw1 := below_alloc w (.cells #[.string e.key, .slice e.ro e.rn e.rc] 41)
  have HL1 := Lib.hid (hL.below hw1)
  have HW1 := Lib.hid hw1
  clear hL hw1
  go_enter Try.func15, Try.ntmps15
  go_wp2_with (fail)
  refine (young_calls e _ HL1.out hreach).mono ?_
  rintro en w2 ⟨v, rfl, ho, hb⟩
  obtain ⟨ao2, c2, rfl, hs2⟩ := ho.sl
  have HFR : Hid (∀ ad, ao2 = some ad → w.heap.size ≤ ad.block) := Lib.hid (fun ad e => Nat.le_trans HW1.out.size (World.ownsRow.lt ho ad.block (by rw [e]; rfl)).1)
  have hm2 := Nat.le_trans hs2.le hs2.max
  unfold maxLen at hm2
  have hlen : Hid ((youngE L e).length = (youngE L e).length) := Lib.hid rfl
  have HB := Lib.hid (HW1.out.trans (hb.mono HW1.out.size))
  obtain ⟨m, hm⟩ : ∃ m, (youngE L e).length = m := ⟨_, rfl⟩
  have Hm := Lib.hid hm
  rw [hm] at hs2 hm2
  rw [hm]
  have hpos : 0 < m := by rw [← hm]; simp [youngE]
  clear hm ho hb hlen
  by_cases hr : room < (m : Int)
  · have Hp : Hid (putE L room e = (youngE L e).drop 1) := Lib.hid (by unfold putE; rw [Hm.out, if_pos hr])
    go_wp2_with (refine wpList_flat_low (enc := Er.enc) rfl _ _ _ rfl i0 Try.underlying36 hi hz1 Er.enc_len rfl hs2 rfl (k := 1) rfl (by omega) ?_; intro ao' hs3 hao3)
    go_ret
    exact ⟨_, _, _, rfl, by rw [Hp.out]; exact hs3, fun ad e => (let ⟨ad0, e0, e1⟩ := hao3 ad e; by rw [e1]; exact HFR.out ad0 e0), HB.out⟩
  · have Hp : Hid (putE L room e = youngE L e) := Lib.hid (by unfold putE; rw [Hm.out, if_neg hr])
    go_wp2
    go_ret
    exact ⟨_, _, _, rfl, by rw [Hp.out]; exact hs2, HFR.out, HB.out⟩

end Go.Proofs.Ytjfpbhdcbjaahaa
