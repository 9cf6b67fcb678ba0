/- Walks: vocab.Bytes, vocab.Name, vocab.ID. (Printed by gLook.py.) -/
import Derived.Test.YtamicpkjdgfgiaaMay
import Derived.Test.YtamicpkjdgfgiaaTurnP
namespace Go.Proofs.Ytamicpkjdgfgiaa
open Go.RowKit
set_option linter.unusedVariables false

def ixOf : Option Nat → Int
  | some i => i
  | none => -1
theorem ix_hit {S : List Sp} {p : Sp → Bool} {k : Nat} (hk : k < S.length) (hp : p (sp S k) = true) (hno : ∀ j, j < k → p (sp S j) = false) : S.findIdx? p = some k := by
  rw [List.findIdx?_eq_some_iff_getElem]
  exact ⟨hk, by rw [sp_get hk]; exact hp, fun j hj => by rw [sp_get (by omega), hno j hj]; simp⟩
theorem ix_miss {S : List Sp} {p : Sp → Bool} (hno : ∀ j, j < S.length → p (sp S j) = false) : S.findIdx? p = none := by
  rw [List.findIdx?_eq_none_iff]
  intro x hx
  obtain ⟨j, hj, rfl⟩ := List.getElem_of_mem hx
  rw [sp_get hj]; exact hno j hj
theorem find_cases (S : List Sp) (p : Sp → Bool) : (S.findIdx? p = none ∧ S.find? p = none) ∨ ∃ i, i < S.length ∧ S.findIdx? p = some i ∧ S.find? p = some (sp S i) := by
  cases h : S.findIdx? p with
  | none =>
    left
    rw [List.findIdx?_eq_none_iff] at h
    exact ⟨rfl, by rw [List.find?_eq_none]; intro x hx; rw [h x hx]; simp⟩
  | some i =>
    right
    obtain ⟨h1, h2, h3⟩ := List.findIdx?_eq_some_iff_getElem.1 h
    refine ⟨i, h1, rfl, ?_⟩
    rw [List.find?_eq_some_iff_getElem]
    exact ⟨by rw [sp_get h1] at h2; exact h2, i, h1, sp_get h1, fun j hj => by simpa using h3 j hj⟩

set_option maxHeartbeats 400000 in
theorem nameF_calls (x : Sp) {g : Nat} {id : Int} (w : World) (hg : w.cell? ⟨g, 0, none⟩ = some (.int .i64 id)) :
    Calls Try.prog 40 #[.agg #[.string x.name, .int .i64 x.id], .pointer (some ⟨g, 0, none⟩)] w fun e w' => e = .returned (.bool (decide (x.id = id))) ∧ Below w.heap.size w w' := by
  have hc := cell_below (below_alloc w (.cells #[.string x.name, .int .i64 x.id] 41)) _ _ hg
  by_cases h : x.id = id
  · have HF : Hid (decide (x.id = id) = true) := Lib.hid (by simp [h])
    have he : (x.id == id) = true := by simpa using h
    clear h
    go_enter Try.func40, Try.ntmps40
    go_wp2
    go_ret
    exact ⟨by rw [HF.out]; rfl, below_alloc w _⟩
  · have HF : Hid (decide (x.id = id) = false) := Lib.hid (by simp [h])
    have he : (x.id == id) = false := by simpa using h
    clear h
    go_enter Try.func40, Try.ntmps40
    go_wp2
    go_ret
    exact ⟨by rw [HF.out]; rfl, below_alloc w _⟩

set_option maxHeartbeats 400000 in
theorem idF_calls (x : Sp) {g : Nat} {nm : ByteArray} (w : World) (hg : w.cell? ⟨g, 0, none⟩ = some (.string nm)) :
    Calls Try.prog 42 #[.agg #[.string x.name, .int .i64 x.id], .pointer (some ⟨g, 0, none⟩)] w fun e w' => e = .returned (.bool (decide (x.name = nm))) ∧ Below w.heap.size w w' := by
  have hc := cell_below (below_alloc w (.cells #[.string x.name, .int .i64 x.id] 41)) _ _ hg
  by_cases h : x.name = nm
  · have HF : Hid (decide (x.name = nm) = true) := Lib.hid (by simp [h])
    have he := beqS_yes h
    clear h
    go_enter Try.func42, Try.ntmps42
    go_wp2
    go_ret
    exact ⟨by rw [HF.out]; rfl, below_alloc w _⟩
  · have HF : Hid (decide (x.name = nm) = false) := Lib.hid (by simp [h])
    have he := beqS_no h
    clear h
    go_enter Try.func42, Try.ntmps42
    go_wp2
    go_ret
    exact ⟨by rw [HF.out]; rfl, below_alloc w _⟩

set_option maxHeartbeats 1000000 in
theorem nameI_calls {S : List Sp} {so : Option Addr} {sn sc g : Nat} {id : Int} (w : World) (hS : SlF 2 w so sn sc (flat Sp.enc S)) (hg : w.cell? ⟨g, 0, none⟩ = some (.int .i64 id)) :
    Calls Try.prog 39 #[.slice so sn sc, .func (.func 40) #[] #[.pointer (some ⟨g, 0, none⟩)]] w fun e w' => e = .returned (.int .i64 (ixOf (S.findIdx? (fun x => decide (x.id = id))))) ∧ Below w.heap.size w w' := by
  have hm := Nat.le_trans hS.le hS.max
  unfold maxLen at hm
  have HLS := Lib.hid (hS.count Sp.enc_len (by omega))
  have HS := Lib.hid hS
  have HG := Lib.hid hg
  clear hS hg
  go_enter Try.func39, Try.ntmps39
  go_wp2_with (fail)
  go_loopw [5, 8] (fun _ i wr => ∃ k : Nat, k ≤ sn ∧ i = .int .i64 k ∧ Hid (∀ j, j < k → (fun x : Sp => decide (x.id = id)) (sp S j) = false) ∧ Below w.heap.size w wr) (fun _ i _ => sn - (intOf i).toNat)
  case atStart => exact ⟨0, Nat.zero_le _, rfl, Lib.hid (fun j h => by omega), Below.refl _ _⟩
  case round =>
    obtain ⟨k, hk, rfl, HK, hb⟩ := hrel
    have HB := Lib.hid hb
    clear hb
    by_cases hlt : k < sn
    · have hkS : k < S.length := by have := HLS.out; omega
      obtain ⟨b, of, rfl, hce⟩ := (HS.out.below HB.out).elem Sp.enc_len (by omega) (sp_eq hkS)
      have d0 := hce 0 _ rfl
      have d1 := hce 1 _ rfl
      rw [Nat.add_zero] at d0
      clear hce
      have hcl := nameF_calls (sp S k) (id := id) wr (cell_below HB.out _ _ HG.out)
      obtain ⟨bv, hbv⟩ : ∃ bv, (fun x : Sp => decide (x.id = id)) (sp S k) = bv := ⟨_, rfl⟩
      have hbv' := hbv
      simp only at hbv'
      rw [hbv'] at hcl
      clear hbv'
      go_wp2_with (fail)
      refine hcl.mono ?_
      rintro e w2 ⟨rfl, hb2⟩
      have HB2 := Lib.hid (HB.out.trans (hb2.mono HB.out.size))
      cases bv with
      | true =>
        have HF := Lib.hid (ix_hit (p := fun x => decide (x.id = id)) hkS hbv HK.out)
        clear hbv
        go_wp2_with (fail)
        go_ret
        exact ⟨by rw [HF.out]; rfl, HB2.out⟩
      | false =>
        have HK2 : Hid (∀ j, j < k + 1 → (fun x : Sp => decide (x.id = id)) (sp S j) = false) := Lib.hid (fun j hj => by
          by_cases e : j = k
          · subst e; exact hbv
          · exact HK.out j (by omega))
        clear hbv
        go_wp2_with (fail)
        go_roundw
        case rel => exact ⟨k + 1, by omega, by go_num, HK2, HB2.out⟩
        case measure => simp [intOf]; omega
    · have HF := Lib.hid (ix_miss (p := fun x => decide (x.id = id)) (S := S) (fun j hj => HK.out j (by have := HLS.out; omega)))
      go_wp2_with (fail)
      go_ret
      exact ⟨by rw [HF.out]; rfl, HB.out⟩

set_option maxHeartbeats 1000000 in
theorem idI_calls {S : List Sp} {so : Option Addr} {sn sc g : Nat} {nm : ByteArray} (w : World) (hS : SlF 2 w so sn sc (flat Sp.enc S)) (hg : w.cell? ⟨g, 0, none⟩ = some (.string nm)) :
    Calls Try.prog 39 #[.slice so sn sc, .func (.func 42) #[] #[.pointer (some ⟨g, 0, none⟩)]] w fun e w' => e = .returned (.int .i64 (ixOf (S.findIdx? (fun x => decide (x.name = nm))))) ∧ Below w.heap.size w w' := by
  have hm := Nat.le_trans hS.le hS.max
  unfold maxLen at hm
  have HLS := Lib.hid (hS.count Sp.enc_len (by omega))
  have HS := Lib.hid hS
  have HG := Lib.hid hg
  clear hS hg
  go_enter Try.func39, Try.ntmps39
  go_wp2_with (fail)
  go_loopw [5, 8] (fun _ i wr => ∃ k : Nat, k ≤ sn ∧ i = .int .i64 k ∧ Hid (∀ j, j < k → (fun x : Sp => decide (x.name = nm)) (sp S j) = false) ∧ Below w.heap.size w wr) (fun _ i _ => sn - (intOf i).toNat)
  case atStart => exact ⟨0, Nat.zero_le _, rfl, Lib.hid (fun j h => by omega), Below.refl _ _⟩
  case round =>
    obtain ⟨k, hk, rfl, HK, hb⟩ := hrel
    have HB := Lib.hid hb
    clear hb
    by_cases hlt : k < sn
    · have hkS : k < S.length := by have := HLS.out; omega
      obtain ⟨b, of, rfl, hce⟩ := (HS.out.below HB.out).elem Sp.enc_len (by omega) (sp_eq hkS)
      have d0 := hce 0 _ rfl
      have d1 := hce 1 _ rfl
      rw [Nat.add_zero] at d0
      clear hce
      have hcl := idF_calls (sp S k) (nm := nm) wr (cell_below HB.out _ _ HG.out)
      obtain ⟨bv, hbv⟩ : ∃ bv, (fun x : Sp => decide (x.name = nm)) (sp S k) = bv := ⟨_, rfl⟩
      have hbv' := hbv
      simp only at hbv'
      rw [hbv'] at hcl
      clear hbv'
      go_wp2_with (fail)
      refine hcl.mono ?_
      rintro e w2 ⟨rfl, hb2⟩
      have HB2 := Lib.hid (HB.out.trans (hb2.mono HB.out.size))
      cases bv with
      | true =>
        have HF := Lib.hid (ix_hit (p := fun x => decide (x.name = nm)) hkS hbv HK.out)
        clear hbv
        go_wp2_with (fail)
        go_ret
        exact ⟨by rw [HF.out]; rfl, HB2.out⟩
      | false =>
        have HK2 : Hid (∀ j, j < k + 1 → (fun x : Sp => decide (x.name = nm)) (sp S j) = false) := Lib.hid (fun j hj => by
          by_cases e : j = k
          · subst e; exact hbv
          · exact HK.out j (by omega))
        clear hbv
        go_wp2_with (fail)
        go_roundw
        case rel => exact ⟨k + 1, by omega, by go_num, HK2, HB2.out⟩
        case measure => simp [intOf]; omega
    · have HF := Lib.hid (ix_miss (p := fun x => decide (x.name = nm)) (S := S) (fun j hj => HK.out j (by have := HLS.out; omega)))
      go_wp2_with (fail)
      go_ret
      exact ⟨by rw [HF.out]; rfl, HB.out⟩

set_option maxHeartbeats 1000000 in
theorem name_calls {V : Vc} {dd : Vd} (id : Int) (w : World) (hV : VocR w dd V) :
    Calls Try.prog 20 #[dd.val, .int .i64 id] w fun e w' => e = .returned (.tuple #[.string (nmOf (spBy V.specials id)), .bool (spBy V.specials id).isSome]) ∧ Below w.heap.size w w' := by
  obtain ⟨ta, tn, tc, ma, mn, mc, sa, sn, sc⟩ := dd
  obtain ⟨w0, hw0⟩ : ∃ w0, (w.alloc (.cells #[.slice ta tn tc, .slice ma mn mc, .slice sa sn sc] 26)).alloc (.cells #[.int .i64 id] 3) = w0 := ⟨_, rfl⟩
  have hb0 : Below w.heap.size w w0 := hw0 ▸ (below_alloc w _).alloc (by simp) _
  have hs0 : w0.heap.size = w.heap.size + 2 := by rw [← hw0]; simp
  have hx0 : w0.heap[w.heap.size]? = some (.cells #[.slice ta tn tc, .slice ma mn mc, .slice sa sn sc] 26) := by rw [← hw0, (below_alloc _ _).block _ (by simp)]; exact heap_alloc_new w _
  have hx1 : w0.heap[w.heap.size + 1]? = some (.cells #[.int .i64 id] 3) := by
    rw [← hw0]
    have := heap_alloc_new (w.alloc (.cells #[.slice ta tn tc, .slice ma mn mc, .slice sa sn sc] 26)) (.cells #[.int .i64 id] 3)
    simpa using this
  obtain ⟨c0, c1, c2⟩ := box3v hx0
  have HV := Lib.hid (hV.below hb0)
  have HB0 := Lib.hid hb0
  have HW0 := Lib.hid hw0
  have HX0 := Lib.hid hx0
  have hnl := hV.spc.count Sp.enc_len (by omega)
  simp only at hnl
  have HNL := Lib.hid hnl
  have hm := Nat.le_trans hV.spc.le hV.spc.max
  simp only at hm
  unfold maxLen at hm
  have hI := nameI_calls (id := id) (g := w.heap.size + 1) w0 HV.out.spc (by simp [World.cell?, hx1])
  clear hV hb0 hx0 hx1 hw0 hnl
  go_enter Try.func20, Try.ntmps20
  go_wp2_with (fail)
  rw [HW0.out]
  refine hI.mono ?_
  rintro e w1 ⟨rfl, hb1⟩
  have HB1 := Lib.hid (HB0.out.trans (hb1.mono HB0.out.size))
  have HV1 := Lib.hid (HV.out.below hb1)
  clear c0 c1 c2
  obtain ⟨c0, c1, c2⟩ := box3v ((hb1.block w.heap.size (by omega)).trans HX0.out)
  clear hb1 hI
  rcases find_cases V.specials (fun x => decide (x.id = id)) with ⟨e1, e2⟩ | ⟨i, hi, e1, e2⟩
  · rw [e1]
    simp only [ixOf]
    have HE : Hid (spBy V.specials id = none) := Lib.hid e2
    clear e1 e2
    go_wp2
    refine bodyPost_ret (v := .tuple #[.string ByteArray.empty, .bool false]) ?_ rfl ⟨by rw [HE.out]; rfl, HB1.out⟩
    simp [results, Try.results20, go_sem]; try rfl
  · rw [e1]
    simp only [ixOf]
    have HE : Hid (spBy V.specials id = some (sp V.specials i)) := Lib.hid e2
    have hin : i < sn := by have := HNL.out; omega
    obtain ⟨b, of, hao, hce⟩ := HV1.out.spc.elem Sp.enc_len (by omega) (sp_eq hi)
    simp only at hao
    subst hao
    have d0 := hce 0 _ rfl
    have d1 := hce 1 _ rfl
    rw [Nat.add_zero] at d0
    have hng : ¬ (i : Int) < 0 := by omega
    clear e1 e2 hce hi
    go_wp2
    refine bodyPost_ret (v := .tuple #[.string (sp V.specials i).name, .bool true]) ?_ rfl ⟨by rw [HE.out]; rfl, HB1.out⟩
    simp [results, Try.results20, go_sem]

set_option maxHeartbeats 1000000 in
theorem id_calls {V : Vc} {dd : Vd} (nm : ByteArray) (w : World) (hV : VocR w dd V) :
    Calls Try.prog 23 #[dd.val, .string nm] w fun e w' => e = .returned (.int .i64 (idOf (spNamed V.specials nm))) ∧ Below w.heap.size w w' := by
  obtain ⟨ta, tn, tc, ma, mn, mc, sa, sn, sc⟩ := dd
  obtain ⟨w0, hw0⟩ : ∃ w0, (w.alloc (.cells #[.slice ta tn tc, .slice ma mn mc, .slice sa sn sc] 26)).alloc (.cells #[.string nm] 9) = w0 := ⟨_, rfl⟩
  have hb0 : Below w.heap.size w w0 := hw0 ▸ (below_alloc w _).alloc (by simp) _
  have hs0 : w0.heap.size = w.heap.size + 2 := by rw [← hw0]; simp
  have hx0 : w0.heap[w.heap.size]? = some (.cells #[.slice ta tn tc, .slice ma mn mc, .slice sa sn sc] 26) := by rw [← hw0, (below_alloc _ _).block _ (by simp)]; exact heap_alloc_new w _
  have hx1 : w0.heap[w.heap.size + 1]? = some (.cells #[.string nm] 9) := by
    rw [← hw0]
    have := heap_alloc_new (w.alloc (.cells #[.slice ta tn tc, .slice ma mn mc, .slice sa sn sc] 26)) (.cells #[.string nm] 9)
    simpa using this
  obtain ⟨c0, c1, c2⟩ := box3v hx0
  have HV := Lib.hid (hV.below hb0)
  have HB0 := Lib.hid hb0
  have HW0 := Lib.hid hw0
  have HX0 := Lib.hid hx0
  have hnl := hV.spc.count Sp.enc_len (by omega)
  simp only at hnl
  have HNL := Lib.hid hnl
  have hm := Nat.le_trans hV.spc.le hV.spc.max
  simp only at hm
  unfold maxLen at hm
  have hI := idI_calls (nm := nm) (g := w.heap.size + 1) w0 HV.out.spc (by simp [World.cell?, hx1])
  clear hV hb0 hx0 hx1 hw0 hnl
  go_enter Try.func23, Try.ntmps23
  go_wp2_with (fail)
  rw [HW0.out]
  refine hI.mono ?_
  rintro e w1 ⟨rfl, hb1⟩
  have HB1 := Lib.hid (HB0.out.trans (hb1.mono HB0.out.size))
  have HV1 := Lib.hid (HV.out.below hb1)
  clear c0 c1 c2
  obtain ⟨c0, c1, c2⟩ := box3v ((hb1.block w.heap.size (by omega)).trans HX0.out)
  clear hb1 hI
  rcases find_cases V.specials (fun x => decide (x.name = nm)) with ⟨e1, e2⟩ | ⟨i, hi, e1, e2⟩
  · rw [e1]
    simp only [ixOf]
    have HE : Hid (spNamed V.specials nm = none) := Lib.hid e2
    clear e1 e2
    go_wp2
    (go_ret; exact ⟨by rw [HE.out]; rfl, HB1.out⟩)
  · rw [e1]
    simp only [ixOf]
    have HE : Hid (spNamed V.specials nm = some (sp V.specials i)) := Lib.hid e2
    have hin : i < sn := by have := HNL.out; omega
    obtain ⟨b, of, hao, hce⟩ := HV1.out.spc.elem Sp.enc_len (by omega) (sp_eq hi)
    simp only at hao
    subst hao
    have d0 := hce 0 _ rfl
    have d1 := hce 1 _ rfl
    rw [Nat.add_zero] at d0
    have hng : ¬ (i : Int) < 0 := by omega
    clear e1 e2 hce hi
    go_wp2
    (go_ret; exact ⟨by rw [HE.out]; rfl, HB1.out⟩)

/-- A token's bytes, as the program tells them. -/
def bytesOf (T : List ByteArray) (i : Int) : ByteArray := if isTk T i = true then tk T i.toNat else ByteArray.empty
set_option maxHeartbeats 1000000 in
theorem vbytes_calls {V : Vc} {dd : Vd} (id : Int) (w : World) (hV : VocR w dd V) :
    Calls Try.prog 19 #[dd.val, .int .i64 id] w fun e w' => e = .returned (.tuple #[.string (bytesOf V.tokens id), .bool (isTk V.tokens id)]) ∧ Below w.heap.size w w' := by
  obtain ⟨ta, tn, tc, ma, mn, mc, sa, sn, sc⟩ := dd
  obtain ⟨w0, hw0⟩ : ∃ w0, w.alloc (.cells #[.slice ta tn tc, .slice ma mn mc, .slice sa sn sc] 26) = w0 := ⟨_, rfl⟩
  have hb0 : Below w.heap.size w w0 := hw0 ▸ below_alloc w _
  have hx0 : w0.heap[w.heap.size]? = some (.cells #[.slice ta tn tc, .slice ma mn mc, .slice sa sn sc] 26) := by rw [← hw0]; exact heap_alloc_new w _
  obtain ⟨c0, c1, c2⟩ := box3v hx0
  have HV := Lib.hid (hV.below hb0)
  have HB0 := Lib.hid hb0
  have HW0 := Lib.hid hw0
  have HL := Lib.hid HV.out.tok.count
  clear hV hb0 hx0 hw0
  have hI := is_calls (T := V.tokens) id w0 HV.out.tok
  go_enter Try.func19, Try.ntmps19
  go_wp2_with (fail)
  rw [HW0.out]
  refine hI.mono ?_
  rintro e w1 ⟨rfl, rfl⟩
  cases hi : isTk V.tokens id with
  | false =>
    have HF : Hid (bytesOf V.tokens id = ByteArray.empty ∧ isTk V.tokens id = false) := Lib.hid ⟨by unfold bytesOf; rw [hi]; rfl, hi⟩
    clear hi hI
    go_wp2
    refine bodyPost_ret (v := .tuple #[.string ByteArray.empty, .bool false]) ?_ rfl ⟨by rw [HF.out.1, HF.out.2], HB0.out⟩
    simp [results, Try.results19, go_sem]; try rfl
  | true =>
    have HF : Hid (bytesOf V.tokens id = tk V.tokens id.toNat ∧ isTk V.tokens id = true) := Lib.hid ⟨by unfold bytesOf; rw [if_pos hi], hi⟩
    obtain ⟨h1, h2, _⟩ := isTk_iff.1 hi
    clear hi hI
    obtain ⟨k, rfl⟩ := Int.eq_ofNat_of_zero_le h1
    have hk : k < V.tokens.length := by omega
    have hkn : k < tn := by have := HL.out; omega
    obtain ⟨b, o, hao, hc⟩ := HV.out.tok.cell (tk_eq hk)
    simp only at hao
    subst hao
    clear h2 hk
    go_wp2
    refine bodyPost_ret (v := .tuple #[.string (tk V.tokens k), .bool true]) ?_ rfl ⟨by rw [HF.out.1, HF.out.2]; rfl, HB0.out⟩
    simp [results, Try.results19, go_sem]

end Go.Proofs.Ytamicpkjdgfgiaa
