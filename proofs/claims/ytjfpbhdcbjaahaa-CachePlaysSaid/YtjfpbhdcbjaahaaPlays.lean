/- CachePlays: any row of operations on a cache of any room is answered as the document says. No condition. -/
import Derived.Test.YtjfpbhdcbjaahaaOps15
import Derived.Test.YtjfpbhdcbjaahaaRunes
import Derived.Test.YtjfpbhdcbjaahaaCacheNil
namespace Go.Proofs.Ytjfpbhdcbjaahaa
open Go.RowKit Go.WideShapes
set_option linter.unusedVariables false
set_option linter.unusedSimpArgs false

def Er.kr (e : Er) : Row := (e.key, e.row)
def rowsOf (L : List Er) : List Row := L.map Er.kr
theorem rowsOf_len (L : List Er) : (rowsOf L).length = L.length := by simp [rowsOf]
theorem rowsOf_keys (L : List Er) : (rowsOf L).map (·.1) = L.map (·.key) := by simp [rowsOf, Er.kr, Function.comp_def]

theorem rowsOf_young (L : List Er) (e : Er) : rowsOf (youngE L e) = young (rowsOf L) e.key e.row := by
  unfold rowsOf youngE young
  rw [List.map_append, List.filter_map]
  rfl
theorem rowsOf_put (L : List Er) (room : Int) (e : Er) : rowsOf (putE L room e) = putL (rowsOf L) room e.key e.row := by
  unfold putE putL
  rw [← rowsOf_young, rowsOf_len]
  by_cases h : room < ((youngE L e).length : Int)
  · rw [if_pos h, if_pos h]; unfold rowsOf; rw [List.map_drop]
  · rw [if_neg h, if_neg h]
theorem putE_len {L : List Er} {room : Int} {e : Er} (h : (L.length : Int) ≤ room) : ((putE L room e).length : Int) ≤ room := by
  have := youngE_len L e
  unfold putE
  by_cases h : room < ((youngE L e).length : Int)
  · rw [if_pos h, List.length_drop]; omega
  · rw [if_neg h]; omega
theorem putE_len2 (L : List Er) (room : Int) (e : Er) : (putE L room e).length ≤ L.length + 1 := by
  have := youngE_len L e
  unfold putE
  by_cases h : room < ((youngE L e).length : Int)
  · rw [if_pos h, List.length_drop]; omega
  · rw [if_neg h]; omega
theorem mem_youngE {L : List Er} {e x : Er} (h : x ∈ youngE L e) : x ∈ L ∨ x = e := by
  unfold youngE at h
  rcases List.mem_append.1 h with h | h
  · exact .inl (List.mem_filter.1 h).1
  · exact .inr (by simpa using h)
theorem mem_putE {L : List Er} {room : Int} {e x : Er} (h : x ∈ putE L room e) : x ∈ L ∨ x = e := by
  unfold putE at h
  by_cases h' : room < ((youngE L e).length : Int)
  · rw [if_pos h'] at h; exact mem_youngE (List.mem_of_mem_drop h)
  · rw [if_neg h'] at h; exact mem_youngE h

theorem findL_cases (L : List Er) (key : ByteArray) : (∃ (i : Nat) (e : Er), L[i]? = some e ∧ e.key = key ∧ findL L key = (i : Int)) ∨ ((∀ e ∈ L, e.key ≠ key) ∧ findL L key = -1) := by
  unfold findL
  cases h : L.findIdx? (fun e => decide (e.key = key)) with
  | none =>
    right
    rw [List.findIdx?_eq_none_iff] at h
    exact ⟨fun e he => by simpa using h e he, rfl⟩
  | some i =>
    left
    obtain ⟨h1, h2, _⟩ := List.findIdx?_eq_some_iff_getElem.1 h
    exact ⟨i, L[i], List.getElem?_eq_getElem h1, by simpa using h2, rfl⟩

theorem crep_put_any {w : World} {base cb mb : Nat} {no : Option Addr} {l : List Row} {room hits misses : Int} (h : CRep w base w.heap.size cb mb no l room hits misses) (hbase : base ≤ w.heap.size) (key : ByteArray) (hkl : key.size ≤ maxLen) (h0 : 0 ≤ room) (hroom2 : room ≤ 1048576) (hl : (l.length : Int) ≤ room) (hl2 : l.length < 1048576)
    {ao : Option Addr} {n c : Nat} {A : List Int} (hA : SlI w ao n c A) (hAo : ∀ ad, ao = some ad → 0 < n → ad.block < base) (hlim : n ≤ 1048576) :
    Calls Try.prog 9 #[.pointer (some ⟨cb, 0, none⟩), .string key, .slice ao n c] w fun en w' => en = .returned (.tuple #[]) ∧ ∃ no',
      CRep w' base w'.heap.size cb mb no' (putL l room key A) room hits misses ∧ Keeps (Ft cb mb no) w w' := by
  by_cases hz : room = 0
  · subst hz
    have e : l = [] := List.eq_nil_of_length_eq_zero (by omega)
    subst e
    refine (crep_zero h key ao n c).mono ?_
    rintro en w' ⟨rfl, hb⟩
    refine ⟨rfl, no, ?_, ⟨hb.os, hb.tape, hb.output, hb.size, fun k hk _ => hb.block k hk⟩⟩
    have : putL [] 0 key A = [] := by simp [putL, young]
    rw [this]
    exact (h.below hb).up hb.size
  · refine (crep_put h key hkl (by omega) hroom2 hl hl2 hA (fun ad e hn => ⟨by have := hAo ad e hn; omega, fun hf => by have := (h.ft _ hf).1; have := hAo ad e hn; omega⟩) hlim).mono ?_
    rintro en w' ⟨rfl, g, h1, h2, _⟩
    exact ⟨rfl, _, h1, h2⟩

/-- A row that came in. -/
def goodE (w : World) (e : Er) : Prop := SlI w e.ro e.rn e.rc e.row ∧ e.rn ≤ 50 ∧ e.key.size ≤ maxLen
def Ox.er (x : Ox) : Er := ⟨x.key, x.ro, x.rn, x.rc, x.row⟩

theorem SlI.low {w : World} {ao : Option Addr} {n c : Nat} {A : List Int} (h : SlI w ao n c A) : ∀ ad, ao = some ad → 0 < n → ad.block < w.heap.size := by
  intro ad e hn
  obtain ⟨b, o, e', hc⟩ := h.at_ hn
  rw [e] at e'
  cases e'
  exact World.block_lt_of_cell? w _ hc

theorem SlF.zero {s : Nat} (w : World) (ao : Option Addr) : SlF s w ao 0 0 (flat Er.enc []) := ⟨by simp [flat], Nat.le_refl _, by unfold maxLen; omega, fun _ => rfl, fun _ _ h => by simp [flat] at h⟩

theorem goodE_put {w : World} {L : List Er} {room : Int} {e : Er} (h : ∀ x ∈ L, goodE w x) (he : goodE w e) : ∀ x ∈ putE L room e, goodE w x := fun x hx => by
  rcases mem_putE hx with h' | h'
  · exact h x h'
  · rw [h']; exact he
theorem goodE_young {w : World} {L : List Er} {e : Er} (h : ∀ x ∈ L, goodE w x) (he : goodE w e) : ∀ x ∈ youngE L e, goodE w x := fun x hx => by
  rcases mem_youngE hx with h' | h'
  · exact h x h'
  · rw [h']; exact he
theorem rowsOf_mem {L : List Er} {e : Er} (h : e ∈ L) : (e.key, e.row) ∈ rowsOf L := List.mem_map.2 ⟨e, h, rfl⟩
theorem rowsOf_no {L : List Er} {key : ByteArray} (h : ∀ e ∈ L, e.key ≠ key) : ∀ p ∈ rowsOf L, p.1 ≠ key := fun p hp => by
  obtain ⟨e, he, rfl⟩ := List.mem_map.1 hp
  exact h e he
theorem youngE_same {w : World} {base top cb mb : Nat} {no : Option Addr} {L : List Er} {room hits misses : Int} (h : CRep w base top cb mb no (rowsOf L) room hits misses) {e : Er} (he : e ∈ L) : (youngE L e).length = L.length := by
  have := young_len h.apart (rowsOf_mem he)
  rw [← rowsOf_young, rowsOf_len, rowsOf_len] at this
  exact this

/-- A box of three cells reads. -/
theorem box3 {w : World} {g : Nat} {x y z : Value} {t : TypeId} (h : w.heap[g]? = some (.cells #[x, y, z] t)) : w.cell? ⟨g, 0, none⟩ = some x ∧ w.cell? ⟨g, 1, none⟩ = some y ∧ w.cell? ⟨g, 2, none⟩ = some z := by
  simp [World.cell?, h]
theorem goodE.er {w w' : World} {e : Er} (h : goodE w e) (hb : Below w.heap.size w w') : SlI w' e.ro e.rn e.rc e.row := h.1.below hb

set_option maxHeartbeats 8000000 in
set_option maxRecDepth 100000 in
theorem plays_walk {O : List Ox} {ao : Option Addr} {n c : Nat} (room : Int) (w : World) (hO : Ops w ao n c O) : Frame.Law Try.prog 5 #[.int .i64 room, .slice ao n c] w := by
  unfold Frame.Law
  have hm := Nat.le_trans hO.sl.le hO.sl.max
  unfold maxLen at hm
  have hlen := Lib.hid (hO.sl.count Ox.enc_len (by omega))
  have HO := Lib.hid hO
  clear hO
  by_cases hr0 : room < 0
  · go_enter Try.func5, Try.ntmps5
    go_wp2_with (fail)
    refine (new_no room (.inl hr0) w).mono ?_
    rintro en w1 ⟨rfl, hb1⟩
    have HB1 := Lib.hid hb1
    clear hb1
    go_wp2_with (fail)
    refine (fixed_calls w1).mono ?_
    rintro en w2 ⟨rfl, hb2⟩
    have HB2 := Lib.hid (HB1.out.trans (hb2.mono HB1.out.size))
    clear hb2
    go_wp2
    go_ret
    exact ⟨rfl, HB2.out⟩
  by_cases hr1 : 1048576 < room
  · go_enter Try.func5, Try.ntmps5
    go_wp2_with (fail)
    refine (new_no room (.inr hr1) w).mono ?_
    rintro en w1 ⟨rfl, hb1⟩
    have HB1 := Lib.hid hb1
    clear hb1
    go_wp2_with (fail)
    refine (fixed_calls w1).mono ?_
    rintro en w2 ⟨rfl, hb2⟩
    have HB2 := Lib.hid (HB1.out.trans (hb2.mono HB1.out.size))
    clear hb2
    go_wp2
    go_ret
    exact ⟨rfl, HB2.out⟩
  go_enter Try.func5, Try.ntmps5
  go_wp2_with (fail)
  refine (crep_new room (by omega) (by omega) w).mono ?_
  rintro en w1 ⟨cb, mb, rfl, h1, hb1⟩
  have H1 := Lib.hid h1
  have HB1 := Lib.hid hb1
  clear h1 hb1
  go_wp2_with (fail)
  have HO1 : Ops w1 ao n c O := ⟨HO.out.sl.below HB1.out, fun x hx => ⟨(HO.out.row x hx).1.below HB1.out, (HO.out.row x hx).2⟩⟩
  refine (great_calls w1 HO1).mono ?_
  rintro en w2 ⟨rfl, hb2⟩
  have H2 := Lib.hid ((H1.out.below hb2).up hb2.size)
  have HB2 := Lib.hid (HB1.out.trans (hb2.mono HB1.out.size))
  clear hb2 HO1 H1
  cases hg : greatB O with
  | true =>
    go_wp2_with (fail)
    refine (fixed_calls w2).mono ?_
    rintro en w3 ⟨rfl, hb3⟩
    have H3 := Lib.hid ((H2.out.below hb3).up hb3.size)
    have HB3 := Lib.hid (HB2.out.trans (hb3.mono HB2.out.size))
    clear hb3
    go_wp2_with (fail)
    refine (crep_room H3.out).mono ?_
    rintro en w4 ⟨rfl, hb4⟩
    have HB4 := Lib.hid (HB3.out.trans (hb4.mono HB3.out.size))
    clear hb4
    go_wp2
    all_goals go_ret
    all_goals exact ⟨ret_bool (by simp), HB4.out⟩
  | false =>
    obtain ⟨hn150, hsm⟩ := greatB_false hg
    rw [hlen.out] at hn150
    have HSM := Lib.hid hsm
    have HG := Lib.hid hg
    clear hsm hg
    go_wp2_with (fail)
    refine (crep_room H2.out).mono ?_
    rintro en w4 ⟨rfl, hb4⟩
    have H4 := Lib.hid ((H2.out.below hb4).up hb4.size)
    have HB4 := Lib.hid (HB2.out.trans (hb4.mono HB2.out.size))
    have hwa := below_alloc w4 (.cells #[] 41)
    have H5 := Lib.hid ((H4.out.below hwa).up hwa.size)
    have HB5 := Lib.hid (HB4.out.trans (hwa.mono HB4.out.size))
    have hrr : (room != room) = false := by simp
    clear hb4 hwa
    go_wp2
    go_loopw [6, 7, 8, 56] (fun l hi mi i wr => ∃ (k : Nat) (no : Option Addr) (L : List Er) (hits misses : Int) (ao' : Option Addr) (n' c' : Nat), k ≤ n ∧ i = .int .i64 k ∧ l = .slice ao' n' c' ∧ hi = .int .i64 hits ∧ mi = .int .i64 misses ∧ 0 ≤ hits ∧ hits ≤ k ∧ 0 ≤ misses ∧ misses ≤ k ∧
      CRep wr w.heap.size wr.heap.size cb mb no (rowsOf L) room hits misses ∧ SlF 2 wr ao' n' c' (flat Er.enc L) ∧ Hid (∀ ad, ao' = some ad → 0 < n' → ¬ Ft cb mb no ad.block) ∧ Hid (∀ e ∈ L, goodE w e) ∧ n' ≤ k ∧ (n' : Int) ≤ room ∧ Below w.heap.size w wr) (fun _ _ _ i _ => n - (intOf i).toNat)
    case atStart => exact ⟨0, _, [], 0, 0, _, 0, 0, Nat.zero_le _, rfl, rfl, rfl, rfl, by omega, by omega, by omega, by omega, H5.out, SlF.zero _ _, Lib.hid (fun ad e h0 => by omega), Lib.hid (fun e he => by simp at he), by omega, by omega, HB5.out⟩
    case round =>
      obtain ⟨k, no, L, hits, misses, ao', n', c', hk, rfl, rfl, rfl, rfl, hh0, hh1, hm0, hm1, hc, hL, HNF, HGE, hn', hnr, hb⟩ := hrel
      have HC := Lib.hid hc
      have HB := Lib.hid hb
      have HL := Lib.hid hL
      have hcount := hL.count Er.enc_len (by omega)
      have HCT := Lib.hid hcount
      clear hc hb hL hcount H2 HB2 H4 HB4 H5 HB5
      by_cases hlt : k < n
      · obtain ⟨x, hx⟩ := elO (O := O) (k := k) (by have := hlen.out; omega)
        have hxm := List.mem_of_getElem? hx
        obtain ⟨b, o, rfl, hcx⟩ := (HO.out.sl.below HB.out).elem Ox.enc_len (by omega) hx
        have d0 := hcx 0 _ rfl
        have d1 := hcx 1 _ rfl
        have d2 := hcx 2 _ rfl
        rw [Nat.add_zero] at d0
        obtain ⟨pb, hpb⟩ : ∃ pb, x.put = pb := ⟨_, rfl⟩
        rw [hpb] at d0
        clear hpb
        have hrow := Lib.hid (HO.out.row x hxm).1
        have hks := Lib.hid (HO.out.row x hxm).2
        have hs50 := (HSM.out x hxm).1
        have hge := Lib.hid (show goodE w x.er from ⟨hrow.out, hs50, hks.out⟩)
        have hwx := below_alloc wr (.cells #[.bool pb, .string x.key, .slice x.ro x.rn x.rc] 38)
        have HWX := Lib.hid hwx
        have HB6 := Lib.hid (HB.out.trans (hwx.mono HB.out.size))
        have HC6 := Lib.hid ((HC.out.below hwx).up hwx.size)
        have HL6 := Lib.hid (HL.out.below hwx)
        have hrl : ((rowsOf L).length : Int) ≤ room := by rw [rowsOf_len, HCT.out]; omega
        have hrl2 : (rowsOf L).length < 1048576 := by rw [rowsOf_len, HCT.out]; omega
        have HRL := Lib.hid (And.intro hrl hrl2)
        clear hwx hcx hxm hx hrl hrl2
        cases pb with
        | true =>
          go_wp2_with (fail)
          refine (crep_put_any HC6.out HB6.out.size x.key hks.out (by omega) (by omega) HRL.out.1 HRL.out.2 (hrow.out.below HB6.out) hrow.out.low (by omega)).mono ?_
          rintro en w7 ⟨rfl, no7, h7, hk7⟩
          have h7' : CRep w7 w.heap.size w7.heap.size cb mb no7 (rowsOf (putE L room x.er)) room hits misses := by rw [rowsOf_put]; exact h7
          have HB7 := Lib.hid (HB6.out.trans (hk7.below HB6.out.size fun q hq => (HC6.out.ft q hq).1))
          have H7 := Lib.hid h7'
          have HL7 := Lib.hid (HL6.out.keep0 fun ad e h0 => hk7.block _ (HL6.out.lt (by omega) ad e h0) (HNF.out ad e h0))
          have hbx := (hk7.block wr.heap.size (by simp) (fun hf => by have := (HC.out.ft _ hf).2; omega)).trans (heap_alloc_new wr _)
          obtain ⟨b0, b1, b2⟩ := box3 hbx
          clear h7 h7' hk7 hbx HC HC6 HL HL6 HRL
          go_wp2_with (fail)
          refine (refput_calls room x.er w7 HL7.out (by omega)).mono ?_
          rintro en w8 ⟨ao8, n8, c8, rfl, hL8, hfr8, hb8⟩
          have H8 := Lib.hid ((H7.out.below hb8).up hb8.size)
          have HB8 := Lib.hid (HB7.out.trans (hb8.mono HB7.out.size))
          have hct8 := hL8.count Er.enc_len (by omega)
          have hle8 := putE_len2 L room x.er
          have hle9 := putE_len (e := x.er) (show (L.length : Int) ≤ room by rw [HCT.out]; exact hnr)
          rw [HCT.out, hct8] at hle8
          rw [hct8] at hle9
          have HL8 := Lib.hid hL8
          have HNF8 : Hid (∀ ad, ao8 = some ad → 0 < n8 → ¬ Ft cb mb no7 ad.block) := Lib.hid (fun ad e _ hf => by have h1 := hfr8 ad e; have := (H7.out.ft _ hf).2; omega)
          have HGE8 := Lib.hid (goodE_put (room := room) HGE.out hge.out)
          clear hL8 hb8 hct8 hfr8
          go_wp2
          go_roundw
          case rel => exact ⟨k + 1, no7, putE L room x.er, hits, misses, ao8, n8, c8, by omega, by go_num, rfl, rfl, rfl, by omega, by omega, by omega, by omega, H8.out, HL8.out, HNF8, HGE8, by omega, hle9, HB8.out⟩
          case measure => simp [intOf]; omega
        | false =>
          rcases findL_cases L x.key with ⟨i, e, hi, hek, hfi⟩ | ⟨hno, hfi⟩
          · have HI := Lib.hid hi
            have HEK := Lib.hid hek
            have HFI := Lib.hid hfi
            have hem := List.mem_of_getElem? hi
            have HEM := Lib.hid hem
            have hge2 := Lib.hid (HGE.out e hem)
            have hin : (x.key, e.row) ∈ rowsOf L := by rw [← hek]; exact rowsOf_mem hem
            have HIN := Lib.hid hin
            have hil : i < n' := by have h1 := (List.getElem?_eq_some_iff.1 hi).1; rw [HCT.out] at h1; exact h1
            clear hi hek hfi hem hin
            go_wp2_with (fail)
            refine (crep_hit HC6.out (Nat.le_refl _) x.key e.row hks.out HIN.out hh0 (by omega)).mono ?_
            rintro en w7 ⟨vo, vn, vc, rfl, ho7, h7, hk7⟩
            have h7' : CRep w7 w.heap.size w7.heap.size cb mb no (rowsOf (youngE L e)) room (hits + 1) misses := by rw [rowsOf_young, HEK.out]; exact h7.up hk7.size
            have hyl := youngE_same HC6.out HEM.out
            have HYL := Lib.hid (hyl.trans HCT.out)
            have HB7 := Lib.hid (HB6.out.trans (hk7.below HB6.out.size fun q hq => (HC6.out.ft q hq).1))
            have H7 := Lib.hid h7'
            have HL7 := Lib.hid (HL6.out.keep0 fun ad e h0 => hk7.block _ (HL6.out.lt (by omega) ad e h0) (HNF.out ad e h0))
            have hbx := (hk7.block wr.heap.size (by simp) (fun hf => by have := (HC.out.ft _ hf).2; omega)).trans (heap_alloc_new wr _)
            obtain ⟨b0, b1, b2⟩ := box3 hbx
            obtain ⟨hvn, hs7⟩ := ho7.sl2
            have HS7 := Lib.hid hs7
            clear h7 h7' hk7 hbx HC HC6 HL HL6 HRL hyl ho7 hs7 hvn
            go_wp2_with (fail)
            refine (find_calls x.key w7 HL7.out).mono ?_
            rintro en w8 ⟨rfl, rfl⟩
            rw [HFI.out]
            have hm' := Nat.le_trans (SlF.le HL7.out) (SlF.max HL7.out)
            unfold maxLen at hm'
            obtain ⟨b2', o2', rfl, hce⟩ := HL7.out.elem Er.enc_len (by omega) HI.out
            have c0 := hce 0 _ rfl
            have c1 := hce 1 _ rfl
            rw [Nat.add_zero] at c0
            have hge0 : (true != decide ((0 : Int) ≤ (i : Int))) = false := by simp
            have hwe := below_alloc w8 (.cells #[.string e.key, .slice e.ro e.rn e.rc] 41)
            have HB8 := Lib.hid (HB7.out.trans (hwe.mono HB7.out.size))
            have H8 := Lib.hid ((H7.out.below hwe).up hwe.size)
            have HL8 := Lib.hid (HL7.out.below hwe)
            have HS8 := Lib.hid (HS7.out.below hwe)
            clear hce hwe
            go_wp2_with (fail)
            refine (same_true (A := e.row) (B := e.row) rfl _ HS8.out (hge2.out.er HB8.out)).mono ?_
            rintro en w9 ⟨rfl, hb9⟩
            have HB9 := Lib.hid (HB8.out.trans (hb9.mono HB8.out.size))
            have H9 := Lib.hid ((H8.out.below hb9).up hb9.size)
            have HL9 := Lib.hid (HL8.out.below hb9)
            have hbx9 := (hb9.block w8.heap.size (by simp)).trans (heap_alloc_new w8 _)
            obtain ⟨q0, q1⟩ := box2 hbx9
            clear hb9 hbx9
            go_wp2_with (fail)
            refine (young_calls e w9 HL9.out (by omega)).mono ?_
            rintro en w10 ⟨v10, rfl, ho10, hb10⟩
            have H10 := Lib.hid ((H9.out.below hb10).up hb10.size)
            have HB10 := Lib.hid (HB9.out.trans (hb10.mono HB9.out.size))
            obtain ⟨ao8, c8, rfl, hL8⟩ := ho10.sl
            have HNF8 : Hid (∀ ad, ao8 = some ad → 0 < n' → ¬ Ft cb mb no ad.block) := Lib.hid (fun ad e _ hf => by
              have h1 := (World.ownsRow.lt ho10 ad.block (by rw [e]; rfl)).1
              have := (H9.out.ft _ hf).2; omega)
            rw [HYL.out] at hL8
            rw [HYL.out]
            have HL10 := Lib.hid hL8
            have HGE8 := Lib.hid (goodE_young HGE.out hge2.out)
            clear hL8 hb10 ho10
            go_wp2
            go_roundw
            case rel => exact ⟨k + 1, no, youngE L e, hits + 1, misses, ao8, n', c8, by omega, by go_num, rfl, rfl, rfl, by omega, by omega, by omega, by omega, H10.out, HL10.out, HNF8, HGE8, by omega, hnr, HB10.out⟩
            case measure => simp [intOf]; omega
          · have HNO := Lib.hid hno
            have HFI := Lib.hid hfi
            clear hno hfi
            go_wp2_with (fail)
            refine (crep_miss HC6.out (Nat.le_refl _) x.key hks.out (rowsOf_no HNO.out) hm0 (by omega)).mono ?_
            rintro en w7 ⟨rfl, h7, hk7⟩
            have HB7 := Lib.hid (HB6.out.trans (hk7.below HB6.out.size fun q hq => (HC6.out.ft q hq).1))
            have H7 := Lib.hid (h7.up hk7.size)
            have HL7 := Lib.hid (HL6.out.keep0 fun ad e h0 => hk7.block _ (HL6.out.lt (by omega) ad e h0) (HNF.out ad e h0))
            have hbx := (hk7.block wr.heap.size (by simp) (fun hf => by have := (HC.out.ft _ hf).2; omega)).trans (heap_alloc_new wr _)
            obtain ⟨b0, b1, b2⟩ := box3 hbx
            clear h7 hk7 hbx HC HC6 HL HL6 HRL
            go_wp2_with (fail)
            refine (find_calls x.key w7 HL7.out).mono ?_
            rintro en w8 ⟨rfl, rfl⟩
            rw [HFI.out]
            go_wp2
            go_roundw
            case rel => exact ⟨k + 1, no, L, hits, misses + 1, ao', n', c', by omega, by go_num, rfl, rfl, rfl, by omega, by omega, by omega, by omega, H7.out, HL7.out, HNF, HGE, by omega, hnr, HB7.out⟩
            case measure => simp [intOf]; omega
      · have hkn : k = n := by omega
        have HKN := Lib.hid hkn
        have hlr : (rowsOf L).length ≤ 1048576 := by rw [rowsOf_len, HCT.out]; omega
        clear hkn
        go_wp2_with (fail)
        refine (crep_keys HC.out (Nat.le_refl _) hlr).mono ?_
        rintro en w7 ⟨vo, kn, vc, rfl, ho7, hb7⟩
        have hkl := ho7.len
        rw [rowsOf_keys, List.length_map, HCT.out] at hkl
        subst hkl
        rw [rowsOf_keys] at ho7
        have HO7 := Lib.hid ho7
        have H7 := Lib.hid ((HC.out.below hb7).up hb7.size)
        have HB7 := Lib.hid (HB.out.trans (hb7.mono HB.out.size))
        have HL7 := Lib.hid (HL.out.below hb7)
        clear hb7 ho7
        go_wp2_with (fail)
        refine (crep_counts H7.out).mono ?_
        rintro en w8 ⟨rfl, hb8⟩
        have H8 := Lib.hid ((H7.out.below hb8).up hb8.size)
        have HB8 := Lib.hid (HB7.out.trans (hb8.mono HB7.out.size))
        have HL8 := Lib.hid (HL7.out.below hb8)
        have HO8 := Lib.hid (HO7.out.below hb8)
        have hbn : (((kn : Nat) : Int) != (kn : Int)) = false := by simp
        clear hb8
        go_wp2_with (fail)
        refine (crep_len H8.out).mono ?_
        rintro en w9 ⟨rfl, hb9⟩
        have H9 := Lib.hid ((H8.out.below hb9).up hb9.size)
        have HB9 := Lib.hid (HB8.out.trans (hb9.mono HB8.out.size))
        have HL9 := Lib.hid (HL8.out.below hb9)
        have HO9 := Lib.hid (HO8.out.below hb9)
        clear hb9
        rw [rowsOf_len, HCT.out]
        have hh9 : (hits != hits) = false := by simp
        have hm9 : (misses != misses) = false := by simp
        have hm' := Nat.le_trans (SlF.le HL9.out) (SlF.max HL9.out)
        unfold maxLen at hm'
        go_wp2_with (fail)
        go_loopw [18, 144] (fun _ i wq => ∃ (j q : Nat), j ≤ kn ∧ i = .int .i64 j ∧ wq = w9.drewN q) (fun _ i _ => kn - (intOf i).toNat)
        case atStart => exact ⟨0, 0, Nat.zero_le _, rfl, rfl⟩
        case round =>
          obtain ⟨j, q, hj, rfl, rfl⟩ := hrel
          by_cases hlt2 : j < kn
          · obtain ⟨e, he⟩ := el_of (L := L) (k := j) (by have := HCT.out; omega)
            obtain ⟨b2', o2', rfl, hce⟩ := HL9.out.elem Er.enc_len (by omega) he
            have c0 := hce 0 _ rfl
            rw [Nat.add_zero] at c0
            obtain ⟨k1, k2, g, rfl, k3, k4, k5⟩ := HO9.out.cell hlt2
            have hkj : (L.map (·.key)).getD j ByteArray.empty = e.key := by simp [List.getD, he]
            rw [hkj] at k5
            have hbq := bneS_yes (rfl : e.key = e.key)
            have hbq2 := beqS_yes (rfl : e.key = e.key)
            unfold maxLen at k2
            clear hce he hkj
            go_wp2
            go_quiet (fail)
            go_wp2
            go_roundw
            case rel => exact ⟨j + 1, _, by omega, by go_num, rfl⟩
            case measure => simp [intOf]; omega
          · have HB10 := Lib.hid (below_drewN HB9.out q)
            go_wp2_with (fail)
            refine (fixed_calls _).mono ?_
            rintro en w11 ⟨rfl, hb11⟩
            have HB11 := Lib.hid (HB10.out.trans (hb11.mono HB10.out.size))
            clear hb11
            go_wp2
            go_ret
            exact ⟨rfl, HB11.out⟩

theorem cachePlays_law (W : World) (base : Nat) {H : Type} {enc : TypeId × Value → H} (args : Array Value) (ds : List (DataW H)) (p : List MemPlace)
    (hval : ∀ (j : Nat) t v, Try.f5.params[j]? = some t → args[j]? = some v → Value.okWide Try.prog W .any base t v)
    (hA : DataW.TrodAll enc Try.prog W 0 (fun _ => true) true Try.f5.params.toList args.toList ds p) :
    Frame.Law Try.prog 5 args W := by
  rw [Try.params5] at hA hval
  obtain ⟨v0, v1, d0, d1, p0, p1, rfl, rfl, rfl, h0, h1⟩ := Go.ChangeShapes.trodAll_two hA
  obtain ⟨z0, rfl⟩ := okWide_int Try.underlying3 (hval 0 3 v0 rfl rfl)
  obtain ⟨ao1, n1, c1, O1, rfl, hs1⟩ := ops_open (hval 1 34 v1 rfl rfl) h1
  exact plays_walk z0 W hs1

set_option maxRecDepth 100000 in
theorem cachePlays_lifted (os : Os) (started : os.Started) (H : Type) (enc : TypeId × Value → H) :
    ReturnsInHanded {} Try.checked os 5 .any (Rows.cachePlaysSpec.pre6 enc Try.prog Try.f5 Rows.cachePlaysRow.domain false) (Rows.cachePlaysSpec.post enc Try.prog Try.f5 false true false false) :=
  Frame.law_lift (C := Try.checked) (fn := Try.f5) own started (by kernel_rfl) Try.func5 laidOut (by decide +kernel) rfl Try.underlying4 rfl
    (fun ds h => by match ds, h with | [d1, d2], _ => rfl)
    (ChangeSpec.witness6 (enc := enc) (C := Try.checked) false ⟨#[], #[.int .i64 0, .slice none 0 0], []⟩ 8 (by kernel_rfl) (by kernel_rfl) (by kernel_rfl) (by kernel_rfl))
    (fun W base args ds p hval hA => cachePlays_law W base args ds p hval hA)

theorem cachePlays_holds : Rows.CachePlaysSaid :=
  OpenClaim.holds_of_wide 5 Try.f5 rfl rfl rfl rfl rfl rfl rfl ⟨rfl, rfl, rfl, rfl, rfl⟩ rfl rfl rfl rfl rfl (by kernel_rfl) Try.func5 (by kernel_rfl)
    (of_decide_eq_true (by kernel_rfl)) (by unfold Func.isWrapper; rw [if_neg (of_decide_eq_false (by kernel_rfl))]; exact ⟨rfl, rfl⟩)
    (fun os started H enc _ => cachePlays_lifted os started H enc)

#print axioms cachePlays_holds
end Go.Proofs.Ytjfpbhdcbjaahaa
