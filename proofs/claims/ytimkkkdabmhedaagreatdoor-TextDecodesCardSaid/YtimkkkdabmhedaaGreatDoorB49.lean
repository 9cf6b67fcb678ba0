/- Walks: the coder of texts: fault, Check, Split. -/
import Derived.Test.YtimkkkdabmhedaaGreatDoorB26
import Derived.Test.YtimkkkdabmhedaaGreatDoorB27
import Derived.Test.YtimkkkdabmhedaaGreatDoorB35
import Derived.Test.YtimkkkdabmhedaaGreatDoorB44
import Derived.Test.YtimkkkdabmhedaaGreatDoorB48
namespace Go.Proofs.YtimkkkdabmhedaaGreatDoor
open Go.RowKit
set_option linter.unusedVariables false

theorem TCod.below {w w' : World} {base g : Nat} {V : Vc} {N : List ByteArray} {kind : Int} {T : List Rg} {cb : Nat} (h : TCod w base g V N kind T cb) (hb : Below w.heap.size w w') : TCod w' base g V N kind T cb := by
  obtain ⟨lo, ta, tc, sa, sc, na, nc, ma, mc, oa, oc, eg, hx, a1, a2, a3, a4, a5, a6⟩ := h
  exact ⟨lo, ta, tc, sa, sc, na, nc, ma, mc, oa, oc, eg, (hb.block _ (Array.getElem?_eq_some_iff.1 hx).1).trans hx, a1.below hb, a2.below hb, a3.below hb, a4.below hb, a5.below hb, a6.keep (fun q _ hq => hb.block q hq) hb.size⟩

set_option maxHeartbeats 1000000 in
set_option maxRecDepth 100000 in
theorem fault_calls {V : Vc} {N : List ByteArray} {kind : Int} {T : List Rg} {base g cb : Nat} (s : Int) (w : World) (hC : TCod w base g V N kind T cb) (hN : N.length ≤ 16) :
    Calls Tryz.prog 71 #[.pointer (some ⟨g, 0, none⟩), .int .i64 s] w fun e w' => e = .returned (.int .i64 (faultF V N s)) ∧ w = w' := by
  obtain ⟨lo, ta, tc, sa, sc, na, nc, ma, mc, oa, oc, eg, hx, _, _, _, hom, _⟩ := hC
  obtain ⟨c0, c1, c2, c3, c4, c5, c6, c7, c8, cf⟩ := box9 hx
  obtain ⟨mo, mcap, e0, hsm⟩ := hom.sl
  have hml := marksOf_len V.specials N
  rw [hml] at e0 hsm
  obtain ⟨rfl, _, rfl⟩ := Value.slice.inj e0
  have q1 : IntKind.i64.wrap (256 + (N.length : Int)) = 256 + (N.length : Int) := by rw [IntKind.wrap_i64]; omega
  clear hx hom e0
  by_cases h0 : s < 0
  · have HF : Hid (faultF V N s = 1) := Lib.hid (by unfold faultF; rw [if_pos (.inl h0)])
    have hd : decide (s < 0) = true := by simpa using h0
    go_enter Tryz.func71, Tryz.ntmps71
    go_wp2_with (fail)
    refine bodyPost_ret (results_tmp rfl _ _ _) rfl ⟨by rw [HF.out]; rfl, rfl⟩
  · have hd : decide (s < 0) = false := by simpa using h0
    by_cases h1 : 256 + (N.length : Int) ≤ s
    · have HF : Hid (faultF V N s = 1) := Lib.hid (by unfold faultF; rw [if_pos (.inr h1)])
      go_enter Tryz.func71, Tryz.ntmps71
      go_wp2_with (fail)
      refine bodyPost_ret (results_tmp rfl _ _ _) rfl ⟨by rw [HF.out]; rfl, rfl⟩
    · have hnn : ¬ (s < 0 ∨ 256 + (N.length : Int) ≤ s) := by omega
      by_cases h2 : 256 ≤ s
      · have hg2 : decide ((256 : Int) ≤ s) = true := by simpa using h2
        obtain ⟨k, hk⟩ : ∃ k : Nat, s - 256 = k := ⟨(s - 256).toNat, by omega⟩
        have q2 : IntKind.i64.wrap (s - 256) = (k : Int) := by rw [IntKind.wrap_i64]; omega
        have gk : (k : Int) < (N.length : Int) := by omega
        have gk0 : (0 : Int) ≤ (k : Int) := by omega
        obtain ⟨b, o, hao, hc⟩ := hsm.at_ (i := k) (by omega)
        subst hao
        obtain ⟨v, hv⟩ : ∃ v, ix (marksOf V.specials N) k = v := ⟨_, rfl⟩
        rw [hv] at hc
        have hmk : markAt V N s = v := by unfold markAt; rw [hk, Int.toNat_natCast, hv]
        by_cases h3 : v < 0
        · have HF : Hid (faultF V N s = 4) := Lib.hid (by unfold faultF; rw [if_neg hnn, if_pos ⟨h2, by rw [hmk]; exact h3⟩])
          clear hsm hml hv hmk hnn
          go_enter Tryz.func71, Tryz.ntmps71
          go_wp2_with (fail)
          refine bodyPost_ret (results_tmp rfl _ _ _) rfl ⟨by rw [HF.out]; rfl, rfl⟩
        · have HF : Hid (faultF V N s = 0) := Lib.hid (by unfold faultF; rw [if_neg hnn, if_neg (fun h => h3 (by rw [← hmk]; exact h.2))])
          clear hsm hml hv hmk hnn
          go_enter Tryz.func71, Tryz.ntmps71
          go_wp2_with (fail)
          refine bodyPost_ret (results_tmp rfl _ _ _) rfl ⟨by rw [HF.out]; rfl, rfl⟩
      · have hg2 : decide ((256 : Int) ≤ s) = false := by simpa using h2
        have HF : Hid (faultF V N s = 0) := Lib.hid (by unfold faultF; rw [if_neg hnn, if_neg (fun h => h2 h.1)])
        clear hsm hml hnn
        go_enter Tryz.func71, Tryz.ntmps71
        go_wp2_with (fail)
        refine bodyPost_ret (results_tmp rfl _ _ _) rfl ⟨by rw [HF.out]; rfl, rfl⟩

set_option maxHeartbeats 1000000 in
set_option maxRecDepth 100000 in
theorem check_calls {V : Vc} {N : List ByteArray} {kind : Int} {T : List Rg} {base g cb : Nat} {A : List Int} {ao : Option Addr} {n c : Nat} (w : World) (hC : TCod w base g V N kind T cb) (hN : N.length ≤ 16) (hA : SlI w ao n c A) (hn : n ≤ 1048576) :
    Calls Tryz.prog 33 #[.pointer (some ⟨g, 0, none⟩), .slice ao n c] w fun e w' => e = .returned (.int .i64 (checkF V N A)) ∧ w = w' := by
  have HC := Lib.hid hC
  have HA := Lib.hid hA
  have HN := Lib.hid hN
  have HAL := Lib.hid hA.len
  clear hC hA hN
  go_enter Tryz.func33, Tryz.ntmps33
  go_wp2_with (fail)
  go_loopw [12] (fun i wr => ∃ k : Nat, k ≤ n ∧ i = .int .i64 k ∧ Hid (checkF V N A = checkF V N (A.drop k)) ∧ wr = w) (fun i _ => n - (intOf i).toNat)
  case atStart => exact ⟨0, Nat.zero_le _, rfl, Lib.hid rfl, rfl⟩
  case round =>
    obtain ⟨k, hk, rfl, HK, hw⟩ := hrel
    subst hw
    by_cases hlt : k < n
    · obtain ⟨b, o, hao, hc⟩ := HA.out.at_ hlt
      subst hao
      have hkA : k < A.length := by have := HAL.out; omega
      have hdr := checkF_drop (V := V) (N := N) hkA
      obtain ⟨s, hs⟩ : ∃ s, ix A k = s := ⟨_, rfl⟩
      rw [hs] at hc hdr
      have HF := Lib.hid (fault_calls s wr HC.out HN.out)
      by_cases hf : faultF V N s = 0
      · rw [if_pos hf] at hdr
        have HK2 : Hid (checkF V N A = checkF V N (A.drop (k + 1))) := Lib.hid (HK.out.trans hdr)
        rw [hf] at HF
        clear hdr hs hf
        go_wp2_with (go_at_call 71; refine HF.out.mono ?_; rintro e w1 ⟨rfl, rfl⟩)
        go_roundw
        case rel => exact ⟨k + 1, by omega, by go_num, HK2, by first | rfl | trivial⟩
        case measure => simp [intOf]; omega
      · rw [if_neg hf] at hdr
        have HK2 : Hid (checkF V N A = faultF V N s) := Lib.hid (HK.out.trans hdr)
        obtain ⟨f, hff⟩ : ∃ f, faultF V N s = f := ⟨_, rfl⟩
        rw [hff] at hf HF HK2
        have hb : (f == 0) = false := by simpa using hf
        clear hdr hs hff
        go_wp2_with (go_at_call 71; refine HF.out.mono ?_; rintro e w1 ⟨rfl, rfl⟩)
        refine bodyPost_ret (results_tmp rfl _ _ _) rfl ⟨by rw [HK2.out]; rfl, rfl⟩
    · obtain rfl : k = n := by omega
      have HK2 : Hid (checkF V N A = 0) := Lib.hid (by rw [HK.out, List.drop_eq_nil_of_le (by have := HAL.out; omega)]; rfl)
      go_wp2_with (fail)
      go_ret
      exact ⟨by rw [HK2.out]; rfl, rfl⟩

set_option maxHeartbeats 1000000 in
set_option maxRecDepth 100000 in
theorem tsplit_calls {V : Vc} {N : List ByteArray} {kind : Int} {T : List Rg} {base g cb : Nat} {A : List Int} {ao : Option Addr} {n c : Nat} (final : Bool) (w : World) (hC : TCod w base g V N kind T cb) (hA : SlI w ao n c A) (hn : n ≤ 1048570) (hT : MayTab T) (hk0 : 0 ≤ kind) (hk3 : kind ≤ 3) :
    Calls Tryz.prog 18 #[.pointer (some ⟨g, 0, none⟩), .slice ao n c, .bool final] w fun e w' => (∃ v, e = .returned v ∧ OwnF pcEnc 2 51 w' w.heap.size v (splitF kind T A final)) ∧ Below w.heap.size w w' := by
  obtain ⟨lo, ta, tc, sa, sc, na, nc, ma, mc, oa, oc, eg, hx, _, _, _, _, hot, _⟩ := hC
  obtain ⟨c0, c1, c2, c3, c4, c5, c6, c7, c8, cf⟩ := box9 hx
  obtain ⟨to_, tcap, e0, hst⟩ := hot.sl
  obtain ⟨rfl, _, rfl⟩ := Value.slice.inj e0
  have HS : Hid (∀ W, Ge w W → Calls Tryz.prog 60 #[.int .i64 kind, .slice oa T.length oc, .slice ao n c, .bool final] W fun e w' => (∃ v, e = .returned v ∧ OwnF pcEnc 2 51 w' w.heap.size v (splitF kind T A final)) ∧ Below w.heap.size w w') := Lib.hid (fun W hW => (split_calls kind final W (hA.below hW) hn (hst.below hW) hT hk0 hk3).mono (by
    rintro e w' ⟨⟨v, rfl, h1⟩, h2⟩
    exact ⟨⟨v, rfl, OwnF.mono h1 hW.size⟩, hW.below h2⟩))
  clear hx hot e0 hst hA
  go_enter Tryz.func18, Tryz.ntmps18
  go_wp2_with (fail)
  go_region_with (go_at_call 60; refine (HS.out _ (by exact below_drewN (Below.refl _ _) _)).mono ?_; rintro e w2 ⟨⟨v, rfl, ho⟩, hb2⟩; have HO := Lib.hid ho; have HB2 := Lib.hid hb2; clear ho hb2)
  all_goals (
    go_wp2_with (fail)
    go_ret
    exact ⟨⟨v, rfl, HO.out⟩, HB2.out⟩)

end Go.Proofs.YtimkkkdabmhedaaGreatDoor

/- Walks: the coder of texts: a piece's tokens, by the cache. -/
namespace Go.Proofs.YtimkkkdabmhedaaGreatDoor
open Go.RowKit
set_option linter.unusedVariables false

/-- Bytes as a string. -/
def keyB (A : List Int) : ByteArray := A.foldl (fun r n => r.push (UInt8.ofNat n.toNat)) ByteArray.empty
theorem keyB_go : ∀ (A : List Int) (r : ByteArray), (∀ y ∈ A, 0 ≤ y ∧ y < 256) → bytesI (A.foldl (fun r n => r.push (UInt8.ofNat n.toNat)) r) = bytesI r ++ A
  | [], r, _ => by simp
  | a :: A, r, h => by
    obtain ⟨h0, h1⟩ := h a (by simp)
    rw [List.foldl_cons, keyB_go A _ (fun y hy => h y (by simp [hy]))]
    have : bytesI (r.push (UInt8.ofNat a.toNat)) = bytesI r ++ [a] := by
      unfold bytesI
      have : (r.push (UInt8.ofNat a.toNat)).data = r.data.push (UInt8.ofNat a.toNat) := rfl
      rw [this]
      simp
      omega
    rw [this]
    simp
theorem keyB_bytes {A : List Int} (h : ∀ y ∈ A, 0 ≤ y ∧ y < 256) : bytesI (keyB A) = A := by
  have := keyB_go A ByteArray.empty h
  rw [show bytesI ByteArray.empty = [] from rfl, List.nil_append] at this
  exact this
theorem keyB_size {A : List Int} (h : ∀ y ∈ A, 0 ≤ y ∧ y < 256) : (keyB A).size = A.length := by
  rw [← bytesI_len, keyB_bytes h]
theorem conv_bytes {w : World} {ao : Option Addr} {n c : Nat} {A : List Int} (h : SlB w ao n c A) (hn : 0 < n) : (convert 121 9 (.slice ao n c)).run Tryz.prog w = .ok (.string (keyB A)) w := by
  have hl := h.len
  obtain ⟨b, o, hao, _⟩ := Sl.at_ h 0 (.int .u8 (ix A 0)) (by rw [List.getElem?_map, ix_eq (by omega)]; rfl)
  subst hao
  rw [run_convert_bytes_string (P := Tryz.prog) _ 121 9 5 _ _ _ Tryz.underlying121 Tryz.underlying5 Tryz.underlying9]
  rw [run_bytesToString _ _ _ _ A (by
    have := run_loadCells_list (w := w) (P := Tryz.prog) ⟨b, o, none⟩ (A.map (.int .u8)) (fun j v hj => by
      obtain ⟨b', o', e, hc⟩ := Sl.at_ h j v hj
      simp only [Option.some.injEq, Addr.mk.injEq, and_true] at e
      obtain ⟨rfl, rfl⟩ := e
      rw [Addr.add_lit]; exact hc)
    rw [List.length_map, hl] at this
    exact this)]
  rfl
theorem runF_le {M : List Mg} : ∀ (k : Nat) (r : List Int), (runF M k r).length ≤ r.length
  | 0, r => Nat.le_refl _
  | k + 1, r => by
    cases hs : stepF M r with
    | none => rw [runF_end hs]; exact Nat.le_refl _
    | some r' =>
      have h1 := stepF_len hs
      have h2 := runF_le k r' (M := M)
      simp only [runF, hs]
      omega
theorem encF_le (V : Vc) (A : List Int) : (encF V A).length ≤ A.length := by
  have := runF_le (M := V.merges) A.length (rowOf V A)
  rw [rowOf_len] at this
  exact this

/-- The cache's rows are what Encode makes of their keys. -/
structure CacheOk (V : Vc) (l : List Row) (room hits misses : Int) : Prop where
  rows : ∀ p ∈ l, p.2 = encF V (bytesI p.1)
  rm : (l.length : Int) ≤ room
  ms : (l.length : Int) ≤ misses
  hz : 0 ≤ hits
  mz : 0 ≤ misses
  zr : room = 0 → hits = 0 ∧ l = []
theorem young_len (l : List Row) (k : ByteArray) (A : List Int) : (young l k A).length ≤ l.length + 1 := by
  unfold young
  rw [List.length_append]
  have := List.length_filter_le (fun p : Row => decide (p.1 ≠ k)) l
  simp only [List.length_singleton]
  omega
theorem young_mem {l : List Row} {k : ByteArray} {A : List Int} {p : Row} (h : p ∈ young l k A) : p ∈ l ∨ p = (k, A) := by
  unfold young at h
  rcases List.mem_append.1 h with h1 | h1
  · exact .inl (List.mem_filter.1 h1).1
  · exact .inr (List.mem_singleton.1 h1)
theorem young_hit {l : List Row} {k : ByteArray} {A : List Int} (h : (k, A) ∈ l) : (young l k A).length ≤ l.length := by
  unfold young
  rw [List.length_append]
  have : (l.filter (fun p : Row => decide (p.1 ≠ k))).length < l.length := by
    rw [List.length_filter_lt_length_iff_exists]
    exact ⟨(k, A), h, by simp⟩
  simp only [List.length_singleton]
  omega
theorem CacheOk.hit {V : Vc} {l : List Row} {room hits misses : Int} {k : ByteArray} {A : List Int} (h : CacheOk V l room hits misses) (hm : (k, A) ∈ l) : CacheOk V (young l k A) room (hits + 1) misses := by
  have hl := young_hit hm
  refine ⟨fun p hp => ?_, by have := h.rm; omega, by have := h.ms; omega, by have := h.hz; omega, h.mz, fun e => ?_⟩
  · rcases young_mem hp with h1 | h1
    · exact h.rows p h1
    · subst h1; exact h.rows _ hm
  · obtain ⟨_, e2⟩ := h.zr e
    rw [e2] at hm; cases hm
theorem CacheOk.put {V : Vc} {l : List Row} {room hits misses : Int} {k : ByteArray} (h : CacheOk V l room hits misses) (h0 : 0 < room) : CacheOk V (putL l room k (encF V (bytesI k))) room hits (misses + 1) := by
  have hl := young_len l k (encF V (bytesI k))
  have hr := h.rm
  have hm := h.ms
  have key : ∀ p ∈ putL l room k (encF V (bytesI k)), p ∈ young l k (encF V (bytesI k)) := fun p hp => by
    unfold putL at hp
    split at hp
    · exact List.mem_of_mem_drop hp
    · exact hp
  refine ⟨fun p hp => ?_, ?_, ?_, h.hz, by have := h.mz; omega, fun e => by omega⟩
  · rcases young_mem (key p hp) with h1 | h1
    · exact h.rows p h1
    · subst h1; rfl
  · unfold putL
    split
    · rw [List.length_drop]; omega
    · omega
  · unfold putL
    split
    · rw [List.length_drop]; omega
    · omega
theorem CacheOk.missed {V : Vc} {l : List Row} {room hits misses : Int} (h : CacheOk V l room hits misses) : CacheOk V l room hits (misses + 1) :=
  ⟨h.rows, h.rm, by have := h.ms; omega, h.hz, by have := h.mz; omega, h.zr⟩

/-- What a use of the cache leaves. -/
structure Cch (cb mb : Nat) (no no' : Option Addr) (w w' : World) : Prop where
  os : w'.os = w.os
  tape : w'.tape = w.tape
  output : w'.output = w.output
  size : w.heap.size ≤ w'.heap.size
  block : ∀ q, q < w.heap.size → ¬ Ft cb mb no q → w'.heap[q]? = w.heap[q]?
  new : ∀ q, q < w.heap.size → ¬ Ft cb mb no q → ¬ Ft cb mb no' q
theorem Cch.keeps {cb mb : Nat} {no : Option Addr} {w w' : World} (h : Keeps (Ft cb mb no) w w') : Cch cb mb no no w w' := ⟨h.os, h.tape, h.output, h.size, h.block, fun _ _ h => h⟩
theorem Cch.below {cb mb : Nat} {no : Option Addr} {w w' : World} (h : Below w.heap.size w w') : Cch cb mb no no w w' := Cch.keeps (Keeps.of_below h)
theorem Cch.trans {cb mb : Nat} {no n1 n2 : Option Addr} {w w1 w2 : World} (h : Cch cb mb no n1 w w1) (k : Cch cb mb n1 n2 w1 w2) : Cch cb mb no n2 w w2 :=
  ⟨k.os.trans h.os, k.tape.trans h.tape, k.output.trans h.output, Nat.le_trans h.size k.size, fun q hq hn => (k.block q (Nat.lt_of_lt_of_le hq h.size) (h.new q hq hn)).trans (h.block q hq hn), fun q hq hn => k.new q (Nat.lt_of_lt_of_le hq h.size) (h.new q hq hn)⟩
theorem Cch.put {cb mb g : Nat} {no : Option Addr} {w w' : World} (h : Keeps (Ft cb mb no) w w') (ha : Go.Proofs.YtimkkkdabmhedaaGreatDoor.At no g w.heap.size) : Cch cb mb no (some ⟨g, 0, none⟩) w w' :=
  ⟨h.os, h.tape, h.output, h.size, h.block, fun q hq hn hf => by
    rcases hf with h1 | h1 | h1
    · exact hn (.inl h1)
    · exact hn (.inr (.inl h1))
    · obtain rfl : g = q := by simpa using h1
      rcases ha with h2 | h2
      · exact hn (.inr (.inr h2))
      · omega⟩
theorem CodR.turn {w w' : World} {base g : Nat} {V : Vc} {N : List ByteArray} {kind : Int} {T : List Rg} {room : Int} {cb mb : Nat} {no no' : Option Addr} {l l' : List Row} {hits misses hits' misses' : Int} (h : CodR w base g V N kind T room cb mb no l hits misses)
    (hc : Cch cb mb no no' w w') (hr : CRep w' base w'.heap.size cb mb no' l' room hits' misses') : CodR w' base g V N kind T room cb mb no' l' hits' misses' := by
  obtain ⟨⟨S, h1, h2⟩, _⟩ := h
  exact ⟨⟨S, h1.next (fun q hq => hc.block q (h2 q hq).1.2 (h2 q hq).2) hc.size, fun q hq => ⟨⟨(h2 q hq).1.1, Nat.lt_of_lt_of_le (h2 q hq).1.2 hc.size⟩, hc.new q (h2 q hq).1.2 (h2 q hq).2⟩⟩, hr⟩
theorem CodR.below {w w' : World} {base g : Nat} {V : Vc} {N : List ByteArray} {kind : Int} {T : List Rg} {room : Int} {cb mb : Nat} {no : Option Addr} {l : List Row} {hits misses : Int} (h : CodR w base g V N kind T room cb mb no l hits misses) (hb : Below w.heap.size w w') : CodR w' base g V N kind T room cb mb no l hits misses :=
  h.turn (Cch.below hb) ((h.rep.below hb).up hb.size)
theorem CodR.cod {w : World} {base g : Nat} {V : Vc} {N : List ByteArray} {kind : Int} {T : List Rg} {room : Int} {cb mb : Nat} {no : Option Addr} {l : List Row} {hits misses : Int} (h : CodR w base g V N kind T room cb mb no l hits misses) : TCod w base g V N kind T cb := by
  obtain ⟨⟨S, h1, _⟩, _⟩ := h
  exact h1.self

set_option maxHeartbeats 1000000 in
set_option maxRecDepth 100000 in
theorem piece1_calls {V : Vc} {N : List ByteArray} {kind : Int} {T : List Rg} {base g cb b2 b5 : Nat} {A : List Int} {bo : Option Addr} {n c : Nat} (w : World) (hC : TCod w base g V N kind T cb) (hM : May V) (hS : SlB w bo n c A) (hby : ∀ y ∈ A, 0 ≤ y ∧ y < 256) (hn0 : 0 < n) (hn : n ≤ 100000)
    (h2 : w.cell? ⟨b2, 0, none⟩ = some (.pointer (some ⟨g, 0, none⟩))) (h5 : w.cell? ⟨b5, 0, none⟩ = some (.slice bo n c)) :
    Calls Tryz.prog 90 #[.pointer (some ⟨b2, 0, none⟩), .pointer (some ⟨b5, 0, none⟩)] w fun e w' => ∃ v, e = .returned v ∧ Own w' w.heap.size v (encF V A) ∧ Below w.heap.size w w' := by
  obtain ⟨lo, ta, tc, sa, sc, na, nc, ma, mc, oa, oc, eg, hx, _, _, _, _, _, hec⟩ := hC
  obtain ⟨c0, c1, c2, c3, c4, c5, c6, c7, c8, cf⟩ := box9 hx
  have HE : Hid (∀ W, Ge w W → Calls Tryz.prog 91 #[.pointer (some ⟨eg, 0, none⟩), .slice bo n c] W fun e w' => ∃ v, e = .returned v ∧ Own w' w.heap.size v (encF V A) ∧ Below w.heap.size w w') := Lib.hid (fun W hW => (encode_some W (hec.keep (fun q _ hq => hW.block q hq) hW.size) hM (Sl.below hS hW) hby hn0 hn).mono (by
    rintro e w' ⟨v, rfl, h1, h2⟩
    exact ⟨v, rfl, h1.mono hW.size, hW.below h2⟩))
  clear hx hec hS hby hM
  go_enter Tryz.func90, Tryz.ntmps90
  go_wp2_with (fail)
  go_region_with (go_at_call 91; refine (HE.out _ (by exact below_drewN (Below.refl _ _) _)).mono ?_; rintro e w2 ⟨v, rfl, ho, hb2⟩; have HO := Lib.hid ho; have HB2 := Lib.hid hb2; clear ho hb2)
  all_goals (
    go_wp2_with (fail)
    go_ret
    exact ⟨v, rfl, HO.out, HB2.out⟩)

/-- What lookup leaves. -/
def LkP (V : Vc) (w : World) (base cb mb : Nat) (no : Option Addr) (room cnt : Int) (R : List Int) (e : Ending) (w' : World) : Prop :=
  ∃ v no' l' hits' misses', e = .returned v ∧ Own w' w.heap.size v R ∧ CRep w' base w'.heap.size cb mb no' l' room hits' misses' ∧ CacheOk V l' room hits' misses' ∧ hits' + misses' = cnt + 1 ∧ Cch cb mb no no' w w'

set_option maxHeartbeats 1000000 in
set_option maxRecDepth 100000 in
theorem lookup_calls {V : Vc} {base cb mb b2 b5 : Nat} {no : Option Addr} {l : List Row} {room hits misses : Int} (key : ByteArray) (w : World) (hr : CRep w base w.heap.size cb mb no l room hits misses) (hok : CacheOk V l room hits misses) (hroom : room ≤ 1048576) (hcnt : hits + misses < 1000000) (hks : key.size ≤ 100000)
    (hF : ∀ W, Keeps (Ft cb mb no) w W → Calls Tryz.prog 90 #[.pointer (some ⟨b2, 0, none⟩), .pointer (some ⟨b5, 0, none⟩)] W fun e w' => ∃ v, e = .returned v ∧ Own w' W.heap.size v (encF V (bytesI key)) ∧ Below W.heap.size W w') :
    Calls Tryz.prog 89 #[.pointer (some ⟨cb, 0, none⟩), .string key, .func (.func 90) #[] #[.pointer (some ⟨b2, 0, none⟩), .pointer (some ⟨b5, 0, none⟩)]] w (LkP V w base cb mb no room (hits + misses) (encF V (bytesI key))) := by
  have h0 := hok.hz
  have m0 := hok.mz
  have hmx : key.size ≤ maxLen := by unfold maxLen; omega
  have hRl : (encF V (bytesI key)).length ≤ 1048576 := by have := encF_le V (bytesI key); rw [bytesI_len] at this; omega
  by_cases hin : ∃ R, (key, R) ∈ l
  · obtain ⟨R, hR⟩ := hin
    have hRR : R = encF V (bytesI key) := hok.rows _ hR
    have HG := Lib.hid (crep_hit hr (Nat.le_refl _) key R hmx hR h0 (by omega))
    have HOK := Lib.hid (hok.hit hR)
    have HRR := Lib.hid hRR
    clear hr hok hF hR hRR h0 m0
    go_enter Tryz.func89, Tryz.ntmps89
    go_wp2_with (go_at_call 118; refine HG.out.mono ?_; rintro e w1 ⟨vo, vn, vc, rfl, ho, hr1, hk1⟩; have HO := Lib.hid ho; have HR1 := Lib.hid hr1; have HK1 := Lib.hid hk1; clear ho hr1 hk1)
    refine bodyPost_ret (results_tmp rfl _ _ _) rfl ⟨.slice vo vn vc, no, young l key R, hits + 1, misses, rfl, by rw [← HRR.out]; exact HO.out, HR1.out.up HK1.out.size, HOK.out, by omega, Cch.keeps HK1.out⟩
  · have hno : ∀ p ∈ l, p.1 ≠ key := fun p hp e => hin ⟨p.2, by rw [← e]; exact hp⟩
    have HG := Lib.hid (crep_miss hr (Nat.le_refl _) key hmx hno m0 (by omega))
    have HF := Lib.hid hF
    have HFT := Lib.hid hr.ft
    by_cases hz : room = 0
    · subst hz
      have HOK := Lib.hid hok.missed
      clear hr hok hF hin hno h0 m0
      go_enter Tryz.func89, Tryz.ntmps89
      go_wp2_with (first
        | (go_at_call 118; refine HG.out.mono ?_; rintro e w1 ⟨rfl, hr1, hk1⟩; have HR1 := Lib.hid hr1; have HK1 := Lib.hid hk1; clear hr1 hk1)
        | (go_at_call 90; refine (HF.out _ HK1.out).mono ?_; rintro e w2 ⟨v, rfl, ho, hb2⟩; obtain ⟨vo, vc, rfl, _⟩ := ho.sl; have HO := Lib.hid ho; have HB2 := Lib.hid hb2; clear ho hb2)
        | (go_at_call 119; refine (crep_zero ((HR1.out.up HK1.out.size).below HB2.out) key _ _ _).mono ?_; rintro e w3 ⟨rfl, hb3⟩; have HB3 := Lib.hid hb3; clear hb3))
      go_ret
      exact ⟨_, no, l, hits, misses + 1, rfl, (HO.out.below HB3.out).mono HK1.out.size, (((HR1.out.up HK1.out.size).below HB2.out).up HB2.out.size |>.below HB3.out).up HB3.out.size, HOK.out, by omega, ((Cch.keeps HK1.out).trans (Cch.below HB2.out)).trans (Cch.below HB3.out)⟩
    · have hrp : 0 < room := by have := hok.rm; omega
      have HOK := Lib.hid (hok.put (k := key) hrp)
      have HLL : Hid ((l.length : Int) ≤ room ∧ l.length < 1048576) := Lib.hid ⟨hok.rm, by have := hok.ms; omega⟩
      clear hr hok hF hin hno h0 m0
      go_enter Tryz.func89, Tryz.ntmps89
      go_wp2_with (first
        | (go_at_call 118; refine HG.out.mono ?_; rintro e w1 ⟨rfl, hr1, hk1⟩; have HR1 := Lib.hid hr1; have HK1 := Lib.hid hk1; clear hr1 hk1)
        | (go_at_call 90; refine (HF.out _ HK1.out).mono ?_; rintro e w2 ⟨v, rfl, ho, hb2⟩; obtain ⟨vo, vc, rfl, hsl⟩ := ho.sl; have HO := Lib.hid ho; have HB2 := Lib.hid hb2; have HSL := Lib.hid hsl; clear ho hb2 hsl)
        | (go_at_call 119; refine (crep_put (((HR1.out.up HK1.out.size).below HB2.out).up HB2.out.size) key hmx hrp hroom HLL.out.1 HLL.out.2 HSL.out (fun ad e h0 => by
            subst e
            obtain ⟨k1, k2⟩ := World.ownsRow.lt HO.out ad.block (by obtain ⟨vb, e⟩ := own_at0 HO.out h0; obtain ⟨c', e⟩ := e; rw [e]; cases e; rfl)
            exact ⟨k2, fun hf => by have := (HFT.out _ hf).2; have := HK1.out.size; omega⟩) hRl).mono ?_; rintro e w3 ⟨rfl, gg, hr3, hk3, hat3⟩; have HR3 := Lib.hid hr3; have HK3 := Lib.hid hk3; have HAT3 := Lib.hid hat3; clear hr3 hk3 hat3))
      go_ret
      refine ⟨_, some ⟨gg, 0, none⟩, _, hits, misses + 1, rfl, ?_, HR3.out, HOK.out, by omega, ((Cch.keeps HK1.out).trans (Cch.below HB2.out)).trans (Cch.put HK3.out HAT3.out)⟩
      refine Own.mono (own_stay HO.out (fun q hq => ?_)) HK1.out.size
      obtain ⟨k1, k2⟩ := World.ownsRow.lt HO.out q hq
      exact HK3.out.block q k2 (fun hf => by have := (HFT.out _ hf).2; have := HK1.out.size; omega)

end Go.Proofs.YtimkkkdabmhedaaGreatDoor
