/- Walks: the coder of texts: Piece. -/
import Derived.Test.YtimkkkdabmhedaaGreatDoorB49
import Derived.LoopN
import Derived.Test.YtimkkkdabmhedaaGreatDoorB8
namespace Go.Proofs.YtimkkkdabmhedaaGreatDoor
open Go.RowKit
set_option linter.unusedVariables false

/-- A coder with its cache, in use. -/
structure TxV (w : World) (base g : Nat) (V : Vc) (N : List ByteArray) (kind : Int) (T : List Rg) (room : Int) (cb mb : Nat) (no : Option Addr) (cnt : Int) (hit0 : Prop) : Prop where
  ex : ∃ l hits misses, CodR w base g V N kind T room cb mb no l hits misses ∧ CacheOk V l room hits misses ∧ hits + misses = cnt ∧ (hit0 → room = 0 → hits = 0)
theorem TxV.below {w w' : World} {base g : Nat} {V : Vc} {N : List ByteArray} {kind : Int} {T : List Rg} {room : Int} {cb mb : Nat} {no : Option Addr} {cnt : Int} {h0 : Prop} (h : TxV w base g V N kind T room cb mb no cnt h0) (hb : Below w.heap.size w w') : TxV w' base g V N kind T room cb mb no cnt h0 := by
  obtain ⟨l, hits, misses, h1, h2, h3, h4⟩ := h
  exact ⟨l, hits, misses, h1.below hb, h2, h3, h4⟩
theorem TxV.cod {w : World} {base g : Nat} {V : Vc} {N : List ByteArray} {kind : Int} {T : List Rg} {room : Int} {cb mb : Nat} {no : Option Addr} {cnt : Int} {h0 : Prop} (h : TxV w base g V N kind T room cb mb no cnt h0) : TCod w base g V N kind T cb := by
  obtain ⟨l, hits, misses, h1, h2, h3, h4⟩ := h
  exact h1.cod
theorem TxV.ft {w : World} {base g : Nat} {V : Vc} {N : List ByteArray} {kind : Int} {T : List Rg} {room : Int} {cb mb : Nat} {no : Option Addr} {cnt : Int} {h0 : Prop} (h : TxV w base g V N kind T room cb mb no cnt h0) : ∀ q, Ft cb mb no q → base ≤ q ∧ q < w.heap.size := by
  obtain ⟨l, hits, misses, h1, h2, h3, h4⟩ := h
  exact h1.rep.ft
/-- A new coder's cache. -/
theorem TxV.new {w : World} {base g : Nat} {V : Vc} {N : List ByteArray} {kind : Int} {T : List Rg} {room : Int} {cb mb : Nat} (h : CodR w base g V N kind T room cb mb none [] 0 0) (h0 : 0 ≤ room) : TxV w base g V N kind T room cb mb none 0 True :=
  ⟨[], 0, 0, h, ⟨fun p hp => (by cases hp), by simpa using h0, by simp, by omega, by omega, fun _ => ⟨rfl, rfl⟩⟩, rfl, fun _ _ => rfl⟩

theorem pieceF_mark {V : Vc} {N : List ByteArray} {x : Int} (hc : checkF V N [x] = 0) (hx : 256 ≤ x) : pieceF V N [x] = [markAt V N x] := by
  unfold pieceF
  rw [if_neg (by simp [hc]), if_pos ⟨rfl, hx⟩]; rfl
theorem pieceF_bytes {V : Vc} {N : List ByteArray} {A : List Int} (hc : checkF V N A = 0) (hA : A ≠ []) (hb : ∀ y ∈ A, 0 ≤ y ∧ y < 256) : pieceF V N A = encF V A := by
  unfold pieceF
  rw [if_neg (by simp [hc, hA]), if_neg, if_pos]
  · rw [List.all_eq_true]; intro y hy; exact isB_iff.2 (hb y hy)
  · rintro ⟨h1, h2⟩
    have h3 : ix A 0 ∈ A := List.mem_of_getElem? (ix_eq (by omega))
    have := hb _ h3
    omega
/-- How many pieces of bytes. -/
def isBy (A : List Int) : Int := if A.all isB = true then 1 else 0
theorem isBy_bytes {A : List Int} (hb : ∀ y ∈ A, 0 ≤ y ∧ y < 256) : isBy A = 1 := by
  unfold isBy; rw [if_pos]; rw [List.all_eq_true]; intro y hy; exact isB_iff.2 (hb y hy)
theorem isBy_mark {x : Int} (hx : 256 ≤ x) : isBy [x] = 0 := by
  unfold isBy; rw [if_neg]; simp [isB]; omega

theorem ownB_at0 {w : World} {base : Nat} {v : Value} {A : List Int} (h : w.ownsRow base 5 1 v A.length (A.map (.int .u8))) (hn : 0 < A.length) : ∃ gb cap, v = .slice (some ⟨gb, 0, none⟩) A.length cap ∧ base ≤ gb ∧ gb < w.heap.size ∧ SlB w (some ⟨gb, 0, none⟩) A.length cap A := by
  have hlt := World.ownsRow.lt h
  obtain ⟨ao, c, e, hs⟩ := Sl.of_own h
  obtain ⟨h1, h2⟩ := h
  rcases h2 with ⟨_, h3⟩ | ⟨gb, cap, cur, hv, _⟩
  · omega
  · subst hv
    obtain ⟨rfl, _, rfl⟩ := Value.slice.inj e
    obtain ⟨k1, k2⟩ := hlt gb rfl
    exact ⟨gb, cap, rfl, k1, k2, hs⟩
theorem CodR.codK {w w' : World} {base g : Nat} {V : Vc} {N : List ByteArray} {kind : Int} {T : List Rg} {room : Int} {cb mb : Nat} {no : Option Addr} {l : List Row} {hits misses : Int} (h : CodR w base g V N kind T room cb mb no l hits misses) (hk : Keeps (Ft cb mb no) w w') : TCod w' base g V N kind T cb := by
  obtain ⟨⟨S, h1, h2⟩, _⟩ := h
  exact h1 w' (fun q hq => hk.block q (h2 q hq).1.2 (h2 q hq).2) hk.size
/-- What Piece leaves. -/
def PcP (w : World) (base g : Nat) (V : Vc) (N : List ByteArray) (kind : Int) (T : List Rg) (room : Int) (cb mb : Nat) (no : Option Addr) (cnt : Int) (h0 : Prop) (R : List Int) (d : Int) (e : Ending) (w' : World) : Prop :=
  ∃ v no', e = .returned v ∧ Own w' w.heap.size v R ∧ TxV w' base g V N kind T room cb mb no' (cnt + d) h0 ∧ Cch cb mb no no' w w'

set_option maxHeartbeats 2000000 in
set_option maxRecDepth 100000 in
theorem piece_mark {V : Vc} {N : List ByteArray} {kind : Int} {T : List Rg} {base g cb mb : Nat} {room : Int} {no : Option Addr} {cnt x : Int} {h0 : Prop} {ao : Option Addr} {c : Nat} (w : World) (h : TxV w base g V N kind T room cb mb no cnt h0) (hN : N.length ≤ 16) (hA : SlI w ao 1 c [x]) (hx : 256 ≤ x) (hc : checkF V N [x] = 0) :
    Calls Tryz.prog 59 #[.pointer (some ⟨g, 0, none⟩), .slice ao 1 c] w (PcP w base g V N kind T room cb mb no cnt h0 (pieceF V N [x]) (isBy [x])) := by
  obtain ⟨w0, hw0⟩ : ∃ w0, w.alloc (.cells #[.pointer (some ⟨g, 0, none⟩)] 32) = w0 := ⟨_, rfl⟩
  have hb0 : Below w.heap.size w w0 := hw0 ▸ below_alloc w _
  have hx0 : w0.heap[w.heap.size]? = some (.cells #[.pointer (some ⟨g, 0, none⟩)] 32) := by rw [← hw0]; exact heap_alloc_new w _
  have z0 : w0.cell? ⟨w.heap.size, 0, none⟩ = some (.pointer (some ⟨g, 0, none⟩)) := by simp [World.cell?, hx0]
  have hV := h.below hb0
  have hCk := check_calls w0 hV.cod hN (hA.below hb0) (by omega)
  rw [hc] at hCk
  obtain ⟨lo, ta, tc, sa, sc, na, nc, ma, mc, oa, oc, eg, hbx, _, _, _, hom, _⟩ := hV.cod
  obtain ⟨c0, c1, c2, c3, c4, c5, c6, c7, c8, cf⟩ := box9 hbx
  obtain ⟨mo, mcap, e0, hsm⟩ := hom.sl
  have hml := marksOf_len V.specials N
  rw [hml] at e0 hsm
  obtain ⟨rfl, _, rfl⟩ := Value.slice.inj e0
  have hfx : faultF V N x = 0 := by
    have := checkF_all.1 hc x (by simp)
    exact this
  have hxl : x < 256 + (N.length : Int) := by
    rcases Int.lt_or_le x (256 + (N.length : Int)) with h1 | h1
    · exact h1
    · unfold faultF at hfx; rw [if_pos (.inr h1)] at hfx; cases hfx
  obtain ⟨k, hk⟩ : ∃ k : Nat, x - 256 = k := ⟨(x - 256).toNat, by omega⟩
  have q2 : IntKind.i64.wrap (x - 256) = (k : Int) := by rw [IntKind.wrap_i64]; omega
  have gk : (k : Int) < (N.length : Int) := by omega
  have gk0 : (0 : Int) ≤ (k : Int) := by omega
  obtain ⟨bm, om, hmo, hcm⟩ := hsm.at_ (i := k) (by omega)
  subst hmo
  obtain ⟨v, hv⟩ : ∃ v, ix (marksOf V.specials N) k = v := ⟨_, rfl⟩
  rw [hv] at hcm
  have hmk : markAt V N x = v := by unfold markAt; rw [hk, Int.toNat_natCast, hv]
  have HP : Hid (pieceF V N [x] = [v]) := Lib.hid (by rw [pieceF_mark hc hx, hmk])
  obtain ⟨b, o, hao, hca⟩ := (hA.below hb0).at_ (i := 0) (by omega)
  subst hao
  have ha0 : w0.cell? ⟨b, o, none⟩ = some (.int .i64 x) := by simpa [ix] using hca
  have gx : decide ((256 : Int) ≤ x) = true := by simpa using hx
  have HCK := Lib.hid hCk
  have HB0 := Lib.hid hb0
  have HW0 := Lib.hid hw0
  have HV := Lib.hid hV
  have HX := Lib.hid hx
  clear h hA hc hbx hom hsm e0 hml hfx hv hmk hca hw0 hb0 hx0 hCk hV hx
  go_enter Tryz.func59, Tryz.ntmps59
  go_wp2_with (fail)
  rw [HW0.out]
  go_wp2_with (go_at_call 33; refine HCK.out.mono ?_; rintro e w1 ⟨rfl, rfl⟩)
  go_region
  all_goals (
    go_wp2_with (fail)
    refine bodyPost_ret (results_tmp rfl _ _ _) rfl ⟨_, no, rfl, by rw [HP.out]; exact Own.mono (own_one _ v) HB0.out.size, by rw [isBy_mark HX.out, Int.add_zero]; exact HV.out.below (by exact belowA rfl rfl rfl rfl), Cch.below (HB0.out.trans (Below.mono (by exact belowA rfl rfl rfl rfl) HB0.out.size))⟩)

theorem Keeps.cell {S : Nat → Prop} {w w' : World} (h : Keeps S w w') {p : Addr} {u : Value} (hc : w.cell? p = some u) (hn : ¬ S p.block) : w'.cell? p = some u := by
  rw [World.cell?_of_block (w := w) (h.block _ (World.block_lt_of_cell? w p hc) hn)]; exact hc

set_option maxHeartbeats 1000000 in
set_option maxRecDepth 100000 in
theorem piece_bytes {V : Vc} {N : List ByteArray} {kind : Int} {T : List Rg} {base g cb mb : Nat} {room : Int} {no : Option Addr} {cnt : Int} {h0 : Prop} {A : List Int} {ao : Option Addr} {n c : Nat} (w : World) (h : TxV w base g V N kind T room cb mb no cnt h0) (hM : May V) (hN : N.length ≤ 16) (hr : room ≤ 1048576)
    (hA : SlI w ao n c A) (hn0 : 0 < n) (hn : n ≤ 100000) (hb : ∀ y ∈ A, 0 ≤ y ∧ y < 256) (hc : checkF V N A = 0) (hcnt : cnt < 1000000) :
    Calls Tryz.prog 59 #[.pointer (some ⟨g, 0, none⟩), .slice ao n c] w (PcP w base g V N kind T room cb mb no cnt h0 (pieceF V N A) (isBy A)) := by
  obtain ⟨w0, hw0⟩ : ∃ w0, w.alloc (.cells #[.pointer (some ⟨g, 0, none⟩)] 32) = w0 := ⟨_, rfl⟩
  have hb0 : Below w.heap.size w w0 := hw0 ▸ below_alloc w _
  have hx0 : w0.heap[w.heap.size]? = some (.cells #[.pointer (some ⟨g, 0, none⟩)] 32) := by rw [← hw0]; exact heap_alloc_new w _
  have hz0 : w.heap.size < w0.heap.size := by rw [← hw0]; simp
  have z0 : w0.cell? ⟨w.heap.size, 0, none⟩ = some (.pointer (some ⟨g, 0, none⟩)) := by simp [World.cell?, hx0]
  have hV := h.below hb0
  have hA0 := hA.below hb0
  have hAl := hA.len
  have hCk := check_calls w0 hV.cod hN hA0 (by omega)
  rw [hc] at hCk
  have hne : A ≠ [] := fun e => by rw [e] at hAl; simp at hAl; omega
  have HP : Hid (pieceF V N A = encF V A) := Lib.hid (pieceF_bytes hc hne hb)
  have HBY : Hid (isBy A = 1) := Lib.hid (isBy_bytes hb)
  obtain ⟨b, o, hao, hca⟩ := hA0.at_ (i := 0) hn0
  subst hao
  obtain ⟨x, hx⟩ : ∃ x, ix A 0 = x := ⟨_, rfl⟩
  rw [hx] at hca
  have hxb := hb x (by rw [← hx]; exact List.mem_of_getElem? (ix_eq (by omega)))
  have ha0 : w0.cell? ⟨b, o, none⟩ = some (.int .i64 x) := by simpa using hca
  have gx : decide ((256 : Int) ≤ x) = false := by simp; omega
  have gn0 : ((n : Int) == 0) = false := by simp; omega
  have HBT := Lib.hid (bytes13_calls w0 hA0 (fun y hy => isB_iff.2 (hb y hy)) (by omega))
  have HCK := Lib.hid hCk
  have HB0 := Lib.hid hb0
  have HW0 := Lib.hid hw0
  have HX0 := Lib.hid hx0
  have HV := Lib.hid hV
  have HY := Lib.hid hb
  have HFT := Lib.hid h.ft
  have HAL := Lib.hid hAl
  have HM := Lib.hid hM
  clear h hA hA0 hc hca hw0 hb0 hx0 hCk hV hx hAl hne hxb hb hM
  go_enter Tryz.func59, Tryz.ntmps59
  go_wp2_with (fail)
  rw [HW0.out]
  go_wp2_with (go_at_call 33; refine HCK.out.mono ?_; rintro e w1 ⟨rfl, rfl⟩)
  all_goals (
    go_at_call 88
    refine HBT.out.mono ?_
    rintro e w2 ⟨⟨v, rfl, ho⟩, hb2⟩
    obtain ⟨gb, bc, rfl, hgb, hgl, hsl⟩ := ownB_at0 ho (by have := HAL.out; omega)
    obtain ⟨W3, hW3⟩ : ∃ W3, w2.alloc (.cells #[.slice (some ⟨gb, 0, none⟩) A.length bc] 121) = W3 := ⟨_, rfl⟩
    have hb3 : Below w2.heap.size w2 W3 := hW3 ▸ below_alloc w2 _
    have hx3 : W3.heap[w2.heap.size]? = some (.cells #[.slice (some ⟨gb, 0, none⟩) A.length bc] 121) := by rw [← hW3]; exact heap_alloc_new w2 _
    have hx2 : W3.heap[w.heap.size]? = some (.cells #[.pointer (some ⟨g, 0, none⟩)] 32) := (hb3.block _ (Nat.lt_of_lt_of_le hz0 hb2.size)).trans ((hb2.block _ hz0).trans HX0.out)
    have HB3 : Hid (Below w0.heap.size w0 W3) := Lib.hid (hb2.trans (hb3.mono hb2.size))
    have hft3 : ∀ q, w.heap.size ≤ q → ¬ Ft cb mb no q := fun q hq hf => by have := (HFT.out q hf).2; omega
    have hs02 : w.heap.size ≤ w2.heap.size := Nat.le_trans (Nat.le_of_lt hz0) hb2.size
    have hcv : ∀ W, Keeps (Ft cb mb no) W3 W → (convert 121 9 (.slice (some ⟨gb, 0, none⟩) A.length bc)).run Tryz.prog W = .ok (.string (keyB A)) W := fun W hW => conv_bytes (slB_other (Sl.below hsl hb3) (fun ad e => by
      obtain rfl : ad = ⟨gb, 0, none⟩ := (Option.some.inj e).symm
      exact hW.block gb (Nat.lt_of_lt_of_le hgl hb3.size) (hft3 gb (Nat.le_trans (Nat.le_of_lt hz0) hgb)))) (by have := HAL.out; omega)
    have HLK : Hid (∀ W, Ge W3 W → Calls Tryz.prog 89 #[.pointer (some ⟨cb, 0, none⟩), .string (keyB A), .func (.func 90) #[] #[.pointer (some ⟨w.heap.size, 0, none⟩), .pointer (some ⟨w2.heap.size, 0, none⟩)]] W (fun e w' => PcP w base g V N kind T room cb mb no cnt h0 (encF V A) 1 e w' ∧ Keeps (Ft cb mb no) W3 w')) := Lib.hid (fun W hW => by
      have hV3 := (HV.out.below HB3.out).below hW
      obtain ⟨l, hits, misses, hcr, hok, hsum, hh0⟩ := hV3.ex
      have hft : ∀ q, Ft cb mb no q → q < w.heap.size := fun q hq => (HFT.out q hq).2
      have hs2 := hb2.size
      have hsW := hW.size
      have hs3 := hb3.size
      have hsz3 : w2.heap.size < W3.heap.size := (Array.getElem?_eq_some_iff.1 hx3).1
      refine (lookup_calls (keyB A) W hcr.rep hok hr (by omega) (by rw [keyB_size HY.out]; have := HAL.out; omega) (fun W' hk => ?_)).mono ?_
      · rw [keyB_bytes HY.out]
        have k2 : W'.heap[w.heap.size]? = some (.cells #[.pointer (some ⟨g, 0, none⟩)] 32) := (hk.block _ (by omega) (fun hf => by have := hft _ hf; omega)).trans ((hW.block _ (by omega)).trans hx2)
        have k5 : W'.heap[w2.heap.size]? = some (.cells #[.slice (some ⟨gb, 0, none⟩) A.length bc] 121) := (hk.block _ (by omega) (fun hf => by have := hft _ hf; omega)).trans ((hW.block _ (by omega)).trans hx3)
        refine piece1_calls W' (hcr.codK hk) HM.out (slB_other (Sl.below (Sl.below hsl hb3) hW) (fun ad e => ?_)) HY.out (by have := HAL.out; omega) (by have := HAL.out; omega) (by simp [World.cell?, k2]) (by simp [World.cell?, k5])
        obtain rfl : ad = ⟨gb, 0, none⟩ := (Option.some.inj e).symm
        exact hk.block gb (by omega) (fun hf => by have := hft _ hf; omega)
      · rintro e w' ⟨v, no', l', hits', misses', rfl, hown, hrep, hok', hsum', hcch⟩
        rw [keyB_bytes HY.out] at hown
        have hsz : w.heap.size ≤ W.heap.size := by omega
        exact ⟨⟨v, no', rfl, hown.mono hsz, ⟨l', hits', misses', hcr.turn hcch hrep, hok', by omega, fun _ e => (hok'.zr e).1⟩, ((Cch.below HB0.out).trans (Cch.below HB3.out)).trans ((Cch.below hW).trans hcch)⟩, (Keeps.of_below hW).trans ⟨hcch.os, hcch.tape, hcch.output, hcch.size, hcch.block⟩⟩)
    have z2 : W3.cell? ⟨w.heap.size, 0, none⟩ = some (.pointer (some ⟨g, 0, none⟩)) := by simp [World.cell?, hx2]
    have z5 : W3.cell? ⟨w2.heap.size, 0, none⟩ = some (.slice (some ⟨gb, 0, none⟩) A.length bc) := by simp [World.cell?, hx3]
    have HW3 := Lib.hid hW3
    have G2 := fun w' (hg : Keeps (Ft cb mb no) W3 w') => hg.cell z2 (hft3 _ (Nat.le_refl _))
    have G5 := fun w' (hg : Keeps (Ft cb mb no) W3 w') => hg.cell z5 (hft3 _ hs02)
    have G8 : ∀ w', Keeps (Ft cb mb no) W3 w' → w'.cell? ⟨g, 8, none⟩ = some (.pointer (some ⟨cb, 0, none⟩)) := fun w' hg => by
      obtain ⟨l, hits, misses, hcr, _⟩ := (HV.out.below HB3.out).ex
      obtain ⟨_, _, _, _, _, _, _, _, _, _, _, _, hbx', _⟩ := hcr.codK hg
      exact (box9 hbx').2.2.2.2.2.2.2.2.1
    have gr := Keeps.refl (Ft cb mb no) W3
    clear hW3 hb3 hx3 hx2 ho hb2 hgb hgl hsl z0 ha0 z2 z5 hft3 hs02
    go_wp2_with (fail)
    rw [HW3.out]
    go_region_held3 (Keeps (Ft cb mb no) W3) (first | (with_reducible assumption) | (with_reducible refine Keeps.drew ?_; with_reducible assumption) | (with_reducible refine Keeps.drewN ?_ _; with_reducible assumption)) ((go_at_call 89; refine (HLK.out _ (by exact below_drewN (Below.refl _ _) _)).mono ?_; rintro e w9 ⟨⟨v9, no9, rfl, ho9, hV9, hc9⟩, hk9⟩; have HO9 := Lib.hid ho9; have HV9 := Lib.hid hV9; have HC9 := Lib.hid hc9; clear ho9 hV9 hc9))
    all_goals (
      go_wp2_with (fail)
      go_ret
      exact ⟨v9, no9, rfl, by rw [HP.out]; exact HO9.out, by rw [HBY.out]; exact HV9.out, HC9.out⟩))

end Go.Proofs.YtimkkkdabmhedaaGreatDoor

/- Walk: the coder of texts: Encode at a byte and a mark. -/
namespace Go.Proofs.YtimkkkdabmhedaaGreatDoor
open Go.RowKit
set_option linter.unusedVariables false

/-- 'append(s, t...)' of rows of numbers. -/
theorem wpList_ints_lies {w : World} {ops : Array Oper} {rest : List Oper} {o : Oper} {a : Act} {Q : Exit → Act → World → Prop} (hgd : o.guard = none) (s x : Operand)
    (ho : o.op = .call { callee := .builtin .append, args := #[s, x], argTypes := #[43, 43] })
    {base b m c k : Nat} {v : Value} {A R : List Int} (hs : a.eval s = v) (hown : Own w base v A) (hk : A.length = k) (hx : a.eval x = .slice (some ⟨b, 0, none⟩) m c)
    (hl : SlI w (some ⟨b, 0, none⟩) m c R) (hm0 : 0 < m) (hm : k + m < 1048576) (hbase : base ≤ w.heap.size)
    (hK : ∀ g cap' w', Own w' base (.slice (some ⟨g, 0, none⟩) (k + m) cap') (A ++ R) → w.grownBy w' v.ownBlock → (v.ownBlock = some g ∨ g = w.heap.size) → wpList Tryz.prog ops Q rest (a.put o.dst (.slice (some ⟨g, 0, none⟩) (k + m) cap')) w') :
    wpList Tryz.prog ops Q (o :: rest) a w := by
  obtain ⟨i0, hi0, hz0, hz1, hz2⟩ := info_parts infoInt3
  subst hk
  have hRl := hl.len
  refine wpList_append_lies (P := Tryz.prog) (w := w) hgd s x 43 ho base 3 i0 _ 1 8 Tryz.underlying43 hi0 hz0 hz1 hz2 rfl (by omega) _ A.length _ hs hown ⟨b, 0, none⟩ m c (R.map (.int .i64)) hx (by rw [List.length_map]; omega)
    (fun j u hu => ?_) (int_one R) hm0 (by unfold maxLen; omega) (by omega) hbase w.heap.size rfl ?_
  · obtain ⟨b', o', e, hc⟩ := Sl.at_ hl j u hu
    simp only [Option.some.injEq, Addr.mk.injEq, and_true] at e
    obtain ⟨rfl, rfl⟩ := e
    rw [Addr.add_lit]; exact hc
  · intro g cap' w' ho' hgr hat hlt
    refine hK g cap' w' ?_ hgr hat
    unfold Own
    rw [List.length_append, List.map_append, hRl]
    exact ho'

theorem two_sl {w : World} {tb : Nat} {x m : Int} {t : TypeId} (h : w.heap[tb]? = some (.cells #[.int .i64 x, .int .i64 m] t)) : SlI w (some ⟨tb, 0, none⟩) 2 2 [x, m] := by
  refine ⟨rfl, Nat.le_refl _, by unfold maxLen; omega, fun h => (by cases h), fun i u hu => ⟨tb, 0, rfl, ?_⟩⟩
  match i, hu with
  | 0, hu => simp at hu; subst hu; simp [World.cell?, h]
  | 1, hu => simp at hu; subst hu; simp [World.cell?, h]
  | i + 2, hu => simp at hu
theorem one_sl0 {w : World} {tb : Nat} {x m : Int} {t : TypeId} (h : w.heap[tb]? = some (.cells #[.int .i64 x, .int .i64 m] t)) : SlI w (some ⟨tb, 0, none⟩) 1 2 [x] := (two_sl h).take (k := 1) (by omega)
theorem Cch.base {cb mb base : Nat} {no no' : Option Addr} {w w' : World} (h : Cch cb mb no no' w w') (hf : ∀ q, Ft cb mb no q → base ≤ q) (hb : base ≤ w.heap.size) : Below base w w' :=
  ⟨h.os, h.tape, h.output, h.size, fun q hq => h.block q (by omega) (fun e => by have := hf q e; omega)⟩

theorem low_sl {tb : Nat} {x m : Int} {bo' : Option Addr} (h : ∀ (W : World) (vs : List Value), Sl W (some ⟨tb, 0, none⟩) 2 2 vs → Sl W bo' (2 - 1) (2 - 1) (vs.drop 1)) : ∀ W : World, W.heap[tb]? = some (.cells #[.int .i64 x, .int .i64 m] 3) → SlI W bo' 1 1 [m] := fun W hW => h W ([x, m].map (.int .i64)) (two_sl hW)

set_option maxHeartbeats 2000000 in
set_option maxRecDepth 100000 in
theorem tencode_fix {V : Vc} {N : List ByteArray} {kind : Int} {T : List Rg} {base g cb mb tb : Nat} {room : Int} {no : Option Addr} {cnt x m : Int} {h0 : Prop} {d1 d2 : Bool} (w : World) (h : TxV w base g V N kind T room cb mb no cnt h0) (hM : May V) (hN : N.length ≤ 16) (hT : MayTab T) (hk0 : 0 ≤ kind) (hk3 : kind ≤ 3) (hr : room ≤ 1048576) (hcnt : cnt < 999999)
    (htx : w.heap[tb]? = some (.cells #[.int .i64 x, .int .i64 m] 3)) (htb : ¬ Ft cb mb no tb) (hx : 0 ≤ x ∧ x < 256) (hm : 256 ≤ m) (hc : checkF V N [x, m] = 0) (hs : splitF kind T [x, m] true = [(1, d1), (1, d2)]) :
    Calls Tryz.prog 17 #[.pointer (some ⟨g, 0, none⟩), .slice (some ⟨tb, 0, none⟩) 2 2] w fun e w' => ∃ v, e = .returned (.tuple #[v, .int .i64 0]) ∧ Own w' w.heap.size v [ofT V.tokens (one x.toNat), markAt V N m] ∧ Below base w w' := by
  obtain ⟨tok, htok⟩ : ∃ t, ofT V.tokens (one x.toNat) = t := ⟨_, rfl⟩
  obtain ⟨mk, hmk⟩ : ∃ t, markAt V N m = t := ⟨_, rfl⟩
  rw [htok, hmk]
  have HTOK := Lib.hid htok
  have HMK := Lib.hid hmk
  clear htok hmk
  have hCk := check_calls w h.cod hN (two_sl htx) (by omega)
  rw [hc] at hCk
  have hSp := tsplit_calls true w h.cod (two_sl htx) (by omega) hT hk0 hk3
  rw [hs] at hSp
  have HCK := Lib.hid hCk
  have HSP := Lib.hid hSp
  have HV := Lib.hid h
  have HTX := Lib.hid htx
  have HTB := Lib.hid htb
  have hcx : checkF V N [x] = 0 := checkF_all.2 (fun s hs => checkF_all.1 hc s (by simp at hs; simp [hs]))
  have hcm : checkF V N [m] = 0 := checkF_all.2 (fun s hs => checkF_all.1 hc s (by simp at hs; simp [hs]))
  have HCX := Lib.hid hcx
  have HCM := Lib.hid hcm
  have HX := Lib.hid hx
  have HM := Lib.hid hm
  have HMY := Lib.hid hM
  clear h htx htb hc hs hCk hSp hcx hcm hx hm hM
  go_enter Tryz.func17, Tryz.ntmps17
  go_wp2_with (go_at_call 33; refine HCK.out.mono ?_; rintro e w1 ⟨rfl, rfl⟩)
  go_at_call 18
  refine HSP.out.mono ?_
  rintro e w1 ⟨⟨pv, rfl, ho⟩, hb1⟩
  obtain ⟨pb, pc, hpv, hpb, hpl⟩ := OwnF.at0 ho (by simp)
  have hpv2 : pv = .slice (some ⟨pb, 0, none⟩) 2 pc := hpv
  clear hpv
  subst hpv2
  obtain ⟨pa, pc', e1, hps⟩ := ho.sl
  obtain ⟨rfl, -, rfl⟩ := Value.slice.inj e1
  obtain ⟨pb', po, hpa, hp0⟩ := hps.elem pcEnc_len (by omega) (k := 0) (x := (1, d1)) rfl
  obtain ⟨pb'', po', hpa', hp1⟩ := hps.elem pcEnc_len (by omega) (k := 1) (x := (1, d2)) rfl
  simp only [Option.some.injEq, Addr.mk.injEq, and_true] at hpa hpa'
  obtain ⟨rfl, rfl⟩ := hpa
  obtain ⟨rfl, rfl⟩ := hpa'
  have p0 := hp0 0 _ rfl
  have p1 := hp0 1 _ rfl
  have p2 := hp1 0 _ rfl
  have p3 := hp1 1 _ rfl
  simp only [Nat.zero_mul, Nat.add_zero, Nat.one_mul, Nat.zero_add] at p0 p1 p2 p3
  have hfw := HV.out.ft
  have hbw : base ≤ w.heap.size := by have := hfw cb (.inl rfl); omega
  have HPB : Hid (w.heap.size ≤ pb ∧ pb < w1.heap.size) := Lib.hid ⟨hpb, hpl⟩
  have HFW := Lib.hid hfw
  have HBW := Lib.hid hbw
  have HB1 := Lib.hid hb1
  have hV1 := HV.out.below hb1
  have hB2 := below_alloc w1 (.cells #[.int .i64 1, .bool d1] 51)
  have htl : tb < w.heap.size := (Array.getElem?_eq_some_iff.1 HTX.out).1
  have HTL := Lib.hid htl
  have ht1 := (hb1.block tb htl).trans HTX.out
  obtain ⟨W2, hW2⟩ : ∃ W2, w1.alloc (.cells #[.int .i64 1, .bool d1] 51) = W2 := ⟨_, rfl⟩
  have HW2 := Lib.hid hW2
  rw [hW2] at hB2
  have HV2 := Lib.hid (hV1.below hB2)
  have HT2 := Lib.hid ((hB2.block tb (Nat.lt_of_lt_of_le htl hb1.size)).trans ht1)
  have HB2 := Lib.hid hB2
  have HP2 := Lib.hid p2
  have HP3 := Lib.hid p3
  have HS2 : Hid (w1.heap.size < W2.heap.size) := Lib.hid (by rw [← hW2]; simp)
  have HPC := Lib.hid (piece_bytes W2 HV2.out HMY.out hN hr (one_sl0 HT2.out) (by omega) (by omega) (fun y hy => by simp at hy; subst hy; exact HX.out) HCX.out (by omega))
  clear ho e1 hps hp0 hp1 hV1 hB2 ht1 hW2 hpb hpl hfw hbw hb1 htl p2 p3
  go_wp2_with (fail)
  refine wp_loop_rounds 3 ?_
  rw [rounds_succ]
  go_wp2_with (fail)
  rw [HW2.out]
  go_at_call 59
  refine HPC.out.mono ?_
  rintro e w3 ⟨v3, no3, rfl, ho3, hV3, hc3⟩
  have hpf : pieceF V N [x] = [tok] := by rw [pieceF_bytes HCX.out (by simp) (fun y hy => by simp at hy; subst hy; exact HX.out), encF_one, HTOK.out]
  rw [hpf] at ho3
  obtain ⟨rb, rc, hv3⟩ := own_at0 ho3 (by simp)
  have hv3' : v3 = .slice (some ⟨rb, 0, none⟩) 1 rc := hv3
  clear hv3
  subst hv3'
  obtain ⟨ra, rc', e3, hsl3⟩ := ho3.sl
  obtain ⟨rfl, -, rfl⟩ := Value.slice.inj e3
  have hft2 : ∀ q, w.heap.size ≤ q → ¬ Ft cb mb no q := fun q hq hf => by have := (HFW.out q hf).2; omega
  have hw1 := HB1.out.size
  have h9 : w3.cell? ⟨w1.heap.size, 0, none⟩ = some (.int .i64 1) := by
    have hh := hc3.block w1.heap.size HS2.out (hft2 _ hw1)
    rw [World.cell?_of_block (w := W2) hh, ← HW2.out]
    simp
  have hs3 : W2.heap.size ≤ w3.heap.size := hc3.size
  have HSL3 := Lib.hid hsl3
  have HV3 := Lib.hid hV3
  have HC3 := Lib.hid hc3
  have HS3 := Lib.hid hs3
  have HW1 := Lib.hid hw1
  have HF2 := Lib.hid hft2
  clear ho3 hV3 hc3 e3 hsl3 hpf hft2 hw1 hs3 p0 p1
  have HT3 : Hid (w3.heap[tb]? = some (.cells #[.int .i64 x, .int .i64 m] 3)) := Lib.hid ((HC3.out.block tb (by have := HTL.out; have := HW1.out; have := HS2.out; omega) HTB.out).trans HT2.out)
  obtain ⟨i0, hi0, hz0, hz1, hz2⟩ := info_parts infoInt3
  go_wp2_with (first
    | (at_builtin; refine wpList_ints_lies rfl _ _ rfl (base := w.heap.size) (k := 0) (m := 1) rfl (Own.nil _ _) rfl rfl HSL3.out (by omega) (by omega) (by have := HS3.out; have := HS2.out; have := HW1.out; omega) ?_; intro gg cap w4 ho4 hg4 hat4; have hb4 : Below w3.heap.size w3 w4 := ⟨hg4.os, hg4.tape, hg4.output, hg4.size, fun q hq => hg4.block q hq (fun e => by cases e)⟩; have k9 := cell_below hb4 _ _ h9; have hgg : gg = w3.heap.size := hat4.resolve_left (fun h1 => by cases h1); have HO4 : Hid (Own w4 w.heap.size (.slice (some ⟨gg, 0, none⟩) 1 cap) [tok]) := Lib.hid ho4; have HT4 := Lib.hid ((hb4.block tb (by have := HTL.out; have := HW1.out; have := HS2.out; have := HS3.out; omega)).trans HT3.out); have HB4 := Lib.hid hb4; have HGG := Lib.hid hgg; clear ho4 hg4 hat4 hb4 hgg)
    | (with_reducible show wpList _ _ _ (⟨_, .slice _ _ (some _) none none, _, _, _, _⟩ :: _) _ _; refine wpList_slice_low_at rfl 43 _ _ rfl 3 i0 Tryz.underlying43 hi0 hz1 (some ⟨tb, 0, none⟩) 2 2 rfl (by omega) .i64 1 1 rfl rfl (by omega) ?_; intro bo' hbo; have HSM : Hid (∀ W : World, W.heap[tb]? = some (.cells #[.int .i64 x, .int .i64 m] 3) → SlI W bo' 1 1 [m]) := Lib.hid (low_sl hbo); clear hbo))
  rw [rounds_succ]
  have hV4 := HV3.out.below HB4.out
  have hkp : ∀ q, w.heap.size ≤ q → q < w1.heap.size → w4.heap[q]? = w1.heap[q]? := fun q h1 h2 => (HB4.out.block q (by have := HS3.out; have := HS2.out; omega)).trans ((HC3.out.block q (by have := HS2.out; omega) (HF2.out q h1)).trans (HB2.out.block q h2))
  have p2 : w4.cell? ⟨pb, 2, none⟩ = some (.int .i64 1) := by rw [World.cell?_of_block (w := w1) (hkp pb HPB.out.1 HPB.out.2)]; exact HP2.out
  have p3 : w4.cell? ⟨pb, 2 + 1, none⟩ = some (.bool d2) := by rw [World.cell?_of_block (w := w1) (hkp pb HPB.out.1 HPB.out.2)]; exact HP3.out
  have hB5 := below_alloc w4 (.cells #[.int .i64 1, .bool d2] 51)
  obtain ⟨W5, hW5⟩ : ∃ W5, w4.alloc (.cells #[.int .i64 1, .bool d2] 51) = W5 := ⟨_, rfl⟩
  have HW5 := Lib.hid hW5
  rw [hW5] at hB5
  have HV5 := Lib.hid (hV4.below hB5)
  have HSM5 : Hid (SlI W5 bo' 1 1 [m]) := Lib.hid (SlI.below (HSM.out w4 HT4.out) hB5)
  have HB5 := Lib.hid hB5
  have HS5 : Hid (w4.heap.size < W5.heap.size) := Lib.hid (by rw [← hW5]; simp)
  have HPM := Lib.hid (piece_mark (c := 1) W5 HV5.out hN (HSM5.out.take (k := 1) (by omega)) HM.out HCM.out)
  clear hV4 hkp hB5 hW5 k9 h9
  go_wp2_with (with_reducible show wpList _ _ _ (⟨_, .slice _ _ none (some _) none, _, _, _, _⟩ :: _) _ _; refine wpList_int_high rfl 43 _ _ rfl 3 i0 Tryz.underlying43 hi0 hz1 (k := 1) rfl (by exact HW5.out ▸ HSM5.out) rfl rfl (by omega) ?_; intro hb'; clear hb')
  rw [HW5.out]
  go_at_call 59
  refine HPM.out.mono ?_
  rintro e w6 ⟨v6, no6, rfl, ho6, hV6, hc6⟩
  have hpf : pieceF V N [m] = [mk] := by rw [pieceF_mark HCM.out HM.out, HMK.out]
  rw [hpf] at ho6
  obtain ⟨rb6, rc6, hv6⟩ := own_at0 ho6 (by simp)
  have hv6' : v6 = .slice (some ⟨rb6, 0, none⟩) 1 rc6 := hv6
  clear hv6
  subst hv6'
  obtain ⟨ra6, rc6', e6, hsl6⟩ := ho6.sl
  obtain ⟨rfl, -, rfl⟩ := Value.slice.inj e6
  have hf3 : ∀ q, w3.heap.size ≤ q → ¬ Ft cb mb no3 q := fun q hq hf => by have := (HV3.out.ft q hf).2; omega
  have hs6 := hc6.size
  have h9 : w6.cell? ⟨w4.heap.size, 0, none⟩ = some (.int .i64 1) := by
    have hh := hc6.block w4.heap.size HS5.out (hf3 _ HB4.out.size)
    rw [World.cell?_of_block (w := W5) hh, ← HW5.out]
    simp
  have HO6 : Hid (Own w6 w.heap.size (.slice (some ⟨gg, 0, none⟩) 1 cap) [tok]) := Lib.hid (own_stay (HO4.out.below HB5.out) (fun q hq => by
    obtain rfl : gg = q := by simpa [Value.ownBlock] using hq
    exact hc6.block gg (by have := (World.ownsRow.lt HO4.out gg rfl).2; have := HS5.out; omega) (hf3 gg (by rw [HGG.out]; exact Nat.le_refl _))))
  have HT6 : Hid (w6.heap[tb]? = some (.cells #[.int .i64 x, .int .i64 m] 3)) := Lib.hid ((hc6.block tb (by have := HTL.out; have := HW1.out; have := HS2.out; have := HS3.out; have := HB4.out.size; have := HS5.out; omega) (HC3.out.new tb (by have := HTL.out; have := HW1.out; have := HS2.out; omega) HTB.out)).trans ((HB5.out.block tb (by have := HTL.out; have := HW1.out; have := HS2.out; have := HS3.out; have := HB4.out.size; omega)).trans HT4.out))
  have HSL6 := Lib.hid hsl6
  have HC6 := Lib.hid hc6
  have HS6 := Lib.hid hs6
  clear ho6 hV6 hc6 e6 hsl6 hpf hf3 hs6 p2 p3
  go_wp2_with (first
    | (at_builtin; refine wpList_ints_lies rfl _ _ rfl (base := w.heap.size) (k := 1) (m := 1) rfl HO6.out rfl rfl HSL6.out (by omega) (by omega) (by have := HS6.out; have := HS5.out; have := HB4.out.size; have := HS3.out; have := HS2.out; have := HW1.out; omega) ?_; intro g7 cap7 w7 ho7 hg7 hat7; have hgb : gg < w4.heap.size := (World.ownsRow.lt HO4.out gg rfl).2; have k9 : w7.cell? ⟨w4.heap.size, 0, none⟩ = some (.int .i64 1) := (World.cell?_of_block (w := w6) (hg7.block w4.heap.size (by have := HS6.out; have := HS5.out; omega) (fun e => by have h1 : w4.heap.size = gg := Option.some.inj e; omega))).trans h9; have HT7 : Hid (w7.heap[tb]? = some (.cells #[.int .i64 x, .int .i64 m] 3)) := Lib.hid ((hg7.block tb (Array.getElem?_eq_some_iff.1 HT6.out).1 (fun e => by have h1 := HGG.out; have := HTL.out; have := HW1.out; have := HS2.out; have := HS3.out; have h2 : tb = gg := Option.some.inj e; omega)).trans HT6.out); clear hgb; have HO7 := Lib.hid ho7; have HG7 := Lib.hid hg7; clear ho7 hg7 hat7)
    | (with_reducible show wpList _ _ _ (⟨_, .slice _ _ (some _) none none, _, _, _, _⟩ :: _) _ _; refine wpList_int_low rfl 43 _ _ rfl 3 i0 Tryz.underlying43 hi0 hz1 (k := 1) rfl (HSM.out w7 HT7.out) rfl rfl (by omega) ?_; intro bo2 hb2'; clear hb2'))
  have s1 := HBW.out
  have s2 := HB1.out.size
  have s3 := HB2.out.size
  have s4 := HS3.out
  have s5 := HB4.out.size
  have s6 := HB5.out.size
  have s7 := HS6.out
  have HEND : Hid (Below base w w7) := Lib.hid (by
    have g1 : Below base w w3 := ((HB1.out.mono s1).trans (HB2.out.mono (by omega))).trans (HC3.out.base (fun q hf => (HFW.out q hf).1) (by omega))
    have g2 : Below base w w6 := ((g1.trans (HB4.out.mono (by omega))).trans (HB5.out.mono (by omega))).trans (HC6.out.base (fun q hf => (HV3.out.ft q hf).1) (by omega))
    exact Below.grown g2 HG7.out (by omega) (fun q e => by
      have h1 : gg = q := Option.some.inj e
      have := HGG.out
      omega))
  clear s1 s2 s3 s4 s5 s6 s7 k9
  rw [rounds_succ]
  go_wp2_with (fail)
  refine bodyPost_ret (v := .tuple #[.slice (some ⟨g7, 0, none⟩) 2 cap7, .int .i64 0]) ?_ rfl ⟨_, rfl, HO7.out, HEND.out⟩
  simp [results, Tryz.results17, go_sem]

end Go.Proofs.YtimkkkdabmhedaaGreatDoor

/- Plain laws: the vocabulary of the chapter's example. -/
namespace Go.Proofs.YtimkkkdabmhedaaGreatDoor
set_option linter.unusedVariables false

def rowsN (n : Nat) : List Rw := (List.range n).map fun b => ⟨one b, (b : Int)⟩
theorem rowsN_succ (n : Nat) : rowsN (n + 1) = rowsN n ++ [⟨one n, (n : Int)⟩] := by
  unfold rowsN; rw [List.range_succ, List.map_append]; rfl
theorem rowsN_mem {n : Nat} {r : Rw} (h : r ∈ rowsN n) : ∃ b, b < n ∧ r = ⟨one b, (b : Int)⟩ := by
  unfold rowsN at h
  obtain ⟨b, hb, rfl⟩ := List.mem_map.1 h
  exact ⟨b, List.mem_range.1 hb, rfl⟩
theorem rowsN_len (n : Nat) : (rowsN n).length = n := by simp [rowsN]
theorem rowsN_tok (n i : Nat) : tokAt (rowsN n) i = if i < n then one i else ByteArray.empty := by
  induction n with
  | zero => rfl
  | succ n ih =>
    rw [rowsN_succ]
    by_cases e : i = n
    · subst e
      rw [tokAt_snoc (fun r hr => by obtain ⟨b, hb, rfl⟩ := rowsN_mem hr; simp only; omega)]
      simp
    · rw [tokAt_snoc_other (by simp only; omega), ih]
      by_cases h : i < n
      · rw [if_pos h, if_pos (by omega)]
      · rw [if_neg h, if_neg (by omega)]

def abS : ByteArray := ⟨#[97, 98]⟩
def R0 : List Rw := rowsN 256 ++ [⟨abS, 256⟩]
def T0 : List ByteArray := (List.range 256).map one ++ [abS]
theorem T0_len : T0.length = 257 := by simp [T0]
theorem T0_low {i : Nat} (h : i < 256) : tk T0 i = one i := by
  unfold tk T0
  rw [List.getD_eq_getElem?_getD, List.getElem?_append_left (by simpa using h)]
  simp [h]
theorem T0_top : tk T0 256 = abS := by
  unfold tk T0
  rw [List.getD_eq_getElem?_getD, List.getElem?_append_right (by simp)]
  simp
theorem one_inj {i j : Nat} (hi : i < 256) (hj : j < 256) (h : one i = one j) : i = j := by
  unfold one at h
  simp only [ByteArray.mk.injEq, Array.mk.injEq, List.cons.injEq, and_true] at h
  have := congrArg UInt8.toNat h
  simp at this
  omega
theorem uniq_T0 : Uniq T0 := fun i j h1 h2 e => by
  rw [T0_len] at h2
  by_cases hj : j = 256
  · subst hj
    rw [T0_low (by omega), T0_top] at e
    have := congrArg ByteArray.size e
    simp [one, abS, ByteArray.size] at this
  · rw [T0_low (by omega), T0_low (by omega)] at e
    have := one_inj (by omega) (by omega) e
    omega
def m0 : Mg := ⟨97, 98, 256, 256⟩
theorem ok_R0 : OkRows R0 [] := by
  refine ⟨by simp, fun r hr => ?_, ?_⟩
  · rcases List.mem_append.1 hr with h | h
    · obtain ⟨b, hb, rfl⟩ := rowsN_mem h
      simp only; omega
    · obtain rfl := List.mem_singleton.1 h
      simp only; omega
  · unfold R0
    rw [List.pairwise_append]
    refine ⟨?_, by simp, fun a ha b hb => ?_⟩
    · unfold rowsN
      rw [List.pairwise_map]
      exact List.pairwise_lt_range.imp (fun h => by simp only; omega)
    · obtain ⟨q, hq, rfl⟩ := rowsN_mem ha
      obtain rfl := List.mem_singleton.1 hb
      simp only; omega
end Go.Proofs.YtimkkkdabmhedaaGreatDoor
