/- Walk: encode.New: a vocabulary's coder. -/
import Derived.Test.YtimkkkdabmhedaaGreatDoorB20
import Derived.Test.YtimkkkdabmhedaaGreatDoorB18
namespace Go.Proofs.YtimkkkdabmhedaaGreatDoor
open Go.RowKit
set_option linter.unusedVariables false

/-- The coder's cells, k bytes' tokens having been told. -/
def ECs (T : List ByteArray) (tv : Value) (pg k : Nat) (cs : Array Value) : Prop :=
  cs.size = 258 ∧ cs[0]? = some tv ∧ cs[1]? = some (.pointer (some ⟨pg, 0, none⟩)) ∧ ∀ i, i < k → cs[2 + i]? = some (.int .i64 (ofT T (one i)))
theorem ECs.next {T : List ByteArray} {tv : Value} {pg k : Nat} {cs : Array Value} (h : Hid (ECs T tv pg k cs)) (hk : k < 256) : Hid (ECs T tv pg (k + 1) (cs.setIfInBounds (2 + k) (.int .i64 (ofT T (one k))))) := by
  obtain ⟨h1, h2, h3, h4⟩ := h.out
  refine Lib.hid ⟨by simpa using h1, ?_, ?_, fun i hi => ?_⟩
  · rw [Array.getElem?_setIfInBounds_ne (by omega)]; exact h2
  · rw [Array.getElem?_setIfInBounds_ne (by omega)]; exact h3
  · by_cases e : i = k
    · subst e
      rw [Array.getElem?_setIfInBounds_self_of_lt (by omega)]
    · rw [Array.getElem?_setIfInBounds_ne (by omega)]; exact h4 i (by omega)
theorem set_cellN {w : World} {g i : Nat} {cs : Array Value} {v : Value} {t : TypeId} (h : w.heap[g]? = some (.cells cs t)) : (w.setCell ⟨g, i, none⟩ v).heap[g]? = some (.cells (cs.setIfInBounds i v) t) := by
  simp [World.setCell, Array.getElem?_modify, h]
theorem PTab.keep {w w' : World} {base g : Nat} {M : List Mg} (h : PTab w base g M) (hk : ∀ q, base ≤ q → q < w.heap.size → w'.heap[q]? = w.heap[q]?) (hs : w.heap.size ≤ w'.heap.size) : PTab w' base g M := by
  obtain ⟨lo, mo, mc, mb, sz, h1, h2, h3, h4, h5⟩ := h
  have hg : g < w.heap.size := (Array.getElem?_eq_some_iff.1 h1).1
  exact ⟨lo, mo, mc, mb, sz, (hk g lo hg).trans h1, own_stay h2 (fun q hq => hk q (World.ownsRow.lt h2 q hq).1 (World.ownsRow.lt h2 q hq).2), MapK.stay h3 (hk mb h4 h5), h4, by omega⟩
theorem PTab.mono {w : World} {base base' g : Nat} {M : List Mg} (h : PTab w base g M) (hb : base' ≤ base) : PTab w base' g M := by
  obtain ⟨lo, mo, mc, mb, sz, h1, h2, h3, h4, h5⟩ := h
  exact ⟨by omega, mo, mc, mb, sz, h1, OwnF.mono h2 hb, h3, by omega, h5⟩
/-- A vocabulary's coder lies at block g. -/
structure ECod (w : World) (base g : Nat) (V : Vc) : Prop where
  lo : base ≤ g
  tab : ∃ cs to_ tcc pg, w.heap[g]? = some (.cells cs 130) ∧ ECs V.tokens (.slice to_ V.tokens.length tcc) pg 256 cs ∧ OwnF encS 1 9 w base (.slice to_ V.tokens.length tcc) V.tokens ∧ PTab w base pg V.merges
def EncPost (V : Vc) (w : World) (e : Ending) (w' : World) : Prop :=
  ((¬ May V ∧ e = .returned (.tuple #[.pointer none, .int .i64 2])) ∨ (May V ∧ ∃ g, e = .returned (.tuple #[.pointer (some ⟨g, 0, none⟩), .int .i64 0]) ∧ ECod w' w.heap.size g V)) ∧ Below w.heap.size w w'

set_option maxHeartbeats 1000000 in
set_option maxRecDepth 100000 in
theorem encNew_calls {V : Vc} {dd : Vd} (w : World) (hV : VocR w dd V) (hok : VOk V) :
    Calls Tryz.prog 46 #[dd.val] w (EncPost V w) := by
  obtain ⟨ta, tn, tc, ma, mn, mc, sa, sn, sc⟩ := dd
  obtain ⟨w0, hw0⟩ : ∃ w0, w.alloc (.cells #[.slice ta tn tc, .slice ma mn mc, .slice sa sn sc] 26) = w0 := ⟨_, rfl⟩
  have hb0 : Below w.heap.size w w0 := hw0 ▸ below_alloc w _
  have hx0 : w0.heap[w.heap.size]? = some (.cells #[.slice ta tn tc, .slice ma mn mc, .slice sa sn sc] 26) := by rw [← hw0]; exact heap_alloc_new w _
  have hs0 : w.heap.size < w0.heap.size := by rw [← hw0]; simp
  obtain ⟨c0, c1, c2⟩ := box3v hx0
  have HV := Lib.hid (hV.below hb0)
  have HB0 := Lib.hid hb0
  have HX0 := Lib.hid hx0
  have HW0 := Lib.hid hw0
  have HLT := Lib.hid hV.tok.count
  have hpn := pairNew_calls (dd := ⟨ta, tn, tc, ma, mn, mc, sa, sn, sc⟩) w0 HV.out hok
  clear hV hb0 hx0 hw0
  go_enter Tryz.func46, Tryz.ntmps46
  go_wp2_with (fail)
  rw [HW0.out]
  refine hpn.mono ?_
  rintro e w1 ⟨⟨hno, rfl⟩ | ⟨hmay, pg, rfl, hpt⟩, hb1⟩
  · have HF := Lib.hid hno
    have HB1 := Lib.hid hb1
    clear hb1 hno hpn
    go_wp2_with (fail)
    refine bodyPost_ret (v := .tuple #[.pointer none, .int .i64 2]) ?_ rfl ⟨.inl ⟨HF.out, rfl⟩, HB0.out.trans (HB1.out.mono HB0.out.size)⟩
    simp [results, Tryz.results46, go_sem]
  · have HM := Lib.hid hmay
    have HB1 := Lib.hid hb1
    clear c0 c1 c2
    obtain ⟨c0, c1, c2⟩ := box3v ((HB1.out.block w.heap.size hs0).trans HX0.out)
    have htn : tn ≤ 4096 := by have h1 := HM.out.1.1; have := HLT.out; omega
    have hcl := cloneStr_calls w1 ((HV.out.below HB1.out).tok.flat) (by show tn ≤ 1048576; omega)
    clear hb1 hmay hpn
    go_wp2_with (fail)
    refine hcl.mono ?_
    rintro e w2 ⟨v2, rfl, ho2, hb2⟩
    obtain ⟨to_, tcc, rfl, _⟩ := ho2.sl
    have hml : V.tokens.length = tn := HLT.out
    rw [hml] at ho2
    have HO2 := Lib.hid ho2
    have HPT := Lib.hid hpt
    rw [hml]
    have HML := Lib.hid hml
    have HB2 := Lib.hid (HB1.out.trans (hb2.mono HB1.out.size))
    have HB12 := Lib.hid hb2
    obtain ⟨cs0, hcs0⟩ : ∃ cs0, (Tryz.zeroCells130.setIfInBounds 0 (Value.slice to_ tn tcc)).setIfInBounds 1 (Value.pointer (some ⟨pg, 0, none⟩)) = cs0 := ⟨_, rfl⟩
    have hz0 : Tryz.zeroCells130.size = 258 := by kernel_rfl
    have hz1 : cs0.size = 258 := by rw [← hcs0]; simp [hz0]
    have hz2 : cs0[0]? = some (Value.slice to_ tn tcc) := by rw [← hcs0]; simp [hz0]
    have hz3 : cs0[1]? = some (Value.pointer (some ⟨pg, 0, none⟩)) := by rw [← hcs0]; simp [hz0]
    obtain ⟨w3, hw3⟩ : ∃ w3, w2.alloc (.cells cs0 130) = w3 := ⟨_, rfl⟩
    have hb3 : Below w2.heap.size w2 w3 := hw3 ▸ below_alloc w2 _
    have hx3 : w3.heap[w2.heap.size]? = some (.cells cs0 130) := by rw [← hw3]; exact heap_alloc_new w2 _
    have hs3 : w2.heap.size < w3.heap.size := by rw [← hw3]; simp
    have HX3 := Lib.hid hx3
    have HB3 := Lib.hid hb3
    have HW3 := Lib.hid hw3
    have HCS := Lib.hid hcs0
    have HZ := Lib.hid (And.intro hz1 (And.intro hz2 hz3))
    clear hcl ho2 hpt hml hb2 hb3 hx3 hw3 hcs0 hz0 hz1 hz2 hz3
    go_wp2_with (fail)
    rw [HCS.out, HW3.out]
    clear c0 c1 c2
    go_loopw [22] (fun i wr => ∃ (k : Nat) (cs : Array Value), k ≤ 256 ∧ i = .int .i64 k ∧ wr.heap[w2.heap.size]? = some (.cells cs 130) ∧ Hid (ECs V.tokens (.slice to_ tn tcc) pg k cs) ∧ KeepG w2.heap.size w3 wr ∧ Below w2.heap.size w2 wr) (fun i _ => 256 - (intOf i).toNat)
    case atStart => exact ⟨0, cs0, by omega, rfl, HX3.out, Lib.hid ⟨HZ.out.1, HZ.out.2.1, HZ.out.2.2, fun i h => by omega⟩, KeepG.refl _ _, HB3.out⟩
    case round =>
      obtain ⟨k, cs, hk, rfl, hxg, HC, hkp, hb⟩ := hrel
      have HXG := Lib.hid hxg
      have HKP := Lib.hid hkp
      have HB := Lib.hid hb
      have hsg := Nat.lt_of_lt_of_le hs3 hkp.size
      have HBW : Hid (Below w0.heap.size w0 wr) := Lib.hid (HB2.out.trans (hb.mono HB2.out.size))
      obtain ⟨c0, c1, c2⟩ := box3v ((HBW.out.block w.heap.size hs0).trans HX0.out)
      clear hxg hkp hb
      by_cases hlt : k < 256
      · have hw8 : IntKind.u8.wrap (k : Int) = (k : Int) := by rw [IntKind.wrap_u8]; omega
        have hcv : (convert 121 9 (.slice (some ⟨wr.heap.size, 0, none⟩) 1 1)).run Tryz.prog (wr.alloc (.cells #[.int .u8 (k : Int)] 5)).drew = .ok (.string (one k)) (wr.alloc (.cells #[.int .u8 (k : Int)] 5)).drew := conv_one wr.drew k
        obtain ⟨old, hold⟩ : ∃ old, cs[2 + k]? = some old := ⟨_, Array.getElem?_eq_getElem (by have := HC.out.1; omega)⟩
        have hof : ∀ w', Below wr.heap.size wr w' → Calls Tryz.prog 78 #[.agg #[.slice ta tn tc, .slice ma mn mc, .slice sa sn sc], .string (one k)] w' fun e w9 => e = .returned (.int .i64 (ofT V.tokens (one k))) ∧ Below wr.heap.size wr w9 ∧ w9.cell? ⟨w2.heap.size, 2 + k, none⟩ = some old ∧ w9.frozen? ⟨w2.heap.size, 2 + k, none⟩ = false := fun w' hb' =>
          (of_calls (d := ⟨ta, tn, tc, ma, mn, mc, sa, sn, sc⟩) (one k) w' ((HV.out.below HBW.out).below hb')).mono fun e w9 ⟨h1, h2⟩ => by
            have h3 := hb'.trans (h2.mono hb'.size)
            have h4 := (h3.block w2.heap.size hsg).trans HXG.out
            exact ⟨h1, h3, by simp [World.cell?, h4, hold], by simp [World.frozen?, h4]⟩
        have hkb : (k : Int) < 256 := by omega
        have hwlt : w.heap.size < wr.heap.size := Nat.lt_of_lt_of_le hs0 HBW.out.size
        obtain ⟨e0, e1, e2⟩ : _ ∧ _ ∧ _ := ⟨cell_below (below_alloc wr (.cells #[.int .u8 (k : Int)] 5)) _ _ c0, cell_below (below_alloc wr (.cells #[.int .u8 (k : Int)] 5)) _ _ c1, cell_below (below_alloc wr (.cells #[.int .u8 (k : Int)] 5)) _ _ c2⟩
        have hkc : (2 : Nat) + k * 1 = 2 + k := by omega
        clear hold
        go_wp2_with (fail)
        go_region_with (first
          | (go_at_call 78; refine (hof _ (by exact ((Below.refl _ _).alloc (Nat.le_refl _) _).drew)).mono ?_; rintro e w9 ⟨rfl, hb9, hc9, hf9⟩))
        all_goals (have hst := set_cellN (i := 2 + k) (v := .int .i64 (ofT V.tokens (one k))) ((hb9.block w2.heap.size hsg).trans HXG.out)
                   have HST := Lib.hid hst
                   have HB9 := Lib.hid hb9
                   clear hst hb9
                   go_wp2_with (fail)
                   go_roundw
                   case rel => exact ⟨k + 1, _, by omega, by go_num, HST.out, ECs.next HC hlt, (HKP.out.below HB9.out).set _ _, (HB.out.trans (HB9.out.mono HB.out.size)).setCell (Nat.le_refl _) _⟩
                   case measure => simp [intOf]; omega)
      · obtain rfl : k = 256 := by omega
        go_wp2_with (fail)
        refine bodyPost_ret (v := .tuple #[.pointer (some ⟨w2.heap.size, 0, none⟩), .int .i64 0]) ?_ rfl ⟨.inr ⟨HM.out, w2.heap.size, rfl, ?_⟩, ?_⟩
        · simp [results, Tryz.results46, go_sem]
        · have g1 := HB1.out.size
          have g2 := HB0.out.size
          have g3 := HB2.out.size
          refine ⟨by omega, cs, to_, tcc, pg, HXG.out, by rw [HML.out]; exact HC.out, ?_, ?_⟩
          · rw [HML.out]
            exact OwnF.mono (base := w1.heap.size) (OwnF.keepG (HO2.out.below HB3.out) HKP.out fun q hq => by have := (World.ownsRow.lt HO2.out q hq).2; omega) (by omega)
          · have s1 := HB12.out.size
            have s2 := HB3.out.size
            have s3 := HKP.out.size
            exact PTab.mono (HPT.out.keep (fun q h1 h2 => (HKP.out.block q (by omega) (by omega)).trans ((HB3.out.block q (by omega)).trans (HB12.out.block q h2))) (by omega)) g2
        · exact HB0.out.trans ((HB2.out.trans (HB.out.mono HB2.out.size)).mono HB0.out.size)

end Go.Proofs.YtimkkkdabmhedaaGreatDoor

/- Plain law: the chain of places, its links, and what waits: no program here. -/
namespace Go.Proofs.YtimkkkdabmhedaaGreatDoor
open Go
set_option linter.unusedVariables false

/-- The place behind C's i-th one; -1. -/
def nxtC (C : Ch) (i : Nat) : Int := match C[i + 1]? with | some c => (c.1 : Int) | none => -1
/-- The place ahead of it; -1. -/
def prvC (C : Ch) (i : Nat) : Int := if i = 0 then -1 else match C[i - 1]? with | some c => (c.1 : Int) | none => -1
/-- The three rows tell the chain. -/
structure Lnk (n : Nat) (C : Ch) (Rw Lf Rt : List Int) : Prop where
  ok : ChOK C
  lt : ∀ c ∈ C, c.1 < n
  lw : Rw.length = n
  ll : Lf.length = n
  lr : Rt.length = n
  row : ∀ (i p : Nat) (a : Int), C[i]? = some (p, a) → Rw[p]? = some a
  left : ∀ (i p : Nat) (a : Int), C[i]? = some (p, a) → Lf[p]? = some (prvC C i)
  right : ∀ (i p : Nat) (a : Int), C[i]? = some (p, a) → Rt[p]? = some (nxtC C i)
/-- What waits at a place, told by a whole number. -/
def agI (M : List Mg) (C : Ch) (x : Int) : Option (Int × Int) := if 0 ≤ x then agF M C x.toNat else none
theorem agI_nat (M : List Mg) (C : Ch) (p : Nat) : agI M C (p : Int) = agF M C p := by simp [agI]
/-- The rows behind a merge. -/
def leftM (Lf : List Int) (nx : Int) (p : Nat) : List Int := if nx = -1 then Lf else Lf.set nx.toNat p
theorem ch_at_inj {C : Ch} (hc : ChOK C) {i j : Nat} {c d : Nat × Int} (h1 : C[i]? = some c) (h2 : C[j]? = some d) (e : c.1 = d.1) : i = j := by
  have hi := (List.getElem?_eq_some_iff.1 h1).1
  have hj := (List.getElem?_eq_some_iff.1 h2).1
  have g1 : C[i] = c := (List.getElem?_eq_some_iff.1 h1).2
  have g2 : C[j] = d := (List.getElem?_eq_some_iff.1 h2).2
  rcases Nat.lt_trichotomy i j with h | h | h
  · have := List.pairwise_iff_getElem.1 hc i j hi hj h
    rw [g1, g2] at this; omega
  · exact h
  · have := List.pairwise_iff_getElem.1 hc j i hj hi h
    rw [g1, g2] at this; omega

theorem mergeC_at {pre post : Ch} {p q : Nat} {a b o : Int} (i : Nat) : (pre ++ (p, o) :: post)[i]? = if i < pre.length then (pre ++ (p, a) :: (q, b) :: post)[i]? else if i = pre.length then some (p, o) else (pre ++ (p, a) :: (q, b) :: post)[i + 1]? := by
  by_cases h1 : i < pre.length
  · rw [if_pos h1, List.getElem?_append_left h1, List.getElem?_append_left h1]
  · rw [if_neg h1, List.getElem?_append_right (by omega)]
    by_cases h2 : i = pre.length
    · rw [if_pos h2]; subst h2; simp
    · rw [if_neg h2, List.getElem?_append_right (by omega)]
      obtain ⟨k, rfl⟩ : ∃ k, i = pre.length + (k + 1) := ⟨i - pre.length - 1, by omega⟩
      rw [show pre.length + (k + 1) - pre.length = k + 1 by omega, show pre.length + (k + 1) + 1 - pre.length = k + 2 by omega]
      simp

section
variable {n : Nat} {pre post : Ch} {p q : Nat} {a b : Int} {Rw Lf Rt : List Int}
theorem Lnk.at0 (h : Lnk n (pre ++ (p, a) :: (q, b) :: post) Rw Lf Rt) : Rw[p]? = some a ∧ Rt[p]? = some (q : Int) ∧ p < n ∧ q < n ∧ p < q ∧ Rt[q]? = some (nxtC (pre ++ (p, a) :: (q, b) :: post) (pre.length + 1)) ∧ Lf[p]? = some (prvC (pre ++ (p, a) :: (q, b) :: post) pre.length) := by
  have e0 : (pre ++ (p, a) :: (q, b) :: post)[pre.length]? = some (p, a) := by simp
  have e1 : (pre ++ (p, a) :: (q, b) :: post)[pre.length + 1]? = some (q, b) := by
    rw [List.getElem?_append_right (by omega)]; simp
  refine ⟨h.row _ _ _ e0, ?_, h.lt _ (List.mem_of_getElem? e0), h.lt _ (List.mem_of_getElem? e1), ?_, h.right _ _ _ e1, h.left _ _ _ e0⟩
  · rw [h.right _ _ _ e0]
    simp only [nxtC, e1]
  · have := h.ok
    unfold ChOK at this
    rw [List.pairwise_append] at this
    exact (List.pairwise_cons.1 this.2.1).1 (q, b) (by simp)
theorem Lnk.merged (h : Lnk n (pre ++ (p, a) :: (q, b) :: post) Rw Lf Rt) (o nx : Int) (hnx : nx = nxtC (pre ++ (p, a) :: (q, b) :: post) (pre.length + 1)) :
    Lnk n (pre ++ (p, o) :: post) (Rw.set p o) (leftM Lf nx p) (Rt.set p nx) := by
  obtain ⟨C, hC⟩ : ∃ C, pre ++ (p, a) :: (q, b) :: post = C := ⟨_, rfl⟩
  have hat := fun i => mergeC_at (pre := pre) (post := post) (p := p) (q := q) (a := a) (b := b) (o := o) i
  have hok' : ChOK (pre ++ (p, o) :: post) := mergeC_ok (o := o) h.ok
  have e0 : C[pre.length]? = some (p, a) := by rw [← hC]; simp
  have e1 : C[pre.length + 1]? = some (q, b) := by rw [← hC, List.getElem?_append_right (by omega)]; simp
  rw [hC] at h hnx
  have hpn : p < n := h.lt _ (List.mem_of_getElem? e0)
  simp only [hC] at hat
  -- the old number of each link
  have old : ∀ (i x : Nat) (c : Int), (pre ++ (p, o) :: post)[i]? = some (x, c) → i ≠ pre.length → ∃ j, C[j]? = some (x, c) ∧ x ≠ p ∧ x ≠ q ∧ (i < pre.length → j = i) ∧ (pre.length < i → j = i + 1) := fun i x c hi hne => by
    rw [hat i] at hi
    by_cases h1 : i < pre.length
    · rw [if_pos h1] at hi
      refine ⟨i, hi, fun e => ?_, fun e => ?_, fun _ => rfl, fun h2 => by omega⟩
      · have := ch_at_inj h.ok hi e0 e; omega
      · have := ch_at_inj h.ok hi e1 e; omega
    · rw [if_neg h1, if_neg hne] at hi
      refine ⟨i + 1, hi, fun e => ?_, fun e => ?_, fun h2 => by omega, fun _ => rfl⟩
      · have := ch_at_inj h.ok hi e0 e; omega
      · have := ch_at_inj h.ok hi e1 e; omega
  have self : ∀ (x : Nat) (c : Int), (pre ++ (p, o) :: post)[pre.length]? = some (x, c) → x = p ∧ c = o := fun x c hi => by
    rw [hat, if_neg (by omega), if_pos rfl] at hi
    simp only [Option.some.injEq, Prod.mk.injEq] at hi
    exact ⟨hi.1.symm, hi.2.symm⟩
  refine ⟨hok', fun c hc => ?_, by rw [List.length_set]; exact h.lw, ?_, by rw [List.length_set]; exact h.lr, fun i x c hi => ?_, fun i x c hi => ?_, fun i x c hi => ?_⟩
  · obtain ⟨i, hi, rfl⟩ := List.getElem_of_mem hc
    have hi' := List.getElem?_eq_getElem hi
    by_cases hne : i = pre.length
    · subst hne
      obtain ⟨h1, _⟩ := self _ _ hi'
      exact Nat.lt_of_le_of_lt (Nat.le_of_eq h1) hpn
    · obtain ⟨j, h1, _⟩ := old i _ _ hi' hne
      exact h.lt _ (List.mem_of_getElem? h1)
  · unfold leftM; split
    · exact h.ll
    · rw [List.length_set]; exact h.ll
  · by_cases hne : i = pre.length
    · subst hne
      obtain ⟨rfl, rfl⟩ := self _ _ hi
      rw [List.getElem?_set_self (by rw [h.lw]; exact hpn)]
    · obtain ⟨j, h1, h2, _⟩ := old i _ _ hi hne
      rw [List.getElem?_set_ne (by omega)]
      exact h.row _ _ _ h1
  · -- left
    have hprv : ∀ (j : Nat), 0 < j → ∀ (y : Nat) (d : Int), C[j - 1]? = some (y, d) → prvC C j = (y : Int) := fun j h0 y d hj => by
      unfold prvC; rw [if_neg (by omega), hj]
    by_cases hne : i = pre.length
    · subst hne
      obtain ⟨rfl, rfl⟩ := self _ _ hi
      have hp' : prvC (pre ++ (x, c) :: post) pre.length = prvC C pre.length := by
        unfold prvC
        by_cases h0 : pre.length = 0
        · rw [if_pos h0, if_pos h0]
        · rw [if_neg h0, if_neg h0, hat, if_pos (by omega)]
      rw [hp']
      have h1 := h.left _ _ _ e0
      unfold leftM
      by_cases h2 : nx = -1
      · rw [if_pos h2]; exact h1
      · rw [if_neg h2]
        have h3 : nx.toNat ≠ x := fun e => by
          rw [hnx] at h2 e
          unfold nxtC at h2 e
          cases h4 : C[pre.length + 1 + 1]? with
          | none => rw [h4] at h2; exact h2 rfl
          | some c =>
            rw [h4] at e
            have := ch_at_inj h.ok h4 e0 (by simpa using e)
            omega
        rw [List.getElem?_set_ne h3]; exact h1
    · obtain ⟨j, h1, h2, h2q, h3, h4⟩ := old i _ _ hi hne
      have hl := h.left _ _ _ h1
      by_cases h5 : i < pre.length
      · obtain rfl := h3 h5
        have h6 : prvC (pre ++ (p, o) :: post) j = prvC C j := by
          unfold prvC
          by_cases h0 : j = 0
          · rw [if_pos h0, if_pos h0]
          · rw [if_neg h0, if_neg h0, hat, if_pos (by omega)]
        rw [h6]
        unfold leftM
        by_cases h7 : nx = -1
        · rw [if_pos h7]; exact hl
        · rw [if_neg h7]
          have h8 : nx.toNat ≠ x := fun e => by
            rw [hnx] at h7 e
            unfold nxtC at h7 e
            cases h9 : C[pre.length + 1 + 1]? with
            | none => rw [h9] at h7; exact h7 rfl
            | some c =>
              rw [h9] at e
              have := ch_at_inj h.ok h9 h1 (by simpa using e)
              omega
          rw [List.getElem?_set_ne h8]; exact hl
      · obtain rfl := h4 (by omega)
        by_cases h6 : i = pre.length + 1
        · subst h6
          have hn2 : nx = (x : Int) := by rw [hnx]; unfold nxtC; rw [h1]
          have hpv : prvC (pre ++ (p, o) :: post) (pre.length + 1) = (p : Int) := by
            unfold prvC
            rw [if_neg (by omega), show pre.length + 1 - 1 = pre.length by omega, hat, if_neg (by omega), if_pos rfl]
          rw [hpv, hn2]
          unfold leftM
          rw [if_neg (by omega), Int.toNat_natCast, List.getElem?_set_self (by rw [h.ll]; exact h.lt _ (List.mem_of_getElem? h1))]
        · have hpv : prvC (pre ++ (p, o) :: post) i = prvC C (i + 1) := by
            unfold prvC
            rw [if_neg (by omega), if_neg (by omega), hat, if_neg (by omega), if_neg (by omega), show i - 1 + 1 = i + 1 - 1 by omega]
          rw [hpv]
          unfold leftM
          by_cases h7 : nx = -1
          · rw [if_pos h7]; exact hl
          · rw [if_neg h7]
            have h8 : nx.toNat ≠ x := fun e => by
              rw [hnx] at h7 e
              unfold nxtC at h7 e
              cases h9 : C[pre.length + 1 + 1]? with
              | none => rw [h9] at h7; exact h7 rfl
              | some c =>
                rw [h9] at e
                have := ch_at_inj h.ok h9 h1 (by simpa using e)
                omega
            rw [List.getElem?_set_ne h8]; exact hl
  · -- right
    by_cases hne : i = pre.length
    · subst hne
      obtain ⟨rfl, rfl⟩ := self _ _ hi
      rw [List.getElem?_set_self (by rw [h.lr]; exact hpn)]
      have : nxtC (pre ++ (x, c) :: post) pre.length = nx := by
        rw [hnx]; unfold nxtC
        rw [hat, if_neg (by omega), if_neg (by omega)]
      rw [this]
    · obtain ⟨j, h1, h2, h2q, h3, h4⟩ := old i _ _ hi hne
      rw [List.getElem?_set_ne (by omega), h.right _ _ _ h1]
      congr 1
      by_cases h5 : i < pre.length
      · obtain rfl := h3 h5
        unfold nxtC
        by_cases h6 : j + 1 < pre.length
        · rw [hat, if_pos h6]
        · have h7 : j + 1 = pre.length := by omega
          rw [hat, if_neg h6, if_pos h7, h7, e0]
      · obtain rfl := h4 (by omega)
        unfold nxtC
        rw [hat, if_neg (by omega), if_neg (by omega)]
end

/-- What waits behind a merge: the place that went has nothing, the places that changed are looked at anew. -/
theorem agF_merged {M : List Mg} {pre post : Ch} {p q : Nat} {a b o : Int} (hc : ChOK (pre ++ (p, a) :: (q, b) :: post)) (x : Nat) (hp : x ≠ p) (hr : ∀ c, pre.getLast? = some c → c.1 ≠ x) :
    agF M (pre ++ (p, o) :: post) x = if x = q then none else agF M (pre ++ (p, a) :: (q, b) :: post) x := by
  have hc' := mergeC_ok (o := o) hc
  by_cases hq : x = q
  · rw [if_pos hq]
    subst hq
    refine agF_no fun c hcm e => ?_
    unfold ChOK at hc
    rw [List.pairwise_append] at hc
    obtain ⟨h1, h2, h3⟩ := hc
    rw [List.pairwise_cons, List.pairwise_cons] at h2
    rcases List.mem_append.1 hcm with hm | hm
    · have := h3 c hm (x, b) (by simp)
      simp only at this; omega
    · rcases List.mem_cons.1 hm with rfl | hm
      · exact hp e.symm
      · have := h2.2.1 c hm
        simp only at this; omega
  · rw [if_neg hq]
    by_cases hm : ∃ c ∈ pre, c.1 = x
    · exact (agF_pre hc hr hm).symm
    · have hm' : ∀ c ∈ pre, c.1 ≠ x := fun c h1 h2 => hm ⟨c, h1, h2⟩
      rw [agF_skip hm' (by simp), agF_skip hm' (by simp), agF_cons2, if_neg hp]
      cases post with
      | nil => simp [agF]
      | cons s post =>
        obtain ⟨s, c⟩ := s
        rw [agF_cons2, if_neg hp, agF_cons2, if_neg hq]

/-- The bytes' chain is linked so. -/
theorem lnk_start {R : List Int} (h0 : 0 < R.length) (Lf Rt : List Int) (hl : Lf = (List.range R.length).map (fun (i : Nat) => (i : Int) - 1)) (hr : Rt = ((List.range R.length).map (fun (i : Nat) => (i : Int) + 1)).set (R.length - 1) (-1)) : Lnk R.length (chOf R) R Lf Rt := by
  subst hl hr
  have hat : ∀ (i p : Nat) (a : Int), (chOf R)[i]? = some (p, a) → p = i ∧ R[i]? = some a ∧ i < R.length := fun i p a h => by
    have hi := (List.getElem?_eq_some_iff.1 h).1
    rw [chOf_len] at hi
    rw [chOf_at (List.getElem?_eq_getElem hi)] at h
    simp only [Option.some.injEq, Prod.mk.injEq] at h
    exact ⟨h.1.symm, by rw [List.getElem?_eq_getElem hi, h.2], hi⟩
  refine ⟨chOf_ok R, fun c hc => ?_, rfl, by simp, by simp, fun i p a h => ?_, fun i p a h => ?_, fun i p a h => ?_⟩
  · obtain ⟨i, hi, rfl⟩ := List.getElem_of_mem hc
    obtain ⟨h1, _, h2⟩ := hat i _ _ (List.getElem?_eq_getElem hi)
    exact Nat.lt_of_le_of_lt (Nat.le_of_eq h1) h2
  · obtain ⟨rfl, h1, _⟩ := hat i p a h
    exact h1
  · obtain ⟨rfl, h1, h2⟩ := hat i p a h
    simp only [List.getElem?_map, List.getElem?_range h2, Option.map_some, Option.some.injEq]
    unfold prvC
    by_cases h3 : p = 0
    · subst h3; simp
    · rw [if_neg h3, chOf_at (List.getElem?_eq_getElem (show p - 1 < R.length by omega))]
      simp only; omega
  · obtain ⟨rfl, h1, h2⟩ := hat i p a h
    unfold nxtC
    by_cases h3 : p + 1 < R.length
    · rw [List.getElem?_set_ne (by omega), chOf_at (List.getElem?_eq_getElem h3)]
      simp only [List.getElem?_map, List.getElem?_range h2, Option.map_some]
      simp
    · have h4 : p = R.length - 1 := by omega
      rw [← h4, List.getElem?_set_self (by simp; omega), List.getElem?_eq_none (by rw [chOf_len]; omega)]

theorem ch_split {C : Ch} {i p q : Nat} {a b : Int} (h1 : C[i]? = some (p, a)) (h2 : C[i + 1]? = some (q, b)) : ∃ pre post, C = pre ++ (p, a) :: (q, b) :: post ∧ pre.length = i := by
  have hi := (List.getElem?_eq_some_iff.1 h2).1
  refine ⟨C.take i, C.drop (i + 2), ?_, by simp; omega⟩
  have e1 : C.drop i = (p, a) :: C.drop (i + 1) := by
    rw [List.drop_eq_getElem_cons (by omega)]
    rw [(List.getElem?_eq_some_iff.1 h1).2]
  have e2 : C.drop (i + 1) = (q, b) :: C.drop (i + 2) := by
    rw [List.drop_eq_getElem_cons hi]
    rw [(List.getElem?_eq_some_iff.1 h2).2]
  rw [← e2, ← e1, List.take_append_drop]
/-- The chain C stands on the way from the row R. -/
structure Way (M : List Mg) (R : List Int) (C : Ch) : Prop where
  run : runF M C.length (C.map (·.2)) = runF M R.length R
  zero : ∃ a, C[0]? = some (0, a)
theorem Way.start (M : List Mg) {R : List Int} (h : 0 < R.length) : Way M R (chOf R) :=
  ⟨by rw [chOf_len, chOf_map], ⟨_, chOf_at (List.getElem?_eq_getElem h)⟩⟩
theorem Way.step {M : List Mg} {R : List Int} {pre post : Ch} {p q : Nat} {a b o : Int} (h : Way M R (pre ++ (p, a) :: (q, b) :: post)) (hs : stepF M ((pre ++ (p, a) :: (q, b) :: post).map (·.2)) = some ((pre ++ (p, o) :: post).map (·.2))) : Way M R (pre ++ (p, o) :: post) := by
  refine ⟨?_, ?_⟩
  · have h1 := runF_step hs
    have h2 := h.run
    simp only [List.length_map] at h1
    rw [← h1, h2]
  · obtain ⟨c, hc⟩ := h.zero
    cases pre with
    | nil => simp at hc ⊢; exact hc.1
    | cons x pre => simp at hc ⊢; exact ⟨c, hc⟩
theorem Way.done {M : List Mg} {R : List Int} {C : Ch} (h : Way M R C) (hn : NoBest M (C.map (·.2))) : C.map (·.2) = runF M R.length R := by
  rw [← h.run, runF_end (stepF_none hn)]
/-- The least of what waits is a step. -/
theorem best_step {M : List Mg} {R : List Int} {C : Ch} (hw : Way M R C) (hc : ChOK C) {p : Int} {o d : Int} (h : agI M C p = some (o, d)) (hm : ∀ q o' d', agI M C q = some (o', d') → o < o' ∨ (o = o' ∧ p ≤ q)) :
    ∃ (pre post : Ch) (pn q : Nat) (a b : Int), p = (pn : Int) ∧ C = pre ++ (pn, a) :: (q, b) :: post ∧ Way M R (pre ++ (pn, d) :: post) := by
  have hp : 0 ≤ p := by
    unfold agI at h
    split at h
    · assumption
    · cases h
  obtain ⟨pn, rfl⟩ : ∃ pn : Nat, p = pn := ⟨p.toNat, by omega⟩
  rw [agI_nat] at h
  obtain ⟨i, a, q, b, m, h1, h2, h3, h4, h5, h6⟩ := agF_best hc h (fun q o' d' hq => by
    have := hm (q : Int) o' d' (by rw [agI_nat]; exact hq)
    omega)
  obtain ⟨pre, post, rfl, hl⟩ := ch_split h1 h2
  refine ⟨pre, post, pn, q, a, b, rfl, rfl, hw.step (o := d) ?_⟩
  rw [stepF_some h6, ← hl, ← h5]
  exact congrArg some (merge_map (pre := pre) (post := post) (p := pn) (q := q) (a := a) (b := b) (o := m.out)).symm
theorem agI_none {M : List Mg} {C : Ch} (hc : ChOK C) (h : ∀ x, agI M C x = none) : NoBest M (C.map (·.2)) := agF_noBest hc fun p => by rw [← agI_nat]; exact h p

/-- What waits when the first k places have been looked at. -/
def agK (M : List Mg) (C : Ch) (k : Nat) (x : Int) : Option (Int × Int) := if x < k then agI M C x else none
theorem agK_zero (M : List Mg) (C : Ch) (x : Int) : agK M C 0 x = none := by
  unfold agK agI
  by_cases h : x < (0 : Nat)
  · rw [if_pos h, if_neg (by omega)]
  · rw [if_neg h]
theorem agK_succ (M : List Mg) (C : Ch) (k : Nat) (x : Int) : agK M C (k + 1) x = if x = k then agF M C k else agK M C k x := by
  unfold agK
  by_cases h : x = k
  · subst h
    rw [if_pos (by omega), if_pos rfl, agI_nat]
  · rw [if_neg h]
    by_cases h2 : x < k
    · rw [if_pos (by omega), if_pos h2]
    · rw [if_neg (by omega), if_neg h2]
theorem agK_all {M : List Mg} {C : Ch} {n : Nat} (h : ∀ c ∈ C, c.1 < n) (x : Int) : agK M C n x = agI M C x := by
  unfold agK
  by_cases h2 : x < n
  · rw [if_pos h2]
  · rw [if_neg h2]
    unfold agI
    rw [if_pos (by omega)]
    exact (agF_no fun c hc e => by have := h c hc; omega).symm

end Go.Proofs.YtimkkkdabmhedaaGreatDoor
