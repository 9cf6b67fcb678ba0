/- EditThen: whatever the view and the two edits: the law returns true and turns nothing that was there. No condition. -/
import Derived.Test.YtkceidcedkknfaaFin
namespace Go.Proofs.Ytkceidcedkknfaa
open Go.RowKit
set_option linter.unusedVariables false

theorem applyL_le {A B X : List Int} {r : Int} {is : Bool} (h : applyL A r B = (X, is)) : X.length ≤ A.length + B.length := by
  have : X = (applyL A r B).1 := by rw [h]
  rw [this]
  unfold applyL
  split <;> simp <;> omega

theorem thenL_le {A B C : List Int} {r q r' : Int} {ok : Bool} (h : thenL A r q B = ((r', C), ok)) : C.length ≤ A.length + B.length := by
  have : C = (thenL A r q B).1.2 := by rw [h]
  rw [this]
  unfold thenL
  split <;> simp <;> omega

theorem applyL_yes {A B X : List Int} {r : Int} (h : applyL A r B = (X, true)) : 0 ≤ r ∧ r ≤ 1048576 ∧ r ≤ A.length ∧ X = A.take (A.length - r.toNat) ++ B := by
  unfold applyL at h
  split at h
  · rename_i hc
    simp at h
    exact ⟨hc.1, hc.2.1, hc.2.2, h.symm⟩
  · simp at h

theorem applyL_of {A B : List Int} {r : Int} (h : 0 ≤ r ∧ r ≤ 1048576 ∧ r ≤ A.length) : applyL A r B = (A.take (A.length - r.toNat) ++ B, true) := by
  unfold applyL; rw [if_pos h]

theorem applyL_no {A B X : List Int} {r : Int} (h : applyL A r B = (X, false)) : ¬ (0 ≤ r ∧ r ≤ 1048576 ∧ r ≤ A.length) := by
  intro hc
  rw [applyL_of hc] at h
  simp at h

theorem thenL_yes {A B C : List Int} {r q r' : Int} (h : thenL A r q B = ((r', C), true)) :
    (0 ≤ r ∧ r ≤ 1048576) ∧ (0 ≤ q ∧ q ≤ 1048576) ∧ r' = r + q - (A.length - (A.length - q.toNat : Nat)) ∧ C = A.take (A.length - q.toNat) ++ B := by
  unfold thenL at h
  split at h
  · rename_i hc
    simp at h
    exact ⟨hc.1, hc.2.1, h.1.symm, h.2.symm⟩
  · simp at h

theorem thenL_of {A B : List Int} {r q : Int} (h1 : 0 ≤ r ∧ r ≤ 1048576) (h2 : 0 ≤ q ∧ q ≤ 1048576) (h3 : r + q - (A.length - (A.length - q.toNat : Nat)) ≤ 1048576) :
    thenL A r q B = ((r + q - (A.length - (A.length - q.toNat : Nat)), A.take (A.length - q.toNat) ++ B), true) := by
  unfold thenL; rw [if_pos ⟨h1, h2, by omega, h3⟩]

theorem thenL_no {A B C : List Int} {r q r' : Int} (h : thenL A r q B = ((r', C), false)) : r' = 0 ∧ C = [] := by
  unfold thenL at h
  split at h
  · simp at h
  · simp at h
    exact ⟨h.1.symm, h.2⟩

/-- Both can be done: what they do is what the one does that both make. -/
theorem plain_yes {V A B X Y C Z : List Int} {r q r' : Int} {ok f : Bool} (hV : V.length ≤ 1000) (hX : applyL V r A = (X, true)) (hY : applyL X q B = (Y, true)) (hT : thenL A r q B = ((r', C), ok)) (hZ : applyL V r' C = (Z, f)) :
    ok = true ∧ f = true ∧ Z = Y := by
  obtain ⟨x1, x2, x3, rfl⟩ := applyL_yes hX
  obtain ⟨y1, y2, y3, rfl⟩ := applyL_yes hY
  obtain ⟨R, rfl⟩ := Int.eq_ofNat_of_zero_le x1
  obtain ⟨Q, rfl⟩ := Int.eq_ofNat_of_zero_le y1
  have hl : (V.take (V.length - (R : Int).toNat) ++ A).length = V.length - R + A.length := by simp
  rw [hl] at y3
  have h3 : (R : Int) + Q - (A.length - (A.length - (Q : Int).toNat : Nat)) ≤ 1048576 := by simp only [Int.toNat_natCast] at *; omega
  rw [thenL_of ⟨x1, x2⟩ ⟨y1, y2⟩ h3] at hT
  simp only [Prod.mk.injEq] at hT
  obtain ⟨⟨rfl, rfl⟩, rfl⟩ := hT
  have hz : 0 ≤ (R : Int) + Q - (A.length - (A.length - (Q : Int).toNat : Nat)) ∧ (R : Int) + Q - (A.length - (A.length - (Q : Int).toNat : Nat)) ≤ 1048576 ∧ (R : Int) + Q - (A.length - (A.length - (Q : Int).toNat : Nat)) ≤ V.length := by
    simp only [Int.toNat_natCast] at *; omega
  rw [applyL_of hz] at hZ
  simp only [Prod.mk.injEq] at hZ
  obtain ⟨rfl, rfl⟩ := hZ
  refine ⟨rfl, rfl, ?_⟩
  rw [hl, ← List.append_assoc]
  congr 1
  simp only [Int.toNat_natCast] at *
  by_cases hq : Q ≤ A.length
  · have e1 : V.length - ((R : Int) + Q - (A.length - (A.length - Q : Nat))).toNat = V.length - R := by omega
    rw [e1, List.take_append, List.length_take, List.take_take]
    have e2 : min (V.length - R + A.length - Q) (V.length - R) = V.length - R := by omega
    have e3 : V.length - R + A.length - Q - min (V.length - R) V.length = A.length - Q := by omega
    rw [e2, e3]
  · have e0 : A.length - Q = 0 := by omega
    have e1 : V.length - ((R : Int) + Q - (A.length - (A.length - Q : Nat))).toNat = V.length - R + A.length - Q := by omega
    rw [e1, e0, List.take_append, List.length_take, List.take_take]
    have e2 : min (V.length - R + A.length - Q) (V.length - R) = V.length - R + A.length - Q := by omega
    have e3 : V.length - R + A.length - Q - min (V.length - R) V.length = 0 := by omega
    rw [e2, e3]

/-- One of them can't be done: nor can the one, or there is none. -/
theorem plain_no {V A B X Y C Z : List Int} {r q r' : Int} {is also ok f : Bool} (hX : applyL V r A = (X, is)) (hY : applyL X q B = (Y, also)) (hT : thenL A r q B = ((r', C), ok)) (hZ : applyL V r' C = (Z, f))
    (h : is = false ∨ also = false) : (ok = false ∧ r' = 0 ∧ C = []) ∨ (ok = true ∧ (is = false ∨ f = false)) := by
  cases ok with
  | false => exact .inl ⟨rfl, thenL_no hT⟩
  | true =>
    refine .inr ⟨rfl, ?_⟩
    cases is with
    | false => exact .inl rfl
    | true =>
      have ha : also = false := by simpa using h
      subst ha
      cases f with
      | false => exact .inr rfl
      | true =>
        exfalso
        obtain ⟨x1, x2, x3, rfl⟩ := applyL_yes hX
        obtain ⟨t1, t2, rfl, rfl⟩ := thenL_yes hT
        obtain ⟨z1, z2, z3, _⟩ := applyL_yes hZ
        apply applyL_no hY
        have hl : (V.take (V.length - r.toNat) ++ A).length = V.length - r.toNat + A.length := by simp
        rw [hl]
        omega

theorem refApply_n {A B X : List Int} {ao bo : Option Addr} {n m c d L : Nat} {r : Int} {is : Bool} (h : applyL A r B = (X, is)) (hL : X.length = L) (w : World) (hA : SlI w ao n c A) (hB : SlI w bo m d B) (hreach : (n + m) * 8 ≤ 140737488355328) :
    Calls Try.prog 9 #[.slice ao n c, edV r (.slice bo m d)] w fun e w' => ∃ vo vc, e = .returned (.tuple #[.slice vo L vc, .bool is]) ∧ Own w' w.heap.size (.slice vo L vc) X ∧ Below w.heap.size w w' := by
  subst hL
  have := refApply r w hA hB hreach
  rw [h] at this
  exact this

theorem then_n {A B C : List Int} {ao bo : Option Addr} {n m c d L : Nat} {r q r' : Int} {ok : Bool} (h : thenL A r q B = ((r', C), ok)) (hL : C.length = L) (w : World) (hA : SlI w ao n c A) (hB : SlI w bo m d B) (hreach : (n + m) * 8 ≤ 140737488355328) :
    Calls Try.prog 11 #[edV r (.slice ao n c), edV q (.slice bo m d)] w fun e w' =>
      ∃ vo vc, e = .returned (.tuple #[edV r' (.slice vo L vc), .bool ok]) ∧ Own w' w.heap.size (.slice vo L vc) C ∧ Below w.heap.size w w' := by
  subst hL
  have := then_calls r q w hA hB hreach
  rw [h] at this
  exact this

/-- Three edits in memory. -/
structure Six (N M : Nat) (w : World) (r q r' : Int) (a b e : Value) : Prop where
  a0 : w.cell? ⟨N, 0, none⟩ = some (.int .i64 r)
  a1 : w.cell? ⟨N, 1, none⟩ = some a
  b0 : w.cell? ⟨N + 1, 0, none⟩ = some (.int .i64 q)
  b1 : w.cell? ⟨N + 1, 1, none⟩ = some b
  e0 : w.cell? ⟨M, 0, none⟩ = some (.int .i64 r')
  e1 : w.cell? ⟨M, 1, none⟩ = some e
theorem Six.below {N M : Nat} {w w' : World} {r q r' : Int} {a b e : Value} (h : Six N M w r q r' a b e) (hb : Below w.heap.size w w') : Six N M w' r q r' a b e :=
  ⟨cell_below hb _ _ h.a0, cell_below hb _ _ h.a1, cell_below hb _ _ h.b0, cell_below hb _ _ h.b1, cell_below hb _ _ h.e0, cell_below hb _ _ h.e1⟩

set_option maxHeartbeats 4000000 in
theorem thenlaw_walk {V A B : List Int} {vo ao bo : Option Addr} {l s n m c d : Nat} (r q : Int) (w : World) (hV : SlI w vo l s V) (hA : SlI w ao n c A) (hB : SlI w bo m d B) :
    Frame.Law Try.prog 4 #[.slice vo l s, edV r (.slice ao n c), edV q (.slice bo m d)] w := by
  unfold Frame.Law
  have hmV := Nat.le_trans hV.le hV.max
  have hmA := Nat.le_trans hA.le hA.max
  have hmB := Nat.le_trans hB.le hB.max
  unfold maxLen at hmA hmB hmV
  obtain ⟨g0, g1, g2, g3, bz⟩ := two_boxes w r q ao bo n c m d _ rfl
  by_cases hn : (300 : Int) < l
  · go_enter Try.func4, Try.ntmps4
    go_wp2_with (go_at_call 8; refine (fixed_calls _).mono ?_; rintro e w1 ⟨rfl, hb1⟩)
    go_ret
    exact ⟨rfl, bz.trans (hb1.mono bz.size)⟩
  by_cases hm : (300 : Int) < n
  · go_enter Try.func4, Try.ntmps4
    go_wp2_with (go_at_call 8; refine (fixed_calls _).mono ?_; rintro e w1 ⟨rfl, hb1⟩)
    go_ret
    exact ⟨rfl, bz.trans (hb1.mono bz.size)⟩
  by_cases hk : (300 : Int) < m
  · go_enter Try.func4, Try.ntmps4
    go_wp2_with (go_at_call 8; refine (fixed_calls _).mono ?_; rintro e w1 ⟨rfl, hb1⟩)
    go_ret
    exact ⟨rfl, bz.trans (hb1.mono bz.size)⟩
  have lV := hV.len
  have lA := hA.len
  have lB := hB.len
  obtain ⟨X, is, hX⟩ : ∃ X is, applyL V r A = (X, is) := ⟨_, _, rfl⟩
  obtain ⟨Y, also, hY⟩ : ∃ Y also, applyL X q B = (Y, also) := ⟨_, _, rfl⟩
  obtain ⟨r', C, ok, hT⟩ : ∃ r' C ok, thenL A r q B = ((r', C), ok) := ⟨_, _, _, rfl⟩
  obtain ⟨Z, f, hZ⟩ : ∃ Z f, applyL V r' C = (Z, f) := ⟨_, _, rfl⟩
  obtain ⟨lX, hlX⟩ : ∃ L, X.length = L := ⟨_, rfl⟩
  obtain ⟨lY, hlY⟩ : ∃ L, Y.length = L := ⟨_, rfl⟩
  obtain ⟨lC, hlC⟩ : ∃ L, C.length = L := ⟨_, rfl⟩
  obtain ⟨lZ, hlZ⟩ : ∃ L, Z.length = L := ⟨_, rfl⟩
  have bX : lX ≤ l + n := by have := applyL_le hX; omega
  have bY : lY ≤ lX + m := by have := applyL_le hY; omega
  have bC : lC ≤ n + m := by have := thenL_le hT; omega
  have bZ : lZ ≤ l + lC := by have := applyL_le hZ; omega
  have pyes : is = true → also = true → ok = true ∧ f = true ∧ Z = Y := by
    intro h1 h2
    subst h1 h2
    exact plain_yes (by omega) hX hY hT hZ
  have pno : is = false ∨ also = false → (ok = false ∧ r' = 0 ∧ lC = 0) ∨ (ok = true ∧ (is = false ∨ f = false)) := by
    intro h
    rcases plain_no hX hY hT hZ h with ⟨a, b, c⟩ | h
    · exact .inl ⟨a, b, by rw [← hlC, c]; rfl⟩
    · exact .inr h
  have HX := Lib.hid hX
  have HY := Lib.hid hY
  have HT := Lib.hid hT
  have HZ := Lib.hid hZ
  have HlX := Lib.hid hlX
  have HlY := Lib.hid hlY
  have HlC := Lib.hid hlC
  have HlZ := Lib.hid hlZ
  have Py := Lib.hid pyes
  have Pn := Lib.hid pno
  clear hX hY hT hZ hlX hlY hlC hlZ pyes pno lV lA lB
  have hV1 := hV.below bz
  have hA1 := hA.below bz
  have hB1 := hB.below bz
  go_enter Try.func4, Try.ntmps4
  go_wp2_with fail
  refine (then_n HT.out HlC.out _ hA1 hB1 (by omega)).mono ?_
  rintro e w1 ⟨eo, ec, rfl, ho1, hb1⟩
  have hV2 := (hV1.below hb1).alloc (.cells #[.int .i64 r', .slice eo lC ec] 24)
  have hA2 := (hA1.below hb1).alloc (.cells #[.int .i64 r', .slice eo lC ec] 24)
  have hB2 := (hB1.below hb1).alloc (.cells #[.int .i64 r', .slice eo lC ec] 24)
  have hC2 := ho1.sli.alloc (.cells #[.int .i64 r', .slice eo lC ec] 24)
  have k0 := cell_below hb1 _ _ g0
  have k1 := cell_below hb1 _ _ g1
  have k2 := cell_below hb1 _ _ g2
  have k3 := cell_below hb1 _ _ g3
  have bz1 : Below w.heap.size w w1 := bz.trans (hb1.mono bz.size)
  have hz1 := bz1.size
  have hz1' : w.heap.size + 1 < w1.heap.size := by have := hb1.size; simp at this; omega
  have hz1'' : w.heap.size < w1.heap.size := by omega
  clear ho1 hV1 hA1 hB1 g0 g1 g2 g3 hb1
  go_wp2_with fail
  refine (refApply_n HX.out HlX.out _ hV2 hA2 (by omega)).mono ?_
  rintro e w2 ⟨xo, xc, rfl, ho2, hb2⟩
  have sx : Six w.heap.size w1.heap.size (w1.alloc (.cells #[.int .i64 r', .slice eo lC ec] 24)) r q r' (.slice ao n c) (.slice bo m d) (.slice eo lC ec) :=
    ⟨cell_below (below_alloc w1 _) _ _ k0, cell_below (below_alloc w1 _) _ _ k1, cell_below (below_alloc w1 _) _ _ k2, cell_below (below_alloc w1 _) _ _ k3, by simp, by simp⟩
  have sx2 := sx.below hb2
  have bz2 : Below w.heap.size w w2 := (bz1.alloc hz1 _).trans (hb2.mono (Nat.le_trans hz1 (below_alloc _ _).size))
  have hV3 := hV2.below hb2
  have hB3 := hB2.below hb2
  have hC3 := hC2.below hb2
  have hX3 := ho2.sli
  clear sx hb2 ho2 hV2 hA2 hB2 hC2 k0 k1 k2 k3 bz1 bz
  obtain ⟨a0, a1, b0, b1, e0, e1⟩ := id sx2
  go_wp2_with fail
  refine (refApply_n HY.out HlY.out _ hX3 hB3 (by omega)).mono ?_
  rintro e w3 ⟨yo, yc, rfl, ho3, hb3⟩
  clear a0 a1 b0 b1 e0 e1
  have sx3 := sx2.below hb3
  have bz3 : Below w.heap.size w w3 := bz2.trans (hb3.mono bz2.size)
  have hV4 := hV3.below hb3
  have hC4 := hC3.below hb3
  have hY4 := ho3.sli
  clear hb3 ho3 hV3 hB3 hC3 hX3 bz2 sx2
  obtain ⟨a0, a1, b0, b1, e0, e1⟩ := id sx3
  by_cases hyes : is = true ∧ also = true
  · obtain ⟨rfl, rfl⟩ := hyes
    obtain ⟨rfl, rfl, hZY⟩ := Py.out rfl rfl
    have HZY := Lib.hid hZY
    clear hZY
    go_wp2_with fail
    refine (refApply_n HZ.out HlZ.out _ hV4 hC4 (by omega)).mono ?_
    rintro e w4 ⟨zo, zc, rfl, ho4, hb4⟩
    have bz4 := bz3.trans (hb4.mono bz3.size)
    have hY5 := hY4.below hb4
    have hZ5 := ho4.sli
    clear a0 a1 b0 b1 e0 e1
    go_wp2_with fail
    refine (fixed_calls _).mono ?_
    rintro e w5 ⟨rfl, hb5⟩
    have bz5 := bz4.trans (hb5.mono bz4.size)
    have hY6 := hY5.below hb5
    have hZ6 := hZ5.below hb5
    go_wp2_with fail
    refine (same10_true HZY.out _ hZ6 hY6).mono ?_
    rintro e w6 ⟨rfl, hb6⟩
    go_wp2_with fail
    go_ret
    exact ⟨rfl, bz5.trans (hb6.mono bz5.size)⟩
  · have hno : is = false ∨ also = false := by
      cases is <;> cases also <;> simp at hyes ⊢
    have hP := Pn.out hno
    have Hno := Lib.hid hno
    have HP := Lib.hid hP
    clear hno hP hyes
    cases is <;> cases also
    all_goals (first | (exfalso; rcases Hno.out with h | h <;> simp at h; done) | skip)
    all_goals
      go_wp2_with fail
      refine (refApply_n HZ.out HlZ.out _ hV4 hC4 (by omega)).mono ?_
      rintro e w4 ⟨zo, zc, rfl, ho4, hb4⟩
      have bz4 := bz3.trans (hb4.mono bz3.size)
      obtain ⟨a0, a1, b0, b1, e0, e1⟩ := sx3.below hb4
      go_wp2_with fail
      refine (fixed_calls _).mono ?_
      rintro e w5 ⟨rfl, hb5⟩
      have bz5 := bz4.trans (hb5.mono bz4.size)
      obtain ⟨a0, a1, b0, b1, e0, e1⟩ := (sx3.below hb4).below hb5
      rcases HP.out with ⟨h1, h2, h3⟩ | ⟨h1, h2 | h2⟩
      all_goals (first | (simp at h2; done) | skip)
      all_goals
        subst h1
        first | subst h2 | clear h2
        try subst h3
        clear HP Hno
        go_wp2_with fail
        all_goals
          go_ret
          exact ⟨rfl, bz5⟩

theorem editThen_law (W : World) (base : Nat) {H : Type} {enc : TypeId × Value → H} (args : Array Value) (ds : List (DataW H)) (p : List MemPlace)
    (hval : ∀ (j : Nat) t v, Try.f4.params[j]? = some t → args[j]? = some v → Value.okWide Try.prog W .any base t v)
    (hA : DataW.TrodAll enc Try.prog W 0 (fun _ => true) true Try.f4.params.toList args.toList ds p) :
    Frame.Law Try.prog 4 args W := by
  rw [Try.params4] at hA hval
  obtain ⟨v0, v1, v2, d0, d1, d2, p0, p1, p2, rfl, rfl, rfl, h0, h1, h2⟩ := Go.ChangeShapes.trodAll_three hA
  obtain ⟨ao0, n0, c0, A0, rfl, hs0, hw0⟩ := sli_open Try.underlying22 Try.underlying3 cellsInt (hval 0 22 v0 rfl rfl) h0
  obtain ⟨r1, ao1, n1, c1, A1, rfl, hs1, hw1, hr1⟩ := edit_open (hval 1 24 v1 rfl rfl) h1
  obtain ⟨r2, ao2, n2, c2, A2, rfl, hs2, hw2, hr2⟩ := edit_open (hval 2 24 v2 rfl rfl) h2
  exact thenlaw_walk r1 r2 W hs0 hs1 hs2

set_option maxRecDepth 100000 in
theorem editThen_lifted (os : Os) (started : os.Started) (H : Type) (enc : TypeId × Value → H) :
    ReturnsInHanded {} Try.checked os 4 .any (Rows.editThenSpec.pre6 enc Try.prog Try.f4 Rows.editThenRow.domain false) (Rows.editThenSpec.post enc Try.prog Try.f4 false true false false) :=
  Frame.law_lift (C := Try.checked) (fn := Try.f4) own started (by kernel_rfl) Try.func4 laidOut (by decide +kernel) rfl Try.underlying4 rfl
    (fun ds h => by match ds, h with | [d1, d2, d3], _ => rfl)
    (ChangeSpec.witness6 (enc := enc) (C := Try.checked) false ⟨#[], #[.slice none 0 0, .agg #[.int .i64 0, .slice none 0 0], .agg #[.int .i64 0, .slice none 0 0]], []⟩ 8 (by kernel_rfl) (by kernel_rfl) (by kernel_rfl) (by kernel_rfl))
    (fun W base args ds p hval hA => editThen_law W base args ds p hval hA)

theorem editThen_holds : Rows.EditThenSaid :=
  OpenClaim.holds_of_wide 4 Try.f4 rfl rfl rfl rfl rfl rfl rfl ⟨rfl, rfl, rfl, rfl, rfl⟩ rfl rfl rfl rfl rfl (by kernel_rfl) Try.func4 (by kernel_rfl)
    (of_decide_eq_true (by kernel_rfl)) (by unfold Func.isWrapper; rw [if_neg (of_decide_eq_false (by kernel_rfl))]; exact ⟨rfl, rfl⟩)
    (fun os started H enc _ => editThen_lifted os started H enc)

#print axioms editThen_holds
end Go.Proofs.Ytkceidcedkknfaa
