/- VocabTables: the vocabulary of any tables and specials, that merges by pairs, is the document's, or there is none. (Printed by gTables.py.) -/
import Derived.Test.YteoncpkfinheoaaGreatR
import Derived.Test.YteoncpkfinheoaaRTab
import Derived.Test.YteoncpkfinheoaaTab
import Derived.Test.YteoncpkfinheoaaLawV
import Derived.Test.YteoncpkfinheoaaRows
import Derived.Lib.SmallJoins
namespace Go.Proofs.Yteoncpkfinheoaa
open Go.RowKit Go.ChangeShapes Go.WideShapes Go.ChangeAt Go.Joins Go.Deep
set_option linter.unusedVariables false

theorem notGreatT {R : List Rw} {P : List Pr} {S : List Sp} (h : ¬ GreatR R P S) : R.length ≤ 400 ∧ P.length ≤ 200 ∧ S.length ≤ 20 :=
  ⟨Nat.le_of_not_lt fun g => h (.inl g), Nat.le_of_not_lt fun g => h (.inr (.inl g)), Nat.le_of_not_lt fun g => h (.inr (.inr (.inl g)))⟩
theorem notGreatT2 {R : List Rw} {P : List Pr} {S : List Sp} (h : ¬ GreatR R P S) : ∀ p ∈ P, p.left.size ≤ 80 ∧ p.right.size ≤ 80 := fun p hp =>
  ⟨Nat.le_of_not_lt fun g => h (.inr (.inr (.inr (.inr (.inl ⟨p, hp, .inl g⟩))))), Nat.le_of_not_lt fun g => h (.inr (.inr (.inr (.inr (.inl ⟨p, hp, .inr g⟩)))))⟩

theorem prStruct : ∃ f0 f1 : Field, Try.prog.underlying 46 = some (.struct #[f0, f1]) ∧ f0.type = 9 ∧ f1.type = 9 ∧ oneCellFields Try.prog #[f0, f1] = true :=
  ⟨_, _, Try.underlying46, rfl, rfl, by kernel_rfl⟩
theorem cellsPr : Try.prog.cellsOf 46 = 2 := by kernel_rfl
theorem cellsTab : Try.prog.cellsOf 41 = 2 := by kernel_rfl
section
variable {H : Type} {enc : TypeId × Value → H} {W : World} {held : Bool}
theorem prs_of_trod {fuel : Nat} {v : Value} {y : DataW H × List MemPlace} (h : DataW.trod enc Try.prog W 0 (fun _ => true) held fuel 39 [v] = some y) :
    ∃ ao n c P, v = .slice ao n c ∧ SlF 2 W ao n c (flat Pr.enc P) ∧ ∀ p ∈ P, p.left.size ≤ maxLen ∧ p.right.size ≤ maxLen := by
  obtain ⟨f0, f1, hu, e0, e1, hone⟩ := prStruct
  rcases open_slice_fields Try.underlying39 hu hone (by rw [cellsPr]; rfl) h with ⟨hcs, _⟩ | ⟨a, len, cap, m, D, Pl, hcs, _, hl, hm, hmm, _, hrow⟩
  · simp at hcs
    subst hcs
    exact ⟨_, _, _, [], rfl, SlF.nothing _, by simp⟩
  · simp at hcs
    subst hcs
    simp at hmm
    subst hmm
    obtain ⟨S, hS, hR⟩ := slF_mk (enc := Pr.enc) (s := 2) (n := len) (cap := m) (w := W) (a := a) (R := fun x => x.left.size ≤ maxLen ∧ x.right.size ≤ maxLen) Pr.enc_len (by omega) hl hm (by
      intro i hi
      obtain ⟨ys, n', _, _, _, hf⟩ := hrow i (by omega)
      obtain ⟨u0, y0, c0, _, t0⟩ := hf 0 f0 rfl
      obtain ⟨u1, y1, c1, _, t1⟩ := hf 1 f1 rfl
      rw [e0] at t0
      rw [e1] at t1
      obtain ⟨s, es, _, hs⟩ := DataW.trod_string Try.underlying9 t0
      obtain ⟨z, ez, _, hz⟩ := DataW.trod_string Try.underlying9 t1
      simp at es ez
      subst es ez
      refine ⟨⟨s, z⟩, fun j u hu => ?_, hs, hz⟩
      match j, hu with
      | 0, hu => simp [Pr.enc] at hu; subst hu; exact c0
      | 1, hu => simp [Pr.enc] at hu; subst hu; exact c1
      | j + 2, hu => simp [Pr.enc] at hu)
    exact ⟨_, _, _, S, rfl, hS, hR⟩
set_option maxRecDepth 100000 in
theorem tab_open {v : Value} {d : DataW H} {p : List MemPlace} {r : Reach} {b0 : Nat}
    (hv : Value.okWide Try.prog W r b0 41 v) (h : DataW.Trod enc Try.prog W 0 (fun _ => true) held 41 v d p) :
    ∃ ro rn rc R po pn pc P, v = .agg #[.slice ro rn rc, .slice po pn pc] ∧ (SlF 2 W ro rn rc (flat Rw.enc R) ∧ ∀ r ∈ R, r.token.size ≤ maxLen) ∧ (SlF 2 W po pn pc (flat Pr.enc P) ∧ ∀ p ∈ P, p.left.size ≤ maxLen ∧ p.right.size ≤ maxLen) := by
  obtain ⟨v0, v1, y0, y1, n, rfl, _, _, h0, h1⟩ := open_agg2 Try.underlying41 (by kernel_rfl) cellsTab hv h
  obtain ⟨ro, rn, rc, R, rfl, hR, hsR⟩ := rws_of_trod h0
  obtain ⟨po, pn, pc, P, rfl, hP, hsP⟩ := prs_of_trod h1
  exact ⟨ro, rn, rc, R, po, pn, pc, P, rfl, ⟨hR, hsR⟩, ⟨hP, hsP⟩⟩
end

set_option maxHeartbeats 2000000 in
set_option maxRecDepth 100000 in
theorem vocabTables_walk {R : List Rw} {P : List Pr} {S : List Sp} {ro po so : Option Addr} {rn rc pn pc sn sc : Nat} (w : World) (hR : SlF 2 w ro rn rc (flat Rw.enc R)) (hP : SlF 2 w po pn pc (flat Pr.enc P)) (hS : SlF 2 w so sn sc (flat Sp.enc S))
    (hrs : ∀ r ∈ R, r.token.size ≤ maxLen) (hps : ∀ p ∈ P, p.left.size ≤ maxLen ∧ p.right.size ≤ maxLen) (hss : ∀ s ∈ S, s.name.size ≤ maxLen) :
    Frame.Law Try.prog 4 #[.agg #[.slice ro rn rc, .slice po pn pc], .slice so sn sc] w := by
  unfold Frame.Law
  obtain ⟨w0, hw0⟩ : ∃ w0, w.alloc (.cells #[.slice ro rn rc, .slice po pn pc] 41) = w0 := ⟨_, rfl⟩
  have hb0 : Below w.heap.size w w0 := hw0 ▸ below_alloc w _
  have hx0 : w0.heap[w.heap.size]? = some (.cells #[.slice ro rn rc, .slice po pn pc] 41) := by rw [← hw0]; exact heap_alloc_new w _
  have hs0 : w.heap.size < w0.heap.size := by rw [← hw0]; simp
  obtain ⟨t0, t1⟩ := bx2t hx0
  have HLR := Lib.hid (hR.count Rw.enc_len (by omega))
  have HLP := Lib.hid (hP.count Pr.enc_len (by omega))
  have HLS := Lib.hid (hS.count Sp.enc_len (by omega))
  have HR := Lib.hid (hR.below hb0)
  have HP := Lib.hid (hP.below hb0)
  have HS := Lib.hid (hS.below hb0)
  have HRS := Lib.hid hrs
  have HSS := Lib.hid hss
  have hgr := lgreat_calls w0 HR.out HP.out HS.out hrs hps hss
  have HB0 := Lib.hid hb0
  have HX0 := Lib.hid hx0
  have HW0 := Lib.hid hw0
  clear hR hS hP hrs hss hps hb0 hx0 hw0
  go_enter Try.func4, Try.ntmps4
  go_wp2_with (fail)
  rw [HW0.out]
  refine hgr.mono ?_
  rintro e w1 ⟨⟨b, rfl, hb⟩, hb1⟩
  have HB1 := Lib.hid hb1
  have HGB := Lib.hid hb
  clear hb1 hb hgr t0 t1
  obtain ⟨t0, t1⟩ := bx2t ((HB1.out.block w.heap.size hs0).trans HX0.out)
  cases b with
  | true =>
    go_wp2_with (fail)
    refine (fixed_calls w1).mono ?_
    rintro e w2 ⟨rfl, hb2⟩
    go_wp2_with (fail)
    go_ret
    exact ⟨rfl, HB0.out.trans ((HB1.out.trans (hb2.mono HB1.out.size)).mono HB0.out.size)⟩
  | false =>
    have hng := notGreatT (no_of HGB.out rfl)
    have HPS := Lib.hid (notGreatT2 (no_of HGB.out rfl))
    rw [HLR.out, HLP.out, HLS.out] at hng
    obtain ⟨hng1, hng3, hng2⟩ := hng
    have hfr := fromTables_val (R := R) (P := P) (S := S) w1 (HR.out.below HB1.out) (HP.out.below HB1.out) (HS.out.below HB1.out) HRS.out HPS.out HSS.out hng3 hng2
    go_wp2_with (fail)
    refine hfr.mono ?_
    rintro e w3 ⟨⟨⟨ta, tn, tc, ma, mn, mc, sa, sn1, sc1⟩, cc, rfl, hcc, hv⟩, hb3⟩
    obtain ⟨w4, hw4⟩ : ∃ w4, w3.alloc (.cells #[.slice ta tn tc, .slice ma mn mc, .slice sa sn1 sc1] 31) = w4 := ⟨_, rfl⟩
    have hb4 : Below w3.heap.size w3 w4 := hw4 ▸ below_alloc w3 _
    have hx4 : w4.heap[w3.heap.size]? = some (.cells #[.slice ta tn tc, .slice ma mn mc, .slice sa sn1 sc1] 31) := by rw [← hw4]; exact heap_alloc_new w3 _
    have hs4 : w3.heap.size < w4.heap.size := by rw [← hw4]; simp
    have HB4 : Hid (Below w0.heap.size w0 w4) := Lib.hid (HB1.out.trans ((hb3.trans (hb4.mono hb3.size)).mono HB1.out.size))
    have HCC := Lib.hid hcc
    have HV4 := Lib.hid (hv.below hb4)
    have HX4 := Lib.hid hx4
    have HW4 := Lib.hid hw4
    clear t0 t1
    obtain ⟨t0, t1⟩ := bx2t ((HB4.out.block w.heap.size hs0).trans HX0.out)
    rw [← hw4] at t0 t1
    have hfr2 := rfromTables_val (R := R) (P := P) (S := S) w4 (HR.out.below HB4.out) (HP.out.below HB4.out) (HS.out.below HB4.out) HRS.out HPS.out HSS.out hng3 hng2
    clear hfr hb3 hb4 hx4 hw4 hv hcc
    go_wp2_with (fail)
    rw [HW4.out]
    clear t0 t1
    refine hfr2.mono ?_
    rintro e w5 ⟨⟨⟨ta2, tn2, tc2, ma2, mn2, mc2, sa2, sn2, sc2⟩, c2', rfl, hcc, hv⟩, hb5⟩
    have HCD := Lib.hid hcc
    obtain ⟨w6, hw6⟩ : ∃ w6, w5.alloc (.cells #[.slice ta2 tn2 tc2, .slice ma2 mn2 mc2, .slice sa2 sn2 sc2] 31) = w6 := ⟨_, rfl⟩
    have hb6 : Below w5.heap.size w5 w6 := hw6 ▸ below_alloc w5 _
    have hx6 : w6.heap[w5.heap.size]? = some (.cells #[.slice ta2 tn2 tc2, .slice ma2 mn2 mc2, .slice sa2 sn2 sc2] 31) := by rw [← hw6]; exact heap_alloc_new w5 _
    have hbb : Below w4.heap.size w4 w6 := hb5.trans (hb6.mono hb5.size)
    have HV1 := Lib.hid (HV4.out.below hbb)
    have HV2 := Lib.hid (hv.below hb6)
    obtain ⟨c0, c1, c2⟩ := box3v ((hbb.block w3.heap.size hs4).trans HX4.out)
    obtain ⟨e0, e1, e2⟩ := box3v hx6
    have HB6 : Hid (Below w.heap.size w w6) := Lib.hid (HB0.out.trans ((HB4.out.trans (hbb.mono HB4.out.size)).mono HB0.out.size))
    have HW6 := Lib.hid hw6
    have hsame := fun w' (hb : Below w6.heap.size w6 w') => sameV_true w' (HV1.out.below hb) (HV2.out.below hb)
    clear hfr2 hb5 hb6 hx6 hbb hv hw6 hcc
    rcases HCC.out with ⟨hg1, rfl⟩ | ⟨hg1, rfl⟩
    · rcases HCD.out with ⟨hg2, rfl⟩ | ⟨hg2, rfl⟩
      · clear HCC HCD hg1 hg2
        go_wp2_with (fail)
        rw [HW6.out]
        refine (fixed_calls w6).mono ?_
        rintro e w7 ⟨rfl, hb7⟩
        obtain ⟨c0, c1, c2⟩ : _ ∧ _ ∧ _ := ⟨cell_below hb7 _ _ c0, cell_below hb7 _ _ c1, cell_below hb7 _ _ c2⟩
        obtain ⟨e0, e1, e2⟩ : _ ∧ _ ∧ _ := ⟨cell_below hb7 _ _ e0, cell_below hb7 _ _ e1, cell_below hb7 _ _ e2⟩
        have HB7 := Lib.hid hb7
        clear hb7
        go_wp2_with (fail)
        refine (hsame w7 HB7.out).mono ?_
        rintro e w8 ⟨rfl, hb8⟩
        go_wp2_with (fail)
        go_ret
        exact ⟨rfl, HB6.out.trans ((HB7.out.trans (hb8.mono HB7.out.size)).mono HB6.out.size)⟩
      · exact absurd hg1 hg2
    · rcases HCD.out with ⟨hg2, rfl⟩ | ⟨hg2, rfl⟩
      · exact absurd hg2 hg1
      · clear HCC HCD hg1 hg2
        go_wp2_with (fail)
        rw [HW6.out]
        refine (fixed_calls w6).mono ?_
        rintro e w7 ⟨rfl, hb7⟩
        obtain ⟨c0, c1, c2⟩ : _ ∧ _ ∧ _ := ⟨cell_below hb7 _ _ c0, cell_below hb7 _ _ c1, cell_below hb7 _ _ c2⟩
        obtain ⟨e0, e1, e2⟩ : _ ∧ _ ∧ _ := ⟨cell_below hb7 _ _ e0, cell_below hb7 _ _ e1, cell_below hb7 _ _ e2⟩
        have HB7 := Lib.hid hb7
        clear hb7
        go_wp2_with (fail)
        refine (hsame w7 HB7.out).mono ?_
        rintro e w8 ⟨rfl, hb8⟩
        go_wp2_with (fail)
        go_ret
        exact ⟨rfl, HB6.out.trans ((HB7.out.trans (hb8.mono HB7.out.size)).mono HB6.out.size)⟩

set_option maxRecDepth 100000 in
theorem vocabTables_law (W : World) (base : Nat) {H : Type} {enc : TypeId × Value → H} (args : Array Value) (ds : List (DataW H)) (p : List MemPlace)
    (hval : ∀ (j : Nat) t v, Try.f4.params[j]? = some t → args[j]? = some v → Value.okWide Try.prog W .any base t v)
    (hA : DataW.TrodAll enc Try.prog W 0 (fun _ => true) true Try.f4.params.toList args.toList ds p) :
    Frame.Law Try.prog 4 args W := by
  rw [Try.params4] at hA hval
  obtain ⟨v0, v1, d0, d1, p0, p1, rfl, rfl, rfl, h0, h1⟩ := Go.ChangeShapes.trodAll_two hA
  obtain ⟨ro, rn, rc, R, po, pn, pc, P, rfl, ⟨hR, hrs⟩, ⟨hP, hps⟩⟩ := tab_open (hval 0 41 v0 rfl rfl) h0
  obtain ⟨so, sn, sc, S, rfl, hS, hss⟩ := sps_open (hval 1 23 v1 rfl rfl) h1
  exact vocabTables_walk W hR hP hS hrs hps hss

set_option maxRecDepth 100000 in
theorem vocabTables_lifted (os : Os) (started : os.Started) (H : Type) (enc : TypeId × Value → H) :
    ReturnsInHanded {} Try.checked os 4 .any (Rows.vocabTablesSpec.pre6 enc Try.prog Try.f4 Rows.vocabTablesRow.domain false) (Rows.vocabTablesSpec.post enc Try.prog Try.f4 false true false false) :=
  Frame.law_lift (C := Try.checked) (fn := Try.f4) own started (by kernel_rfl) Try.func4 laidOut (by decide +kernel) rfl Try.underlying4 rfl
    (fun ds h => by match ds, h with | [d1, d2], _ => rfl)
    (ChangeSpec.witness6 (enc := enc) (C := Try.checked) false ⟨#[], #[.agg #[.slice none 0 0, .slice none 0 0], .slice none 0 0], []⟩ 8 (by kernel_rfl) (by kernel_rfl) (by kernel_rfl) (by kernel_rfl))
    (fun W base args ds p hval hA => vocabTables_law W base args ds p hval hA)

theorem vocabTables_holds : Rows.VocabTablesSaid :=
  OpenClaim.holds_of_wide 4 Try.f4 rfl rfl rfl rfl rfl rfl rfl ⟨rfl, rfl, rfl, rfl, rfl⟩ rfl rfl rfl rfl rfl (by kernel_rfl) Try.func4 (by kernel_rfl)
    (of_decide_eq_true (by kernel_rfl)) (by unfold Func.isWrapper; rw [if_neg (of_decide_eq_false (by kernel_rfl))]; exact ⟨rfl, rfl⟩)
    (fun os started H enc _ => vocabTables_lifted os started H enc)

#print axioms vocabTables_holds
end Go.Proofs.Yteoncpkfinheoaa
