/- VocabLooks: of any vocabulary the number of any bytes, the bytes and the name of any number, and the number of any name, are the document's. (Printed by gLooks.py.) -/
import Derived.Test.YtamicpkjdgfgiaaLook
import Derived.Test.YtamicpkjdgfgiaaLawV
import Derived.Test.YtamicpkjdgfgiaaRows
import Derived.Carry
namespace Go.Proofs.Ytamicpkjdgfgiaa
open Go.RowKit Go.WideShapes
set_option linter.unusedVariables false

/-- What the law has seen of the specials from k on. -/
def Seen (S : List Sp) (id : Int) (nm : ByteArray) (k : Nat) (nn : ByteArray) (ff : Int) (cc : Bool) : Prop :=
  nn = nmOf (spBy (S.drop k) id) ∧ cc = (spBy (S.drop k) id).isSome ∧ ff = idOf (spNamed (S.drop k) nm)
theorem Seen.start {S : List Sp} {id : Int} {nm : ByteArray} {n : Nat} (h : S.length = n) : Seen S id nm n ByteArray.empty (-1) false := by
  unfold Seen
  rw [List.drop_of_length_le (by omega)]
  exact ⟨rfl, rfl, rfl⟩
theorem drop_sp {S : List Sp} {k : Nat} (h : k < S.length) : S.drop k = sp S k :: S.drop (k + 1) := by
  rw [List.drop_eq_getElem_cons h, sp_get h]
theorem spBy_cons (x : Sp) (S : List Sp) (id : Int) : spBy (x :: S) id = if x.id = id then some x else spBy S id := by
  unfold spBy
  by_cases h : x.id = id <;> simp [List.find?, h]
theorem spNamed_cons (x : Sp) (S : List Sp) (nm : ByteArray) : spNamed (x :: S) nm = if x.name = nm then some x else spNamed S nm := by
  unfold spNamed
  by_cases h : x.name = nm <;> simp [List.find?, h]
theorem Seen.step {S : List Sp} {id : Int} {nm : ByteArray} {k : Nat} {nn : ByteArray} {ff : Int} {cc : Bool} (h : Seen S id nm (k + 1) nn ff cc) (hk : k < S.length) {sn : ByteArray} {sid : Int} (hs : sp S k = ⟨sn, sid⟩)
    {nn' : ByteArray} {ff' : Int} {cc' : Bool} (h1 : (sid = id ∧ nn' = sn ∧ cc' = true) ∨ (sid ≠ id ∧ nn' = nn ∧ cc' = cc)) (h2 : (sn = nm ∧ ff' = sid) ∨ (sn ≠ nm ∧ ff' = ff)) : Seen S id nm k nn' ff' cc' := by
  obtain ⟨e1, e2, e3⟩ := h
  unfold Seen
  rw [drop_sp hk, hs, spBy_cons, spNamed_cons]
  refine ⟨?_, ?_, ?_⟩
  · rcases h1 with ⟨a, b, c⟩ | ⟨a, b, c⟩
    · rw [if_pos a, b]; rfl
    · rw [if_neg a, b, e1]
  · rcases h1 with ⟨a, b, c⟩ | ⟨a, b, c⟩
    · rw [if_pos a, c]; rfl
    · rw [if_neg a, c, e2]
  · rcases h2 with ⟨a, b⟩ | ⟨a, b⟩
    · rw [if_pos a, b]; rfl
    · rw [if_neg a, b, e3]
theorem Seen.all {S : List Sp} {id : Int} {nm : ByteArray} {nn : ByteArray} {ff : Int} {cc : Bool} (h : Seen S id nm 0 nn ff cc) : nn = nmOf (spBy S id) ∧ cc = (spBy S id).isSome ∧ ff = idOf (spNamed S nm) := h

set_option maxHeartbeats 4000000 in
set_option maxRecDepth 100000 in
theorem vocabLooks_walk {V : Vc} {dd : Vd} {id : Int} {tok nm : ByteArray} (w : World) (hV : VocR w dd V) (hT : ∀ s ∈ V.tokens, s.size ≤ maxLen) (hS : ∀ s ∈ V.specials, s.name.size ≤ maxLen) (htk : tok.size ≤ maxLen) (hnm : nm.size ≤ maxLen) :
    Frame.Law Try.prog 7 #[dd.val, .int .i64 id, .string tok, .string nm] w := by
  unfold Frame.Law
  obtain ⟨ta, tn, tc, ma, mn, mc, sa, sn, sc⟩ := dd
  obtain ⟨w0, hw0⟩ : ∃ w0, w.alloc (.cells #[.slice ta tn tc, .slice ma mn mc, .slice sa sn sc] 26) = w0 := ⟨_, rfl⟩
  have hb0 : Below w.heap.size w w0 := hw0 ▸ below_alloc w _
  have hx0 : w0.heap[w.heap.size]? = some (.cells #[.slice ta tn tc, .slice ma mn mc, .slice sa sn sc] 26) := by rw [← hw0]; exact heap_alloc_new w _
  have hs0 : w.heap.size < w0.heap.size := by rw [← hw0]; simp
  obtain ⟨c0, c1, c2⟩ := box3v hx0
  have hnl := hV.spc.count Sp.enc_len (by omega)
  simp only at hnl
  have HNL := Lib.hid hnl
  have hm := Nat.le_trans hV.spc.le hV.spc.max
  have hm2 := Nat.le_trans (Sl.le hV.tok) (Sl.max hV.tok)
  simp only at hm hm2
  unfold maxLen at hm hm2 htk hnm
  have HTN := Lib.hid hV.tok.count
  have HV := Lib.hid (hV.below hb0)
  have HB0 := Lib.hid hb0
  have HX0 := Lib.hid hx0
  have HOK : Hid ((∀ s ∈ V.tokens, s.size ≤ maxLen) ∧ Sized V.specials) := Lib.hid ⟨hT, hS⟩
  have HW0 := Lib.hid hw0
  clear hV hb0 hx0 hw0 hT hS hnl
  have hgr := great_val (dd := ⟨ta, tn, tc, ma, mn, mc, sa, sn, sc⟩) w0 HV.out HOK.out
  have hname := fun w' (hb : Below w0.heap.size w0 w') => name_calls (dd := ⟨ta, tn, tc, ma, mn, mc, sa, sn, sc⟩) id w' (HV.out.below hb)
  go_enter Try.func7, Try.ntmps7
  go_wp2_with (fail)
  rw [HW0.out]
  refine hgr.mono ?_
  rintro e w1 ⟨rfl, hb1⟩
  have HB1 := Lib.hid hb1
  clear c0 c1 c2
  obtain ⟨c0, c1, c2⟩ := box3v ((HB1.out.block w.heap.size hs0).trans HX0.out)
  clear hb1 hgr
  cases hg : gV V with
  | true =>
    go_wp2_with (fail)
    refine (fixed_calls _).mono ?_
    rintro e w2 ⟨rfl, hb2⟩
    go_wp2_with (fail)
    go_ret
    exact ⟨rfl, HB0.out.trans ((HB1.out.trans (hb2.mono HB1.out.size)).mono HB0.out.size)⟩
  | false =>
    clear hg
    by_cases h80 : (80 : Int) < tok.size
    · go_wp2_with (fail)
      refine (fixed_calls _).mono ?_
      rintro e w2 ⟨rfl, hb2⟩
      go_wp2_with (fail)
      go_ret
      exact ⟨rfl, HB0.out.trans ((HB1.out.trans (hb2.mono HB1.out.size)).mono HB0.out.size)⟩
    by_cases h40 : (40 : Int) < nm.size
    · go_wp2_with (fail)
      refine (fixed_calls _).mono ?_
      rintro e w2 ⟨rfl, hb2⟩
      go_wp2_with (fail)
      go_ret
      exact ⟨rfl, HB0.out.trans ((HB1.out.trans (hb2.mono HB1.out.size)).mono HB0.out.size)⟩
    have hby := vbytes_calls (dd := ⟨ta, tn, tc, ma, mn, mc, sa, sn, sc⟩) id w1 (HV.out.below HB1.out)
    go_wp2_with (fail)
    refine hby.mono ?_
    rintro e w2 ⟨rfl, hb2⟩
    have HB2 := Lib.hid (HB1.out.trans (hb2.mono HB1.out.size))
    clear hb2 hby
    clear c0 c1 c2
    obtain ⟨c0, c1, c2⟩ := box3v ((HB2.out.block w.heap.size hs0).trans HX0.out)
    by_cases hin : 0 ≤ id ∧ id < tn
    · obtain ⟨h0, h1⟩ := hin
      obtain ⟨q, rfl⟩ := Int.eq_ofNat_of_zero_le h0
      have hq : q < tn := by omega
      have hqT : q < V.tokens.length := by have := HTN.out; omega
      obtain ⟨tb, to_, hao, hc⟩ := (HV.out.below HB2.out).tok.cell (tk_eq hqT)
      simp only at hao
      subst hao
      by_cases hz : (tk V.tokens q).size = 0
      · obtain ⟨e1, e2, e3⟩ := strE_yes hz
        have hem := size_zero.1 hz
        have hi : isTk V.tokens (q : Int) = false := by rw [isTk_at hqT]; simp [hz]
        have hbo : bytesOf V.tokens (q : Int) = tk V.tokens q := by unfold bytesOf; rw [hi, hem]; rfl
        rw [hi, hbo]
        obtain ⟨bb, hbb⟩ : ∃ bb, tk V.tokens q = bb := ⟨_, rfl⟩
        rw [hbb] at hc e1 e2 e3 ⊢
        clear hi hbo hem hz hbb hqT
        go_wp2_with (fail)
        go_quiet (fail)
        go_wp2_with (fail)
        refine (hname _ (below_drewN HB2.out _)).mono ?_
        rintro e w3 ⟨rfl, hb3⟩
        have HB3 := Lib.hid ((below_drewN HB2.out _).trans (hb3.mono (below_drewN HB2.out _).size))
        clear hb3
        clear c0 c1 c2
        obtain ⟨c0, c1, c2⟩ := box3v ((HB3.out.block w.heap.size hs0).trans HX0.out)
        go_wp2_with (fail)
        go_loop [15, 16, 17, 18] (fun n f c i => ∃ (k : Nat) (nn : ByteArray) (ff : Int) (cc : Bool), k ≤ sn ∧ n = .string nn ∧ f = .int .i64 ff ∧ c = .bool cc ∧ i = .int .i64 ((k : Int) - 1) ∧ Hid (Seen V.specials (q : Int) nm k nn ff cc)) (fun _ _ _ i => (intOf i + 1).toNat)
        case atStart => exact ⟨sn, ByteArray.empty, -1, false, Nat.le_refl _, rfl, rfl, rfl, rfl, Lib.hid (Seen.start HNL.out)⟩
        case round =>
          obtain ⟨k, nn, ff, cc, hk, rfl, rfl, rfl, rfl, HSE⟩ := hrel
          by_cases hk0 : 0 < k
          · obtain ⟨k, rfl⟩ : ∃ j, k = j + 1 := ⟨k - 1, by omega⟩
            have hkS : k < V.specials.length := by have := HNL.out; omega
            obtain ⟨b, of, hao, hce⟩ := (HV.out.below HB3.out).spc.elem Sp.enc_len (by omega) (sp_eq hkS)
            simp only at hao
            subst hao
            obtain ⟨⟨xn, xid⟩, hseq⟩ : ∃ m, sp V.specials k = m := ⟨_, rfl⟩
            have HSQ := Lib.hid hseq
            rw [hseq] at hce
            have d0 := hce 0 _ rfl
            have d1 := hce 1 _ rfl
            rw [Nat.add_zero] at d0
            simp only at d0 d1
            clear hce hseq
            have hkk : ((k + 1 : Nat) : Int) - 1 = (k : Int) := by omega
            rw [hkk]
            have hk1 : k < sn := by omega
            have HKS := Lib.hid hkS
            clear hkS hk0
            by_cases h1 : xid = (q : Int)
            · have g1 : (xid == (q : Int)) = true := by simpa using h1
              have H1 := Lib.hid h1
              clear h1
              by_cases h2 : xn = nm
              · have g2 := beqS_yes h2
                have HST := Lib.hid (HSE.out.step HKS.out HSQ.out (nn' := xn) (cc' := true) (ff' := xid) (.inl ⟨H1.out, rfl, rfl⟩) (.inl ⟨h2, rfl⟩))
                clear h2
                go_wp2_with (fail)
                go_round
                case rel => exact ⟨k, xn, xid, true, by omega, rfl, rfl, rfl, by go_num, HST⟩
                case measure => first | (simp [intOf]; done) | (simp [intOf]; omega)
              · have g2 := beqS_no h2
                have HST := Lib.hid (HSE.out.step HKS.out HSQ.out (nn' := xn) (cc' := true) (ff' := ff) (.inl ⟨H1.out, rfl, rfl⟩) (.inr ⟨h2, rfl⟩))
                clear h2
                go_wp2_with (fail)
                go_round
                case rel => exact ⟨k, xn, ff, true, by omega, rfl, rfl, rfl, by go_num, HST⟩
                case measure => first | (simp [intOf]; done) | (simp [intOf]; omega)
            · have g1 : (xid == (q : Int)) = false := by simpa using h1
              have H1 := Lib.hid h1
              clear h1
              by_cases h2 : xn = nm
              · have g2 := beqS_yes h2
                have HST := Lib.hid (HSE.out.step HKS.out HSQ.out (nn' := nn) (cc' := cc) (ff' := xid) (.inr ⟨H1.out, rfl, rfl⟩) (.inl ⟨h2, rfl⟩))
                clear h2
                go_wp2_with (fail)
                go_round
                case rel => exact ⟨k, nn, xid, cc, by omega, rfl, rfl, rfl, by go_num, HST⟩
                case measure => first | (simp [intOf]; done) | (simp [intOf]; omega)
              · have g2 := beqS_no h2
                have HST := Lib.hid (HSE.out.step HKS.out HSQ.out (nn' := nn) (cc' := cc) (ff' := ff) (.inr ⟨H1.out, rfl, rfl⟩) (.inr ⟨h2, rfl⟩))
                clear h2
                go_wp2_with (fail)
                go_round
                case rel => exact ⟨k, nn, ff, cc, by omega, rfl, rfl, rfl, by go_num, HST⟩
                case measure => first | (simp [intOf]; done) | (simp [intOf]; omega)
          · obtain rfl : k = 0 := by omega
            obtain ⟨e1, e2, e3⟩ := HSE.out.all
            have hng : ¬ ((0 : Nat) : Int) - 1 ≥ 0 := by omega
            rw [← e1, ← e2]
            have HE3 := Lib.hid e3
            have hof := fun w' (hb : Below w0.heap.size w0 w') => of_calls (d := ⟨some ⟨tb, to_, none⟩, tn, tc, ma, mn, mc, sa, sn, sc⟩) tok w' (HV.out.below hb)
            have hrf := fun w' (hb : Below w0.heap.size w0 w') => rof_calls tok w' (HV.out.below hb).tok
            have hid := fun w' (hb : Below w0.heap.size w0 w') => id_calls (dd := ⟨some ⟨tb, to_, none⟩, tn, tc, ma, mn, mc, sa, sn, sc⟩) nm w' (HV.out.below hb)
            rw [← HE3.out] at hid
            generalize ofT V.tokens tok = oo at hof hrf
            have hoo : (oo == oo) = true := by simp
            have hff : (ff == ff) = true := by simp
            have hnn : (nn.toList == nn.toList) = true := by simp
            have hww : (bb.toList == bb.toList) = true := by simp
            have hcc : (cc == cc) = true := by simp
            have hun : undef = Value.tuple #[] := rfl
            clear e1 e2 e3 hname
            go_wp2_with (fail)
            (go_region_held3 (fun w' => w'.cell? ⟨w.heap.size, 0, none⟩ = some (.slice (some ⟨tb, to_, none⟩) tn tc) ∧ w'.cell? ⟨w.heap.size, 1, none⟩ = some (.slice ma mn mc) ∧ w'.cell? ⟨w.heap.size, 2, none⟩ = some (.slice sa sn sc) ∧ Below w0.heap.size w0 w') (first | assumption | exact keepV (by assumption) (by assumption) | exact ⟨c0, c1, c2, HB3.out.drew⟩)
                (first
                  | (go_at_call 21; refine (hof _ (And.right (And.right (And.right (by assumption))))).mono ?_; rintro e w9 ⟨rfl, hb9⟩)
                  | (go_at_call 22; refine (hrf _ (And.right (And.right (And.right (by assumption))))).mono ?_; rintro e w9 ⟨rfl, rfl⟩)
                  | (go_at_call 23; refine (hid _ (And.right (And.right (And.right (by assumption))))).mono ?_; rintro e w9 ⟨rfl, hb9⟩)
                  | (go_at_call 10; refine (fixed_calls _).mono ?_; rintro e w9 ⟨rfl, hb9⟩)))
            all_goals (go_wp2_with fail; go_ret; exact ⟨rfl, HB0.out.trans (Below.mono (And.right (And.right (And.right (by assumption)))) HB0.out.size)⟩)
      · obtain ⟨e1, e2, e3⟩ := strE_no hz
        have hi : isTk V.tokens (q : Int) = true := by rw [isTk_at hqT]; simp [hz]
        have hbo : bytesOf V.tokens (q : Int) = tk V.tokens q := by unfold bytesOf; rw [hi]; rfl
        rw [hi, hbo]
        obtain ⟨bb, hbb⟩ : ∃ bb, tk V.tokens q = bb := ⟨_, rfl⟩
        rw [hbb] at hc e1 e2 e3 ⊢
        clear hi hbo hz hbb hqT
        go_wp2_with (fail)
        go_quiet (fail)
        go_wp2_with (fail)
        refine (hname _ (below_drewN HB2.out _)).mono ?_
        rintro e w3 ⟨rfl, hb3⟩
        have HB3 := Lib.hid ((below_drewN HB2.out _).trans (hb3.mono (below_drewN HB2.out _).size))
        clear hb3
        clear c0 c1 c2
        obtain ⟨c0, c1, c2⟩ := box3v ((HB3.out.block w.heap.size hs0).trans HX0.out)
        go_wp2_with (fail)
        go_loop [15, 16, 17, 18] (fun n f c i => ∃ (k : Nat) (nn : ByteArray) (ff : Int) (cc : Bool), k ≤ sn ∧ n = .string nn ∧ f = .int .i64 ff ∧ c = .bool cc ∧ i = .int .i64 ((k : Int) - 1) ∧ Hid (Seen V.specials (q : Int) nm k nn ff cc)) (fun _ _ _ i => (intOf i + 1).toNat)
        case atStart => exact ⟨sn, ByteArray.empty, -1, false, Nat.le_refl _, rfl, rfl, rfl, rfl, Lib.hid (Seen.start HNL.out)⟩
        case round =>
          obtain ⟨k, nn, ff, cc, hk, rfl, rfl, rfl, rfl, HSE⟩ := hrel
          by_cases hk0 : 0 < k
          · obtain ⟨k, rfl⟩ : ∃ j, k = j + 1 := ⟨k - 1, by omega⟩
            have hkS : k < V.specials.length := by have := HNL.out; omega
            obtain ⟨b, of, hao, hce⟩ := (HV.out.below HB3.out).spc.elem Sp.enc_len (by omega) (sp_eq hkS)
            simp only at hao
            subst hao
            obtain ⟨⟨xn, xid⟩, hseq⟩ : ∃ m, sp V.specials k = m := ⟨_, rfl⟩
            have HSQ := Lib.hid hseq
            rw [hseq] at hce
            have d0 := hce 0 _ rfl
            have d1 := hce 1 _ rfl
            rw [Nat.add_zero] at d0
            simp only at d0 d1
            clear hce hseq
            have hkk : ((k + 1 : Nat) : Int) - 1 = (k : Int) := by omega
            rw [hkk]
            have hk1 : k < sn := by omega
            have HKS := Lib.hid hkS
            clear hkS hk0
            by_cases h1 : xid = (q : Int)
            · have g1 : (xid == (q : Int)) = true := by simpa using h1
              have H1 := Lib.hid h1
              clear h1
              by_cases h2 : xn = nm
              · have g2 := beqS_yes h2
                have HST := Lib.hid (HSE.out.step HKS.out HSQ.out (nn' := xn) (cc' := true) (ff' := xid) (.inl ⟨H1.out, rfl, rfl⟩) (.inl ⟨h2, rfl⟩))
                clear h2
                go_wp2_with (fail)
                go_round
                case rel => exact ⟨k, xn, xid, true, by omega, rfl, rfl, rfl, by go_num, HST⟩
                case measure => first | (simp [intOf]; done) | (simp [intOf]; omega)
              · have g2 := beqS_no h2
                have HST := Lib.hid (HSE.out.step HKS.out HSQ.out (nn' := xn) (cc' := true) (ff' := ff) (.inl ⟨H1.out, rfl, rfl⟩) (.inr ⟨h2, rfl⟩))
                clear h2
                go_wp2_with (fail)
                go_round
                case rel => exact ⟨k, xn, ff, true, by omega, rfl, rfl, rfl, by go_num, HST⟩
                case measure => first | (simp [intOf]; done) | (simp [intOf]; omega)
            · have g1 : (xid == (q : Int)) = false := by simpa using h1
              have H1 := Lib.hid h1
              clear h1
              by_cases h2 : xn = nm
              · have g2 := beqS_yes h2
                have HST := Lib.hid (HSE.out.step HKS.out HSQ.out (nn' := nn) (cc' := cc) (ff' := xid) (.inr ⟨H1.out, rfl, rfl⟩) (.inl ⟨h2, rfl⟩))
                clear h2
                go_wp2_with (fail)
                go_round
                case rel => exact ⟨k, nn, xid, cc, by omega, rfl, rfl, rfl, by go_num, HST⟩
                case measure => first | (simp [intOf]; done) | (simp [intOf]; omega)
              · have g2 := beqS_no h2
                have HST := Lib.hid (HSE.out.step HKS.out HSQ.out (nn' := nn) (cc' := cc) (ff' := ff) (.inr ⟨H1.out, rfl, rfl⟩) (.inr ⟨h2, rfl⟩))
                clear h2
                go_wp2_with (fail)
                go_round
                case rel => exact ⟨k, nn, ff, cc, by omega, rfl, rfl, rfl, by go_num, HST⟩
                case measure => first | (simp [intOf]; done) | (simp [intOf]; omega)
          · obtain rfl : k = 0 := by omega
            obtain ⟨e1, e2, e3⟩ := HSE.out.all
            have hng : ¬ ((0 : Nat) : Int) - 1 ≥ 0 := by omega
            rw [← e1, ← e2]
            have HE3 := Lib.hid e3
            have hof := fun w' (hb : Below w0.heap.size w0 w') => of_calls (d := ⟨some ⟨tb, to_, none⟩, tn, tc, ma, mn, mc, sa, sn, sc⟩) tok w' (HV.out.below hb)
            have hrf := fun w' (hb : Below w0.heap.size w0 w') => rof_calls tok w' (HV.out.below hb).tok
            have hid := fun w' (hb : Below w0.heap.size w0 w') => id_calls (dd := ⟨some ⟨tb, to_, none⟩, tn, tc, ma, mn, mc, sa, sn, sc⟩) nm w' (HV.out.below hb)
            rw [← HE3.out] at hid
            generalize ofT V.tokens tok = oo at hof hrf
            have hoo : (oo == oo) = true := by simp
            have hff : (ff == ff) = true := by simp
            have hnn : (nn.toList == nn.toList) = true := by simp
            have hww : (bb.toList == bb.toList) = true := by simp
            have hcc : (cc == cc) = true := by simp
            have hun : undef = Value.tuple #[] := rfl
            clear e1 e2 e3 hname
            go_wp2_with (fail)
            (go_region_held3 (fun w' => w'.cell? ⟨w.heap.size, 0, none⟩ = some (.slice (some ⟨tb, to_, none⟩) tn tc) ∧ w'.cell? ⟨w.heap.size, 1, none⟩ = some (.slice ma mn mc) ∧ w'.cell? ⟨w.heap.size, 2, none⟩ = some (.slice sa sn sc) ∧ Below w0.heap.size w0 w') (first | assumption | exact keepV (by assumption) (by assumption) | exact ⟨c0, c1, c2, HB3.out.drew⟩)
                (first
                  | (go_at_call 21; refine (hof _ (And.right (And.right (And.right (by assumption))))).mono ?_; rintro e w9 ⟨rfl, hb9⟩)
                  | (go_at_call 22; refine (hrf _ (And.right (And.right (And.right (by assumption))))).mono ?_; rintro e w9 ⟨rfl, rfl⟩)
                  | (go_at_call 23; refine (hid _ (And.right (And.right (And.right (by assumption))))).mono ?_; rintro e w9 ⟨rfl, hb9⟩)
                  | (go_at_call 10; refine (fixed_calls _).mono ?_; rintro e w9 ⟨rfl, hb9⟩)))
            all_goals (go_wp2_with fail; go_ret; exact ⟨rfl, HB0.out.trans (Below.mono (And.right (And.right (And.right (by assumption)))) HB0.out.size)⟩)
    · have hi : isTk V.tokens id = false := by
        cases h : isTk V.tokens id with
        | false => rfl
        | true =>
          have := isTk_iff.1 h
          have h2 := HTN.out
          exact absurd ⟨this.1, by omega⟩ hin
      have hbo : bytesOf V.tokens id = ByteArray.empty := by unfold bytesOf; rw [hi]; rfl
      rw [hi, hbo]
      clear hi hbo
      by_cases h0 : 0 ≤ id
      · have h1 : ¬ id < tn := fun h => hin ⟨h0, h⟩
        clear hin
        go_wp2_with (fail)
        refine (hname _ (HB2.out)).mono ?_
        rintro e w3 ⟨rfl, hb3⟩
        have HB3 := Lib.hid ((HB2.out).trans (hb3.mono (HB2.out).size))
        clear hb3
        clear c0 c1 c2
        obtain ⟨c0, c1, c2⟩ := box3v ((HB3.out.block w.heap.size hs0).trans HX0.out)
        go_wp2_with (fail)
        go_loop [15, 16, 17, 18] (fun n f c i => ∃ (k : Nat) (nn : ByteArray) (ff : Int) (cc : Bool), k ≤ sn ∧ n = .string nn ∧ f = .int .i64 ff ∧ c = .bool cc ∧ i = .int .i64 ((k : Int) - 1) ∧ Hid (Seen V.specials id nm k nn ff cc)) (fun _ _ _ i => (intOf i + 1).toNat)
        case atStart => exact ⟨sn, ByteArray.empty, -1, false, Nat.le_refl _, rfl, rfl, rfl, rfl, Lib.hid (Seen.start HNL.out)⟩
        case round =>
          obtain ⟨k, nn, ff, cc, hk, rfl, rfl, rfl, rfl, HSE⟩ := hrel
          by_cases hk0 : 0 < k
          · obtain ⟨k, rfl⟩ : ∃ j, k = j + 1 := ⟨k - 1, by omega⟩
            have hkS : k < V.specials.length := by have := HNL.out; omega
            obtain ⟨b, of, hao, hce⟩ := (HV.out.below HB3.out).spc.elem Sp.enc_len (by omega) (sp_eq hkS)
            simp only at hao
            subst hao
            obtain ⟨⟨xn, xid⟩, hseq⟩ : ∃ m, sp V.specials k = m := ⟨_, rfl⟩
            have HSQ := Lib.hid hseq
            rw [hseq] at hce
            have d0 := hce 0 _ rfl
            have d1 := hce 1 _ rfl
            rw [Nat.add_zero] at d0
            simp only at d0 d1
            clear hce hseq
            have hkk : ((k + 1 : Nat) : Int) - 1 = (k : Int) := by omega
            rw [hkk]
            have hk1 : k < sn := by omega
            have HKS := Lib.hid hkS
            clear hkS hk0
            by_cases h1 : xid = id
            · have g1 : (xid == id) = true := by simpa using h1
              have H1 := Lib.hid h1
              clear h1
              by_cases h2 : xn = nm
              · have g2 := beqS_yes h2
                have HST := Lib.hid (HSE.out.step HKS.out HSQ.out (nn' := xn) (cc' := true) (ff' := xid) (.inl ⟨H1.out, rfl, rfl⟩) (.inl ⟨h2, rfl⟩))
                clear h2
                go_wp2_with (fail)
                go_round
                case rel => exact ⟨k, xn, xid, true, by omega, rfl, rfl, rfl, by go_num, HST⟩
                case measure => first | (simp [intOf]; done) | (simp [intOf]; omega)
              · have g2 := beqS_no h2
                have HST := Lib.hid (HSE.out.step HKS.out HSQ.out (nn' := xn) (cc' := true) (ff' := ff) (.inl ⟨H1.out, rfl, rfl⟩) (.inr ⟨h2, rfl⟩))
                clear h2
                go_wp2_with (fail)
                go_round
                case rel => exact ⟨k, xn, ff, true, by omega, rfl, rfl, rfl, by go_num, HST⟩
                case measure => first | (simp [intOf]; done) | (simp [intOf]; omega)
            · have g1 : (xid == id) = false := by simpa using h1
              have H1 := Lib.hid h1
              clear h1
              by_cases h2 : xn = nm
              · have g2 := beqS_yes h2
                have HST := Lib.hid (HSE.out.step HKS.out HSQ.out (nn' := nn) (cc' := cc) (ff' := xid) (.inr ⟨H1.out, rfl, rfl⟩) (.inl ⟨h2, rfl⟩))
                clear h2
                go_wp2_with (fail)
                go_round
                case rel => exact ⟨k, nn, xid, cc, by omega, rfl, rfl, rfl, by go_num, HST⟩
                case measure => first | (simp [intOf]; done) | (simp [intOf]; omega)
              · have g2 := beqS_no h2
                have HST := Lib.hid (HSE.out.step HKS.out HSQ.out (nn' := nn) (cc' := cc) (ff' := ff) (.inr ⟨H1.out, rfl, rfl⟩) (.inr ⟨h2, rfl⟩))
                clear h2
                go_wp2_with (fail)
                go_round
                case rel => exact ⟨k, nn, ff, cc, by omega, rfl, rfl, rfl, by go_num, HST⟩
                case measure => first | (simp [intOf]; done) | (simp [intOf]; omega)
          · obtain rfl : k = 0 := by omega
            obtain ⟨e1, e2, e3⟩ := HSE.out.all
            have hng : ¬ ((0 : Nat) : Int) - 1 ≥ 0 := by omega
            rw [← e1, ← e2]
            have HE3 := Lib.hid e3
            have hof := fun w' (hb : Below w0.heap.size w0 w') => of_calls (d := ⟨ta, tn, tc, ma, mn, mc, sa, sn, sc⟩) tok w' (HV.out.below hb)
            have hrf := fun w' (hb : Below w0.heap.size w0 w') => rof_calls tok w' (HV.out.below hb).tok
            have hid := fun w' (hb : Below w0.heap.size w0 w') => id_calls (dd := ⟨ta, tn, tc, ma, mn, mc, sa, sn, sc⟩) nm w' (HV.out.below hb)
            rw [← HE3.out] at hid
            generalize ofT V.tokens tok = oo at hof hrf
            have hoo : (oo == oo) = true := by simp
            have hff : (ff == ff) = true := by simp
            have hnn : (nn.toList == nn.toList) = true := by simp
            have hww : (ByteArray.empty.toList == ByteArray.empty.toList) = true := by simp
            have hcc : (cc == cc) = true := by simp
            have hun : undef = Value.tuple #[] := rfl
            clear e1 e2 e3 hname
            go_wp2_with (fail)
            (go_region_held3 (fun w' => w'.cell? ⟨w.heap.size, 0, none⟩ = some (.slice (ta) tn tc) ∧ w'.cell? ⟨w.heap.size, 1, none⟩ = some (.slice ma mn mc) ∧ w'.cell? ⟨w.heap.size, 2, none⟩ = some (.slice sa sn sc) ∧ Below w0.heap.size w0 w') (first | assumption | exact keepV (by assumption) (by assumption) | exact ⟨c0, c1, c2, HB3.out.drew⟩)
                (first
                  | (go_at_call 21; refine (hof _ (And.right (And.right (And.right (by assumption))))).mono ?_; rintro e w9 ⟨rfl, hb9⟩)
                  | (go_at_call 22; refine (hrf _ (And.right (And.right (And.right (by assumption))))).mono ?_; rintro e w9 ⟨rfl, rfl⟩)
                  | (go_at_call 23; refine (hid _ (And.right (And.right (And.right (by assumption))))).mono ?_; rintro e w9 ⟨rfl, hb9⟩)
                  | (go_at_call 10; refine (fixed_calls _).mono ?_; rintro e w9 ⟨rfl, hb9⟩)))
            all_goals (go_wp2_with fail; go_ret; exact ⟨rfl, HB0.out.trans (Below.mono (And.right (And.right (And.right (by assumption)))) HB0.out.size)⟩)
      · clear hin
        go_wp2_with (fail)
        refine (hname _ (HB2.out)).mono ?_
        rintro e w3 ⟨rfl, hb3⟩
        have HB3 := Lib.hid ((HB2.out).trans (hb3.mono (HB2.out).size))
        clear hb3
        clear c0 c1 c2
        obtain ⟨c0, c1, c2⟩ := box3v ((HB3.out.block w.heap.size hs0).trans HX0.out)
        go_wp2_with (fail)
        go_loop [15, 16, 17, 18] (fun n f c i => ∃ (k : Nat) (nn : ByteArray) (ff : Int) (cc : Bool), k ≤ sn ∧ n = .string nn ∧ f = .int .i64 ff ∧ c = .bool cc ∧ i = .int .i64 ((k : Int) - 1) ∧ Hid (Seen V.specials id nm k nn ff cc)) (fun _ _ _ i => (intOf i + 1).toNat)
        case atStart => exact ⟨sn, ByteArray.empty, -1, false, Nat.le_refl _, rfl, rfl, rfl, rfl, Lib.hid (Seen.start HNL.out)⟩
        case round =>
          obtain ⟨k, nn, ff, cc, hk, rfl, rfl, rfl, rfl, HSE⟩ := hrel
          by_cases hk0 : 0 < k
          · obtain ⟨k, rfl⟩ : ∃ j, k = j + 1 := ⟨k - 1, by omega⟩
            have hkS : k < V.specials.length := by have := HNL.out; omega
            obtain ⟨b, of, hao, hce⟩ := (HV.out.below HB3.out).spc.elem Sp.enc_len (by omega) (sp_eq hkS)
            simp only at hao
            subst hao
            obtain ⟨⟨xn, xid⟩, hseq⟩ : ∃ m, sp V.specials k = m := ⟨_, rfl⟩
            have HSQ := Lib.hid hseq
            rw [hseq] at hce
            have d0 := hce 0 _ rfl
            have d1 := hce 1 _ rfl
            rw [Nat.add_zero] at d0
            simp only at d0 d1
            clear hce hseq
            have hkk : ((k + 1 : Nat) : Int) - 1 = (k : Int) := by omega
            rw [hkk]
            have hk1 : k < sn := by omega
            have HKS := Lib.hid hkS
            clear hkS hk0
            by_cases h1 : xid = id
            · have g1 : (xid == id) = true := by simpa using h1
              have H1 := Lib.hid h1
              clear h1
              by_cases h2 : xn = nm
              · have g2 := beqS_yes h2
                have HST := Lib.hid (HSE.out.step HKS.out HSQ.out (nn' := xn) (cc' := true) (ff' := xid) (.inl ⟨H1.out, rfl, rfl⟩) (.inl ⟨h2, rfl⟩))
                clear h2
                go_wp2_with (fail)
                go_round
                case rel => exact ⟨k, xn, xid, true, by omega, rfl, rfl, rfl, by go_num, HST⟩
                case measure => first | (simp [intOf]; done) | (simp [intOf]; omega)
              · have g2 := beqS_no h2
                have HST := Lib.hid (HSE.out.step HKS.out HSQ.out (nn' := xn) (cc' := true) (ff' := ff) (.inl ⟨H1.out, rfl, rfl⟩) (.inr ⟨h2, rfl⟩))
                clear h2
                go_wp2_with (fail)
                go_round
                case rel => exact ⟨k, xn, ff, true, by omega, rfl, rfl, rfl, by go_num, HST⟩
                case measure => first | (simp [intOf]; done) | (simp [intOf]; omega)
            · have g1 : (xid == id) = false := by simpa using h1
              have H1 := Lib.hid h1
              clear h1
              by_cases h2 : xn = nm
              · have g2 := beqS_yes h2
                have HST := Lib.hid (HSE.out.step HKS.out HSQ.out (nn' := nn) (cc' := cc) (ff' := xid) (.inr ⟨H1.out, rfl, rfl⟩) (.inl ⟨h2, rfl⟩))
                clear h2
                go_wp2_with (fail)
                go_round
                case rel => exact ⟨k, nn, xid, cc, by omega, rfl, rfl, rfl, by go_num, HST⟩
                case measure => first | (simp [intOf]; done) | (simp [intOf]; omega)
              · have g2 := beqS_no h2
                have HST := Lib.hid (HSE.out.step HKS.out HSQ.out (nn' := nn) (cc' := cc) (ff' := ff) (.inr ⟨H1.out, rfl, rfl⟩) (.inr ⟨h2, rfl⟩))
                clear h2
                go_wp2_with (fail)
                go_round
                case rel => exact ⟨k, nn, ff, cc, by omega, rfl, rfl, rfl, by go_num, HST⟩
                case measure => first | (simp [intOf]; done) | (simp [intOf]; omega)
          · obtain rfl : k = 0 := by omega
            obtain ⟨e1, e2, e3⟩ := HSE.out.all
            have hng : ¬ ((0 : Nat) : Int) - 1 ≥ 0 := by omega
            rw [← e1, ← e2]
            have HE3 := Lib.hid e3
            have hof := fun w' (hb : Below w0.heap.size w0 w') => of_calls (d := ⟨ta, tn, tc, ma, mn, mc, sa, sn, sc⟩) tok w' (HV.out.below hb)
            have hrf := fun w' (hb : Below w0.heap.size w0 w') => rof_calls tok w' (HV.out.below hb).tok
            have hid := fun w' (hb : Below w0.heap.size w0 w') => id_calls (dd := ⟨ta, tn, tc, ma, mn, mc, sa, sn, sc⟩) nm w' (HV.out.below hb)
            rw [← HE3.out] at hid
            generalize ofT V.tokens tok = oo at hof hrf
            have hoo : (oo == oo) = true := by simp
            have hff : (ff == ff) = true := by simp
            have hnn : (nn.toList == nn.toList) = true := by simp
            have hww : (ByteArray.empty.toList == ByteArray.empty.toList) = true := by simp
            have hcc : (cc == cc) = true := by simp
            have hun : undef = Value.tuple #[] := rfl
            clear e1 e2 e3 hname
            go_wp2_with (fail)
            (go_region_held3 (fun w' => w'.cell? ⟨w.heap.size, 0, none⟩ = some (.slice (ta) tn tc) ∧ w'.cell? ⟨w.heap.size, 1, none⟩ = some (.slice ma mn mc) ∧ w'.cell? ⟨w.heap.size, 2, none⟩ = some (.slice sa sn sc) ∧ Below w0.heap.size w0 w') (first | assumption | exact keepV (by assumption) (by assumption) | exact ⟨c0, c1, c2, HB3.out.drew⟩)
                (first
                  | (go_at_call 21; refine (hof _ (And.right (And.right (And.right (by assumption))))).mono ?_; rintro e w9 ⟨rfl, hb9⟩)
                  | (go_at_call 22; refine (hrf _ (And.right (And.right (And.right (by assumption))))).mono ?_; rintro e w9 ⟨rfl, rfl⟩)
                  | (go_at_call 23; refine (hid _ (And.right (And.right (And.right (by assumption))))).mono ?_; rintro e w9 ⟨rfl, hb9⟩)
                  | (go_at_call 10; refine (fixed_calls _).mono ?_; rintro e w9 ⟨rfl, hb9⟩)))
            all_goals (go_wp2_with fail; go_ret; exact ⟨rfl, HB0.out.trans (Below.mono (And.right (And.right (And.right (by assumption)))) HB0.out.size)⟩)

set_option maxRecDepth 100000 in
theorem vocabLooks_law (W : World) (base : Nat) {H : Type} {enc : TypeId × Value → H} (args : Array Value) (ds : List (DataW H)) (p : List MemPlace)
    (hval : ∀ (j : Nat) t v, Try.f7.params[j]? = some t → args[j]? = some v → Value.okWide Try.prog W .any base t v)
    (hA : DataW.TrodAll enc Try.prog W 0 (fun _ => true) true Try.f7.params.toList args.toList ds p) :
    Frame.Law Try.prog 7 args W := by
  rw [Try.params7] at hA hval
  obtain ⟨v0, v1, v2, v3, d0, d1, d2, d3, p0, p1, p2, p3, rfl, rfl, rfl, h0, h1, h2, h3⟩ := trodAll_four hA
  obtain ⟨dd0, V0, rfl, hV0, hT0, hS0⟩ := voc_open (hval 0 26 v0 rfl rfl) h0
  obtain ⟨z1, rfl⟩ := okWide_int Try.underlying3 (hval 1 3 v1 rfl rfl)
  obtain ⟨s2, rfl, _, _, hk2⟩ := ChangeMaps.open_string Try.underlying9 (hval 2 9 v2 rfl rfl) h2
  obtain ⟨s3, rfl, _, _, hk3⟩ := ChangeMaps.open_string Try.underlying9 (hval 3 9 v3 rfl rfl) h3
  exact vocabLooks_walk W hV0 hT0 hS0 hk2 hk3

set_option maxRecDepth 100000 in
theorem vocabLooks_lifted (os : Os) (started : os.Started) (H : Type) (enc : TypeId × Value → H) :
    ReturnsInHanded {} Try.checked os 7 .any (Rows.vocabLooksSpec.pre6 enc Try.prog Try.f7 Rows.vocabLooksRow.domain false) (Rows.vocabLooksSpec.post enc Try.prog Try.f7 false true false false) :=
  Frame.law_lift (C := Try.checked) (fn := Try.f7) own started (by kernel_rfl) Try.func7 laidOut (by decide +kernel) rfl Try.underlying4 rfl
    (fun ds h => by match ds, h with | [d1, d2, d3, d4], _ => rfl)
    (ChangeSpec.witness6 (enc := enc) (C := Try.checked) false ⟨#[], #[.agg #[.slice none 0 0, .slice none 0 0, .slice none 0 0], .int .i64 0, .string ByteArray.empty, .string ByteArray.empty], []⟩ 8 (by kernel_rfl) (by kernel_rfl) (by kernel_rfl) (by kernel_rfl))
    (fun W base args ds p hval hA => vocabLooks_law W base args ds p hval hA)

theorem vocabLooks_holds : Rows.VocabLooksSaid :=
  OpenClaim.holds_of_wide 7 Try.f7 rfl rfl rfl rfl rfl rfl rfl ⟨rfl, rfl, rfl, rfl, rfl⟩ rfl rfl rfl rfl rfl (by kernel_rfl) Try.func7 (by kernel_rfl)
    (of_decide_eq_true (by kernel_rfl)) (by unfold Func.isWrapper; rw [if_neg (of_decide_eq_false (by kernel_rfl))]; exact ⟨rfl, rfl⟩)
    (fun os started H enc _ => vocabLooks_lifted os started H enc)

#print axioms vocabLooks_holds
end Go.Proofs.Ytamicpkjdgfgiaa
