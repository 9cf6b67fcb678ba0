/- Walk: vocab.FromTables. (Printed by gTab.py.) -/
import Derived.Test.YteoncpkfinheoaaTabP
namespace Go.Proofs.Yteoncpkfinheoaa
open Go.RowKit
set_option linter.unusedVariables false

def TabPost (R : List Rw) (P : List Pr) (S : List Sp) (w : World) (e : Ending) (w' : World) : Prop :=
  (((GoodTab R P S) ∧ ∃ d : Vd, e = .returned (.tuple #[d.val, .int .i64 0]) ∧ VocR w' d (tabOf R P S)) ∨ (¬ GoodTab R P S ∧ e = .returned (.tuple #[noVd.val, .int .i64 2]))) ∧ Below w.heap.size w w'
theorem bx2t {w : World} {g : Nat} {x y : Value} {t : TypeId} (h : w.heap[g]? = some (.cells #[x, y] t)) : w.cell? ⟨g, 0, none⟩ = some x ∧ w.cell? ⟨g, 1, none⟩ = some y := by
  simp [World.cell?, h]

set_option maxHeartbeats 8000000 in
set_option maxRecDepth 100000 in
theorem fromTables_calls {R : List Rw} {P : List Pr} {S : List Sp} {ro po so : Option Addr} {rn rc pn pc sn sc : Nat} (w : World) (hR : SlF 2 w ro rn rc (flat Rw.enc R)) (hP : SlF 2 w po pn pc (flat Pr.enc P)) (hS : SlF 2 w so sn sc (flat Sp.enc S))
    (hrs : ∀ r ∈ R, r.token.size ≤ maxLen) (hps : ∀ p ∈ P, p.left.size ≤ 80 ∧ p.right.size ≤ 80) (hss : Sized S) (hpn : pn ≤ 200) (hsn : sn ≤ 20) :
    Calls Try.prog 10 #[.agg #[.slice ro rn rc, .slice po pn pc], .slice so sn sc] w (TabPost R P S w) := by
  obtain ⟨wb, hwb⟩ : ∃ wb, w.alloc (.cells #[.slice ro rn rc, .slice po pn pc] 41) = wb := ⟨_, rfl⟩
  obtain ⟨w0, hw0⟩ : ∃ w0, wb.alloc (.cells #[.slice none 0 0, .slice none 0 0, .slice none 0 0] 31) = w0 := ⟨_, rfl⟩
  have hbb : Below w.heap.size w wb := hwb ▸ below_alloc w _
  have hbc : Below wb.heap.size wb w0 := hw0 ▸ below_alloc wb _
  have hb0 : Below w.heap.size w w0 := hbb.trans (hbc.mono hbb.size)
  have hwbs : wb.heap.size = w.heap.size + 1 := by rw [← hwb]; simp
  have hxb : wb.heap[w.heap.size]? = some (.cells #[.slice ro rn rc, .slice po pn pc] 41) := by rw [← hwb]; exact heap_alloc_new w _
  have hxt := (hbc.block w.heap.size (by omega)).trans hxb
  have hx0 : w0.heap[wb.heap.size]? = some (.cells #[.slice none 0 0, .slice none 0 0, .slice none 0 0] 31) := by rw [← hw0]; exact heap_alloc_new wb _
  obtain ⟨g4, hg4⟩ : ∃ g4, w.heap.size + 1 = g4 := ⟨_, rfl⟩
  rw [hwbs, hg4] at hx0
  have hs0 : g4 < w0.heap.size := by rw [← hg4, ← hw0]; simp [hwbs]
  have hst : w.heap.size < w0.heap.size := by omega
  obtain ⟨t0, t1⟩ := bx2t hxt
  have htoks := tokens_calls w0 (hR.below hb0) (hS.below hb0)
  have HLP := Lib.hid (hP.count Pr.enc_len (by omega))
  have HP := Lib.hid hP
  have HS := Lib.hid hS
  have HX0 := Lib.hid hx0
  have HXT := Lib.hid hxt
  have HB0 := Lib.hid hb0
  have HWB := Lib.hid hwb
  have HW0 := Lib.hid hw0
  have HG4 := Lib.hid hg4
  have HGE : Hid (w.heap.size ≤ g4) := Lib.hid (by omega)
  have HSZ : Hid (∀ s ∈ toksOf R S, s.size ≤ maxLen) := Lib.hid (toks_sized hrs)
  have HSS := Lib.hid hss
  have HPZ := Lib.hid hps
  obtain ⟨i0, z0, hi, hz0, hz1, hz2, hz3⟩ := info_row infoMg
  clear hb0 hbb hbc hx0 hxb hxt hwb hw0 hrs hss hS hR hP hps hwbs hg4
  obtain ⟨T, hT⟩ : ∃ T, toksOf R S = T := ⟨_, rfl⟩
  have HTE := Lib.hid hT
  rw [hT] at HSZ
  clear hT
  go_enter Try.func10, Try.ntmps10
  go_wp2_with (fail)
  rw [HWB.out, HW0.out, HG4.out]
  refine htoks.mono ?_
  rintro e w1 ⟨⟨hok, v, rfl, ho1⟩ | ⟨hno, rfl⟩, hb1⟩
  · rw [HTE.out] at ho1
    obtain ⟨ao, cap, rfl, hsl⟩ := ownT_slice ho1
    obtain ⟨n, hn⟩ : ∃ n, T.length = n := ⟨_, rfl⟩
    rw [hn] at hsl ho1 ⊢
    have HN := Lib.hid hn
    have HSL := Lib.hid hsl
    have HB1 := Lib.hid hb1
    have HOKR := Lib.hid hok
    have HOT := Lib.hid ho1
    clear hn hsl hb1 hok ho1 htoks t0 t1
    go_wp2_with (fail)
    refine (mayTokens_calls w1 HSL.out HSZ.out).mono ?_
    rintro e w2 ⟨⟨b, rfl, hi2⟩, hb2⟩
    have HB2 := Lib.hid (HB1.out.trans (hb2.mono HB1.out.size))
    have HI2 := Lib.hid hi2
    have HSL2 := Lib.hid (Sl.below HSL.out hb2)
    have HOT2 := Lib.hid (OwnT.below HOT.out hb2)
    clear hi2 hb2
    cases b with
    | false =>
      have HF : Hid (¬ GoodTab R P S) := Lib.hid (fun h => by
        have h2 : MayTok (toksOf R S) := h.2.2.1
        have h3 := HI2.out.2 (by rw [← HTE.out]; exact h2)
        cases h3)
      obtain ⟨c0, c1, c2⟩ := box3v ((HB2.out.block g4 hs0).trans HX0.out)
      have f0 := boxf ((HB2.out.block g4 hs0).trans HX0.out)
      go_wp2_with (fail)
      refine bodyPost_ret (v := .tuple #[noVd.val, .int .i64 2]) ?_ rfl ⟨.inr ⟨HF.out, rfl⟩, ?_⟩
      · simp [results, Try.results10, go_sem, c0, c1, c2, noVd]
      · exact (((HB0.out.trans (HB2.out.mono HB0.out.size)).setCell (by exact HGE.out) _).setCell (by exact HGE.out) _).setCell (by exact HGE.out) _
    | true =>
      have hmt := HI2.out.1 rfl
      have HMT := Lib.hid hmt
      have hn4 : n ≤ 4096 := by rw [← HN.out]; exact hmt.1
      clear hmt
      go_wp2_with (fail)
      refine (places_calls w2 HSL2.out HSZ.out (by omega)).mono ?_
      rintro e w3 ⟨⟨_, mb, sz, f, rfl, hmb, hms, hpr⟩ | ⟨hnu, _⟩, hb3⟩
      · have HMS := Lib.hid hms
        have HFF : Hid (∀ s, f s = if 0 ≤ ofT T s then some (ofT T s) else none) := Lib.hid (fun s => hpr.of rfl HMT.out.2.2.1 s)
        have HB3 := Lib.hid (HB2.out.trans (hb3.mono HB2.out.size))
        have HOT3 := Lib.hid (OwnT.below HOT2.out hb3)
        have HBA : Hid (Below w.heap.size w w3) := Lib.hid (HB0.out.trans (HB3.out.mono HB0.out.size))
        obtain ⟨t0, t1⟩ := bx2t ((HB3.out.block w.heap.size hst).trans HXT.out)
        clear hms hpr hb3 hmb
        go_wp2_with (fail)
        go_loopw [10, 42] (fun v i wr => ∃ k : Nat, k ≤ pn ∧ i = .int .i64 k ∧ OwnF Mg.enc 4 51 wr w3.heap.size v (pms T P k) ∧ Hid (∀ i, i < k → OkP T (pr P i)) ∧ Below w3.heap.size w3 wr) (fun _ i _ => pn - (intOf i).toNat)
        case atStart => exact ⟨0, Nat.zero_le _, rfl, OwnF.nil _ _, Lib.hid (fun i h => by omega), Below.refl _ _⟩
        case round =>
          obtain ⟨k, hk, rfl, ho, HOK, hb⟩ := hrel
          have HO := Lib.hid ho
          have HB := Lib.hid hb
          clear hb ho
          by_cases hlt : k < pn
          · have hkP : k < P.length := by have := HLP.out; omega
            have hsz := HPZ.out _ (List.mem_of_getElem? (pr_eq hkP))
            obtain ⟨⟨pl, qr⟩, hseq⟩ : ∃ m, pr P k = m := ⟨_, rfl⟩
            obtain ⟨b, o, rfl, hce⟩ := ((HP.out.below HBA.out).below HB.out).elem Pr.enc_len (by omega) (pr_eq hkP)
            rw [hseq] at hce hsz
            have d0 := hce 0 _ rfl
            have d1 := hce 1 _ rfl
            rw [Nat.add_zero] at d0
            simp only at d0 d1 hsz
            obtain ⟨hz1', hz2'⟩ := hsz
            have HPK := Lib.hid hseq
            have hcz : (pl ++ qr).size = pl.size + qr.size := ByteArray.size_append
            have hy1 : pl.size ≤ maxLen := by unfold maxLen; omega
            have hy2 : qr.size ≤ maxLen := by unfold maxLen; omega
            have hy3 : (pl ++ qr).size ≤ maxLen := by unfold maxLen; omega
            have hcc : pl.size + qr.size ≤ 2 ^ 63 - 1 := by omega
            obtain ⟨wx, hwx⟩ : ∃ wx, wr.alloc (.cells #[.string pl, .string qr] 46) = wx := ⟨_, rfl⟩
            have HBX : Hid (Below w0.heap.size w0 wx) := Lib.hid (by rw [← hwx]; exact (HB3.out.trans (HB.out.mono HB3.out.size)).alloc (Nat.le_trans HB3.out.size HB.out.size) _)
            have HMX : Hid (MapS (wr.alloc (.cells #[.string pl, .string qr] 46)) mb sz f) := Lib.hid (HMS.out.stay ((HB.out.alloc HB.out.size _).block mb HMS.out.lt))
            obtain ⟨a1, ha1⟩ : ∃ a1, ofT T pl = a1 := ⟨_, rfl⟩
            obtain ⟨a2, ha2⟩ : ∃ a2, ofT T qr = a2 := ⟨_, rfl⟩
            obtain ⟨a3, ha3⟩ : ∃ a3, ofT T (pl ++ qr) = a3 := ⟨_, rfl⟩
            have h1 := HFF.out pl
            have h2 := HFF.out qr
            have h3 := HFF.out (pl ++ qr)
            rw [ha1] at h1
            rw [ha2] at h2
            rw [ha3] at h3
            have HA1 := Lib.hid ha1
            have HA2 := Lib.hid ha2
            have HA3 := Lib.hid ha3
            clear ha1 ha2 ha3 hce hseq hcz
            by_cases g1 : 0 ≤ a1
            · rw [if_pos g1] at h1
              by_cases g2 : 0 ≤ a2
              · rw [if_pos g2] at h2
                by_cases g3 : 0 ≤ a3
                · rw [if_pos g3] at h3
                  have HOKn : Hid (∀ i, i < k + 1 → OkP T (pr P i)) := Lib.hid (fun i hi => by
                    by_cases e : i = k
                    · subst e; rw [HPK.out]; unfold OkP; simp only; rw [HA1.out, HA2.out, HA3.out]; exact ⟨g1, g2, g3⟩
                    · exact HOK.out i (by omega))
                  have HCC : Hid (pms T P (k + 1) = pms T P k ++ [⟨a1, a2, a3, k⟩]) := Lib.hid (by rw [pms_succ, HPK.out]; unfold pm; simp only; rw [HA1.out, HA2.out, HA3.out])
                  have hL := pms_len T P k
                  obtain ⟨Ls, hLs⟩ : ∃ Ls, pms T P k = Ls := ⟨_, rfl⟩
                  have hO2 := HO.out
                  rw [hLs] at hL hO2 HCC
                  have HLS := Lib.hid hLs
                  clear hLs
                  obtain ⟨vo, vc, rfl, _⟩ := hO2.sl
                  rw [hL] at hO2 ⊢
                  have HLN := Lib.hid hL
                  have HBS := HB.out.size
                  have ho3 : Hid (OwnF Mg.enc 4 51 ((wr.alloc (.cells #[.string pl, .string qr] 46)).alloc (.cells #[.int .i64 a1, .int .i64 a2, .int .i64 a3, .int .i64 (k : Int)] 51)) w3.heap.size (.slice vo k vc) Ls) := Lib.hid ((hO2.alloc _).alloc _)
                  have hs3 : Hid (SlF 4 ((wr.alloc (.cells #[.string pl, .string qr] 46)).alloc (.cells #[.int .i64 a1, .int .i64 a2, .int .i64 a3, .int .i64 (k : Int)] 51)) (some ⟨wr.heap.size + 1, 0, none⟩) 1 1 (flat Mg.enc [⟨a1, a2, a3, k⟩])) := Lib.hid (by
                    have := SlF.one Mg.enc_len (wr.alloc (.cells #[.string pl, .string qr] 46)) ⟨a1, a2, a3, k⟩ 51 (cs := #[.int .i64 a1, .int .i64 a2, .int .i64 a3, .int .i64 (k : Int)]) rfl
                    simpa using this)
                  clear hO2 hL hwx
                  go_wp2_with (first
                    | (with_reducible show wpList _ _ _ (⟨_, .lookup _ _ _ _, _, _, _, _⟩ :: _) _ _; refine wpList_ms_ok rfl _ _ rfl rfl HMX.out rfl (by assumption) ?_; first | rw [h1] | rw [h2] | rw [h3])
                    | (at_builtin; go_loud (refine wpList_flat_app rfl _ _ 29 rfl i0 z0 32 Try.underlying29 hi hz0 hz1 hz2 hz3 Mg.enc_len (by omega) Mg.enc_one rfl ho3.out rfl hs3.out (by have := HLN.out; unfold maxLen; omega) (by have := HLN.out; omega) (by simp; omega) ?_)))
                  intro v' w' ho' hg' hb'
                  have HO' := Lib.hid ho'
                  have HB' := Lib.hid (((HB.out.alloc HB.out.size _).alloc (by simp; omega) _).trans hb')
                  clear ho' hg' hb'
                  go_wp2_with (fail)
                  go_roundw
                  case rel => exact ⟨k + 1, by omega, by go_num, by rw [HCC.out]; exact HO'.out, HOKn, HB'.out⟩
                  case measure => simp [intOf]; omega
                · rw [if_neg g3] at h3
                  have HF : Hid (¬ GoodTab R P S) := Lib.hid (fun h => by
                    have h2 := h.2.1 k hkP
                    rw [HTE.out, HPK.out] at h2
                    unfold OkP at h2
                    simp only at h2
                    rw [HA1.out, HA2.out, HA3.out] at h2
                    omega)
                  obtain ⟨c0, c1, c2⟩ := box3v ((HBX.out.block g4 hs0).trans HX0.out)
                  have f0 := boxf ((HBX.out.block g4 hs0).trans HX0.out)
                  rw [← hwx] at c0 c1 c2 f0 HBX
                  clear hwx
                  go_wp2_with (with_reducible show wpList _ _ _ (⟨_, .lookup _ _ _ _, _, _, _, _⟩ :: _) _ _; refine wpList_ms_ok rfl _ _ rfl rfl HMX.out rfl (by assumption) ?_; first | rw [h1] | rw [h2] | rw [h3])
                  refine bodyPost_ret (v := .tuple #[noVd.val, .int .i64 2]) ?_ rfl ⟨.inr ⟨HF.out, rfl⟩, ?_⟩
                  · simp [results, Try.results10, go_sem, c0, c1, c2, noVd]
                  · exact (((HB0.out.trans (HBX.out.mono HB0.out.size)).setCell (by exact HGE.out) _).setCell (by exact HGE.out) _).setCell (by exact HGE.out) _
              · rw [if_neg g2] at h2
                by_cases g3 : 0 ≤ a3
                · rw [if_pos g3] at h3
                  have HF : Hid (¬ GoodTab R P S) := Lib.hid (fun h => by
                    have h2 := h.2.1 k hkP
                    rw [HTE.out, HPK.out] at h2
                    unfold OkP at h2
                    simp only at h2
                    rw [HA1.out, HA2.out, HA3.out] at h2
                    omega)
                  obtain ⟨c0, c1, c2⟩ := box3v ((HBX.out.block g4 hs0).trans HX0.out)
                  have f0 := boxf ((HBX.out.block g4 hs0).trans HX0.out)
                  rw [← hwx] at c0 c1 c2 f0 HBX
                  clear hwx
                  go_wp2_with (with_reducible show wpList _ _ _ (⟨_, .lookup _ _ _ _, _, _, _, _⟩ :: _) _ _; refine wpList_ms_ok rfl _ _ rfl rfl HMX.out rfl (by assumption) ?_; first | rw [h1] | rw [h2] | rw [h3])
                  refine bodyPost_ret (v := .tuple #[noVd.val, .int .i64 2]) ?_ rfl ⟨.inr ⟨HF.out, rfl⟩, ?_⟩
                  · simp [results, Try.results10, go_sem, c0, c1, c2, noVd]
                  · exact (((HB0.out.trans (HBX.out.mono HB0.out.size)).setCell (by exact HGE.out) _).setCell (by exact HGE.out) _).setCell (by exact HGE.out) _
                · rw [if_neg g3] at h3
                  have HF : Hid (¬ GoodTab R P S) := Lib.hid (fun h => by
                    have h2 := h.2.1 k hkP
                    rw [HTE.out, HPK.out] at h2
                    unfold OkP at h2
                    simp only at h2
                    rw [HA1.out, HA2.out, HA3.out] at h2
                    omega)
                  obtain ⟨c0, c1, c2⟩ := box3v ((HBX.out.block g4 hs0).trans HX0.out)
                  have f0 := boxf ((HBX.out.block g4 hs0).trans HX0.out)
                  rw [← hwx] at c0 c1 c2 f0 HBX
                  clear hwx
                  go_wp2_with (with_reducible show wpList _ _ _ (⟨_, .lookup _ _ _ _, _, _, _, _⟩ :: _) _ _; refine wpList_ms_ok rfl _ _ rfl rfl HMX.out rfl (by assumption) ?_; first | rw [h1] | rw [h2] | rw [h3])
                  refine bodyPost_ret (v := .tuple #[noVd.val, .int .i64 2]) ?_ rfl ⟨.inr ⟨HF.out, rfl⟩, ?_⟩
                  · simp [results, Try.results10, go_sem, c0, c1, c2, noVd]
                  · exact (((HB0.out.trans (HBX.out.mono HB0.out.size)).setCell (by exact HGE.out) _).setCell (by exact HGE.out) _).setCell (by exact HGE.out) _
            · rw [if_neg g1] at h1
              by_cases g2 : 0 ≤ a2
              · rw [if_pos g2] at h2
                by_cases g3 : 0 ≤ a3
                · rw [if_pos g3] at h3
                  have HF : Hid (¬ GoodTab R P S) := Lib.hid (fun h => by
                    have h2 := h.2.1 k hkP
                    rw [HTE.out, HPK.out] at h2
                    unfold OkP at h2
                    simp only at h2
                    rw [HA1.out, HA2.out, HA3.out] at h2
                    omega)
                  obtain ⟨c0, c1, c2⟩ := box3v ((HBX.out.block g4 hs0).trans HX0.out)
                  have f0 := boxf ((HBX.out.block g4 hs0).trans HX0.out)
                  rw [← hwx] at c0 c1 c2 f0 HBX
                  clear hwx
                  go_wp2_with (with_reducible show wpList _ _ _ (⟨_, .lookup _ _ _ _, _, _, _, _⟩ :: _) _ _; refine wpList_ms_ok rfl _ _ rfl rfl HMX.out rfl (by assumption) ?_; first | rw [h1] | rw [h2] | rw [h3])
                  refine bodyPost_ret (v := .tuple #[noVd.val, .int .i64 2]) ?_ rfl ⟨.inr ⟨HF.out, rfl⟩, ?_⟩
                  · simp [results, Try.results10, go_sem, c0, c1, c2, noVd]
                  · exact (((HB0.out.trans (HBX.out.mono HB0.out.size)).setCell (by exact HGE.out) _).setCell (by exact HGE.out) _).setCell (by exact HGE.out) _
                · rw [if_neg g3] at h3
                  have HF : Hid (¬ GoodTab R P S) := Lib.hid (fun h => by
                    have h2 := h.2.1 k hkP
                    rw [HTE.out, HPK.out] at h2
                    unfold OkP at h2
                    simp only at h2
                    rw [HA1.out, HA2.out, HA3.out] at h2
                    omega)
                  obtain ⟨c0, c1, c2⟩ := box3v ((HBX.out.block g4 hs0).trans HX0.out)
                  have f0 := boxf ((HBX.out.block g4 hs0).trans HX0.out)
                  rw [← hwx] at c0 c1 c2 f0 HBX
                  clear hwx
                  go_wp2_with (with_reducible show wpList _ _ _ (⟨_, .lookup _ _ _ _, _, _, _, _⟩ :: _) _ _; refine wpList_ms_ok rfl _ _ rfl rfl HMX.out rfl (by assumption) ?_; first | rw [h1] | rw [h2] | rw [h3])
                  refine bodyPost_ret (v := .tuple #[noVd.val, .int .i64 2]) ?_ rfl ⟨.inr ⟨HF.out, rfl⟩, ?_⟩
                  · simp [results, Try.results10, go_sem, c0, c1, c2, noVd]
                  · exact (((HB0.out.trans (HBX.out.mono HB0.out.size)).setCell (by exact HGE.out) _).setCell (by exact HGE.out) _).setCell (by exact HGE.out) _
              · rw [if_neg g2] at h2
                by_cases g3 : 0 ≤ a3
                · rw [if_pos g3] at h3
                  have HF : Hid (¬ GoodTab R P S) := Lib.hid (fun h => by
                    have h2 := h.2.1 k hkP
                    rw [HTE.out, HPK.out] at h2
                    unfold OkP at h2
                    simp only at h2
                    rw [HA1.out, HA2.out, HA3.out] at h2
                    omega)
                  obtain ⟨c0, c1, c2⟩ := box3v ((HBX.out.block g4 hs0).trans HX0.out)
                  have f0 := boxf ((HBX.out.block g4 hs0).trans HX0.out)
                  rw [← hwx] at c0 c1 c2 f0 HBX
                  clear hwx
                  go_wp2_with (with_reducible show wpList _ _ _ (⟨_, .lookup _ _ _ _, _, _, _, _⟩ :: _) _ _; refine wpList_ms_ok rfl _ _ rfl rfl HMX.out rfl (by assumption) ?_; first | rw [h1] | rw [h2] | rw [h3])
                  refine bodyPost_ret (v := .tuple #[noVd.val, .int .i64 2]) ?_ rfl ⟨.inr ⟨HF.out, rfl⟩, ?_⟩
                  · simp [results, Try.results10, go_sem, c0, c1, c2, noVd]
                  · exact (((HB0.out.trans (HBX.out.mono HB0.out.size)).setCell (by exact HGE.out) _).setCell (by exact HGE.out) _).setCell (by exact HGE.out) _
                · rw [if_neg g3] at h3
                  have HF : Hid (¬ GoodTab R P S) := Lib.hid (fun h => by
                    have h2 := h.2.1 k hkP
                    rw [HTE.out, HPK.out] at h2
                    unfold OkP at h2
                    simp only at h2
                    rw [HA1.out, HA2.out, HA3.out] at h2
                    omega)
                  obtain ⟨c0, c1, c2⟩ := box3v ((HBX.out.block g4 hs0).trans HX0.out)
                  have f0 := boxf ((HBX.out.block g4 hs0).trans HX0.out)
                  rw [← hwx] at c0 c1 c2 f0 HBX
                  clear hwx
                  go_wp2_with (with_reducible show wpList _ _ _ (⟨_, .lookup _ _ _ _, _, _, _, _⟩ :: _) _ _; refine wpList_ms_ok rfl _ _ rfl rfl HMX.out rfl (by assumption) ?_; first | rw [h1] | rw [h2] | rw [h3])
                  refine bodyPost_ret (v := .tuple #[noVd.val, .int .i64 2]) ?_ rfl ⟨.inr ⟨HF.out, rfl⟩, ?_⟩
                  · simp [results, Try.results10, go_sem, c0, c1, c2, noVd]
                  · exact (((HB0.out.trans (HBX.out.mono HB0.out.size)).setCell (by exact HGE.out) _).setCell (by exact HGE.out) _).setCell (by exact HGE.out) _
          · obtain rfl : k = pn := by omega
            have HPA : Hid (∀ i, i < P.length → OkP T (pr P i)) := Lib.hid (fun i hi => HOK.out i (by have := HLP.out; omega))
            have hPL : pms T P k = pms T P P.length := by rw [HLP.out]
            rw [hPL] at HO
            obtain ⟨mo, mc, rfl, _⟩ := HO.out.sl
            have hml : (pms T P P.length).length ≤ 300000 := by rw [pms_len, HLP.out]; omega
            have HSW : Hid (SlF 2 wr so sn sc (flat Sp.enc S)) := Lib.hid ((HS.out.below HBA.out).below HB.out)
            have hgw : g4 < w3.heap.size := Nat.lt_of_lt_of_le hs0 HB3.out.size
            have hwh := whole_calls (T := T) (M := pms T P P.length) (S := S) (ta := ao) (tn := n) (tc := cap) (base := w3.heap.size) (g := g4) wr HB.out.size hgw (fun w' hq => by
              obtain ⟨a', c', e', h'⟩ := ownT_slice (own_stay HOT3.out (w' := w') (fun q h => by
                have h1 := World.ownsRow.lt HOT3.out q h
                exact (hq q h1.2 (by omega)).trans (HB.out.block q h1.2)))
              simp only [Value.slice.injEq] at e'
              obtain ⟨rfl, e2, rfl⟩ := e'
              rw [← e2] at h'
              exact h') HO.out HSW.out HSZ.out (by omega) HSS.out hsn
            clear hPL
            go_wp2_with (fail)
            refine hwh.mono ?_
            have HVE : Hid (tabOf R P S = ⟨T, sortMg (pms T P P.length), sortSp S⟩) := Lib.hid (by unfold tabOf; rw [HTE.out])
            rintro e w5 ⟨⟨hm, ⟨ta, tn, tc, ma, mn, mcc, sa, sn', sc'⟩, rfl, hv⟩ | ⟨hno, rfl⟩, hb5⟩
            · have HB5 : Hid (Below w0.heap.size w0 w5) := Lib.hid (HB3.out.trans ((HB.out.trans hb5).mono HB3.out.size))
              obtain ⟨c0, c1, c2⟩ := box3v ((HB5.out.block g4 hs0).trans HX0.out)
              have f0 := boxf ((HB5.out.block g4 hs0).trans HX0.out)
              have HM := Lib.hid hm
              have HV := Lib.hid hv
              clear hm hv hb5 hwh
              go_wp2_with (fail)
              refine bodyPost_ret (v := .tuple #[Vd.val ⟨ta, tn, tc, ma, mn, mcc, sa, sn', sc'⟩, .int .i64 0]) ?_ rfl ⟨.inl ⟨⟨HOKR.out, by rw [HTE.out]; exact HPA.out, by rw [HVE.out]; exact HM.out⟩, ⟨ta, tn, tc, ma, mn, mcc, sa, sn', sc'⟩, rfl, by rw [HVE.out]; exact HV.out _ (fun q h => heap_set3 _ _ _ _ _ h)⟩, ?_⟩
              · simp [results, Try.results10, go_sem, c0, c1, c2]
              · exact (((HB0.out.trans (HB5.out.mono HB0.out.size)).setCell (by exact HGE.out) _).setCell (by exact HGE.out) _).setCell (by exact HGE.out) _
            · have HB5 : Hid (Below w0.heap.size w0 w5) := Lib.hid (HB3.out.trans ((HB.out.trans hb5).mono HB3.out.size))
              obtain ⟨c0, c1, c2⟩ := box3v ((HB5.out.block g4 hs0).trans HX0.out)
              have f0 := boxf ((HB5.out.block g4 hs0).trans HX0.out)
              have HF : Hid (¬ GoodTab R P S) := Lib.hid (fun h => hno (by rw [← HVE.out]; exact h.2.2))
              clear hno hb5 hwh
              simp only [noVd]
              go_wp2_with (fail)
              refine bodyPost_ret (v := .tuple #[noVd.val, .int .i64 2]) ?_ rfl ⟨.inr ⟨HF.out, rfl⟩, ?_⟩
              · simp [results, Try.results10, go_sem, c0, c1, c2, noVd]
              · exact (((HB0.out.trans (HB5.out.mono HB0.out.size)).setCell (by exact HGE.out) _).setCell (by exact HGE.out) _).setCell (by exact HGE.out) _
      · exact absurd HMT.out.2.2.1 hnu
  · have HF : Hid (¬ GoodTab R P S) := Lib.hid (fun h => hno h.1)
    have HB1 := Lib.hid hb1
    obtain ⟨c0, c1, c2⟩ := box3v ((HB1.out.block g4 hs0).trans HX0.out)
    have f0 := boxf ((HB1.out.block g4 hs0).trans HX0.out)
    clear hb1 htoks hno
    go_wp2_with (fail)
    refine bodyPost_ret (v := .tuple #[noVd.val, .int .i64 2]) ?_ rfl ⟨.inr ⟨HF.out, rfl⟩, ?_⟩
    · simp [results, Try.results10, go_sem, c0, c1, c2, noVd]
    · exact (((HB0.out.trans (HB1.out.mono HB0.out.size)).setCell (by exact HGE.out) _).setCell (by exact HGE.out) _).setCell (by exact HGE.out) _

theorem fromTables_val {R : List Rw} {P : List Pr} {S : List Sp} {ro po so : Option Addr} {rn rc pn pc sn sc : Nat} (w : World) (hR : SlF 2 w ro rn rc (flat Rw.enc R)) (hP : SlF 2 w po pn pc (flat Pr.enc P)) (hS : SlF 2 w so sn sc (flat Sp.enc S))
    (hrs : ∀ r ∈ R, r.token.size ≤ maxLen) (hps : ∀ p ∈ P, p.left.size ≤ 80 ∧ p.right.size ≤ 80) (hss : Sized S) (hpn : pn ≤ 200) (hsn : sn ≤ 20) :
    Calls Try.prog 10 #[.agg #[.slice ro rn rc, .slice po pn pc], .slice so sn sc] w fun e w' => (∃ (d : Vd) (c : Int), e = .returned (.tuple #[d.val, .int .i64 c]) ∧ ((GoodTab R P S ∧ c = 0) ∨ (¬ GoodTab R P S ∧ c = 2)) ∧ VocR w' d (tV R P S)) ∧ Below w.heap.size w w' :=
  (fromTables_calls w hR hP hS hrs hps hss hpn hsn).mono fun e w' ⟨h, hb⟩ => ⟨by
    rcases h with ⟨hg, d, rfl, hv⟩ | ⟨hn, rfl⟩
    · exact ⟨d, 0, rfl, .inl ⟨hg, rfl⟩, by rw [tV_yes hg]; exact hv⟩
    · exact ⟨noVd, 2, rfl, .inr ⟨hn, rfl⟩, by rw [tV_no hn]; exact noVoc w'⟩, hb⟩

end Go.Proofs.Yteoncpkfinheoaa
