/- Walk: the document's FromTables. (Printed by gRTab.py.) -/
import Derived.Test.YteoncpkfinheoaaRFrom
import Derived.Test.YteoncpkfinheoaaTabP
namespace Go.Proofs.Yteoncpkfinheoaa
open Go.RowKit
set_option linter.unusedVariables false

theorem bx2r {w : World} {g : Nat} {x y : Value} {t : TypeId} (h : w.heap[g]? = some (.cells #[x, y] t)) : w.cell? ⟨g, 0, none⟩ = some x ∧ w.cell? ⟨g, 1, none⟩ = some y := by
  simp [World.cell?, h]
def RTabPost (R : List Rw) (P : List Pr) (S : List Sp) (w : World) (e : Ending) (w' : World) : Prop :=
  ((GoodTab R P S ∧ ∃ d : Vd, e = .returned (.tuple #[d.val, .bool true]) ∧ VocR w' d (tabOf R P S)) ∨ (¬ GoodTab R P S ∧ e = .returned (.tuple #[noVd.val, .bool false]))) ∧ Below w.heap.size w w'

/-- .. and what a row of w2's own may write in place. -/
theorem KeepG.low {g : Nat} {w w' w'' : World} (h : KeepG g w w') (hb : Below w.heap.size w' w'') : KeepG g w w'' :=
  ⟨Nat.le_trans h.size hb.size, fun q h1 h2 => (hb.block q h1).trans (h.block q h1 h2)⟩

set_option maxHeartbeats 2000000 in
set_option maxRecDepth 100000 in
theorem rfromTables_calls {R : List Rw} {P : List Pr} {S : List Sp} {ro po so : Option Addr} {rn rc pn pc sn sc : Nat} (w : World) (hR : SlF 2 w ro rn rc (flat Rw.enc R)) (hP : SlF 2 w po pn pc (flat Pr.enc P)) (hS : SlF 2 w so sn sc (flat Sp.enc S))
    (hrs : ∀ r ∈ R, r.token.size ≤ maxLen) (hps : ∀ p ∈ P, p.left.size ≤ 80 ∧ p.right.size ≤ 80) (hss : Sized S) (hpn : pn ≤ 200) (hsn : sn ≤ 20) :
    Calls Try.prog 11 #[.agg #[.slice ro rn rc, .slice po pn pc], .slice so sn sc] w (RTabPost R P S w) := by
  obtain ⟨wb, hwb⟩ : ∃ wb, w.alloc (.cells #[.slice ro rn rc, .slice po pn pc] 41) = wb := ⟨_, rfl⟩
  obtain ⟨w0, hw0⟩ : ∃ w0, wb.alloc (.cells #[.slice none 0 0, .slice none 0 0, .slice none 0 0] 31) = w0 := ⟨_, rfl⟩
  have hbb : Below w.heap.size w wb := hwb ▸ below_alloc w _
  have hbc : Below wb.heap.size wb w0 := hw0 ▸ below_alloc wb _
  have hb0 : Below w.heap.size w w0 := hbb.trans (hbc.mono hbb.size)
  have hwbs : wb.heap.size = w.heap.size + 1 := by rw [← hwb]; simp
  have hxb : wb.heap[w.heap.size]? = some (.cells #[.slice ro rn rc, .slice po pn pc] 41) := by rw [← hwb]; exact heap_alloc_new w _
  have hxt := (hbc.block w.heap.size (by omega)).trans hxb
  have hx0 : w0.heap[wb.heap.size]? = some (.cells #[.slice none 0 0, .slice none 0 0, .slice none 0 0] 31) := by rw [← hw0]; exact heap_alloc_new wb _
  obtain ⟨g4, hg4⟩ : ∃ g4, w.heap.size + 1 = g4 := ⟨_, rfl⟩
  rw [hwbs, hg4] at hx0
  have hs0 : g4 < w0.heap.size := by rw [← hg4, ← hw0]; simp [hwbs]
  have hst : w.heap.size < w0.heap.size := by omega
  obtain ⟨t0, t1⟩ := bx2r hxt
  have hbase := base_calls w0 (hR.below hb0) (hS.below hb0) hrs hss hsn
  have HLP := Lib.hid (hP.count Pr.enc_len (by omega))
  have HP := Lib.hid hP
  have HX0 := Lib.hid hx0
  have HXT := Lib.hid hxt
  have HB0 := Lib.hid hb0
  have HWB := Lib.hid hwb
  have HW0 := Lib.hid hw0
  have HG4 := Lib.hid hg4
  have HGE : Hid (w.heap.size ≤ g4) := Lib.hid (by omega)
  have HSZ : Hid (∀ s ∈ toksOf R S, s.size ≤ maxLen) := Lib.hid (toks_sized hrs)
  have HSS := Lib.hid hss
  have HPZ := Lib.hid hps
  have HSL : Hid (S.length ≤ 20) := Lib.hid (by rw [hS.count Sp.enc_len (by omega)]; exact hsn)
  obtain ⟨i0, z0, hi, hz0, hz1, hz2, hz3⟩ := info_row infoMg
  clear hb0 hbb hbc hx0 hxb hxt hwb hw0 hrs hss hS hR hP hps hwbs hg4
  obtain ⟨T, hT⟩ : ∃ T, toksOf R S = T := ⟨_, rfl⟩
  have HTE := Lib.hid hT
  rw [hT] at HSZ
  clear hT
  go_enter Try.func11, Try.ntmps11
  go_wp2_with (fail)
  rw [HWB.out, HW0.out, HG4.out]
  refine hbase.mono ?_
  rintro e w1 ⟨⟨hok, gt, n, sa, sn', sc', S', bt, rfl, hot, hos, hps, hsd, hbt⟩ | ⟨hno, rfl⟩, hb1⟩
  · rw [HTE.out] at hot hbt
    have HPS := Lib.hid hps
    have HSD := Lib.hid hsd
    have HOKR := Lib.hid hok
    have HB1 := Lib.hid hb1
    cases bt with
    | false =>
      have HF : Hid (¬ GoodTab R P S) := Lib.hid (fun h => by
        have h2 : MayTok (toksOf R S) := h.2.2.1
        have := hbt.2 (by rw [← HTE.out]; exact h2)
        cases this)
      clear hbase hot hos hps hsd hbt hb1 hok t0 t1
      obtain ⟨w2, hw2⟩ : ∃ w2, w1.alloc (.cells #[.slice (some ⟨gt, 0, none⟩) n n, .slice none 0 0, .slice sa sn' sc'] 31) = w2 := ⟨_, rfl⟩
      have HBF : Hid (Below w0.heap.size w0 w2) := Lib.hid (by rw [← hw2]; exact HB1.out.alloc HB1.out.size _)
      obtain ⟨c0, c1, c2⟩ := box3v ((HBF.out.block g4 hs0).trans HX0.out)
      have f0 := boxf ((HBF.out.block g4 hs0).trans HX0.out)
      rw [← hw2] at c0 c1 c2 f0 HBF
      clear hw2
      go_wp2_with (fail)
      refine bodyPost_ret (v := .tuple #[noVd.val, .bool false]) ?_ rfl ⟨.inr ⟨HF.out, rfl⟩, ?_⟩
      · simp [results, Try.results11, go_sem, c0, c1, c2, noVd]
      · exact (((HB0.out.trans (HBF.out.mono HB0.out.size)).setCell (by exact HGE.out) _).setCell (by exact HGE.out) _).setCell (by exact HGE.out) _
    | true =>
      have HMT := Lib.hid (hbt.1 rfl)
      have hn : T.length = n := by
        obtain ⟨a', c', e', _⟩ := ownT_slice hot
        simp only [Value.slice.injEq] at e'
        omega
      have HN := Lib.hid hn
      have hn4 : n ≤ 4096 := by rw [← hn]; exact HMT.out.1
      obtain ⟨w2, hw2⟩ : ∃ w2, w1.alloc (.cells #[.slice (some ⟨gt, 0, none⟩) n n, .slice none 0 0, .slice sa sn' sc'] 31) = w2 := ⟨_, rfl⟩
      have hb2 : Below w1.heap.size w1 w2 := hw2 ▸ below_alloc w1 _
      have hx2 : w2.heap[w1.heap.size]? = some (.cells #[.slice (some ⟨gt, 0, none⟩) n n, .slice none 0 0, .slice sa sn' sc'] 31) := by rw [← hw2]; exact heap_alloc_new w1 _
      have hs2 : w1.heap.size < w2.heap.size := by rw [← hw2]; simp
      have HGT : Hid (∀ q, (Value.slice (some ⟨gt, 0, none⟩) n n).ownBlock = some q → q ≠ w1.heap.size) := Lib.hid (fun q hq => by have := (World.ownsRow.lt hot q hq).2; omega)
      have HGS : Hid (∀ q, (Value.slice sa sn' sc').ownBlock = some q → q ≠ w1.heap.size) := Lib.hid (fun q hq => by have := (World.ownsRow.lt hos q hq).2; omega)
      have HOT := Lib.hid (OwnT.below hot hb2)
      have HOS := Lib.hid (OwnF.below hos hb2)
      have HX2 := Lib.hid hx2
      have HG0 : Hid (w0.heap.size ≤ w1.heap.size) := Lib.hid HB1.out.size
      have HW2 := Lib.hid hw2
      have HB2 : Hid (Below w0.heap.size w0 w2) := Lib.hid (hb1.trans (hb2.mono hb1.size))
      obtain ⟨u0, u1⟩ := bx2r ((HB2.out.block w.heap.size hst).trans HXT.out)
      rw [← hw2] at u0 u1
      clear hbase hot hos hps hsd hbt hb1 hok hw2 hb2 hx2 hn t0 t1
      go_wp2_with (fail)
      rw [HW2.out]
      clear u0 u1
      go_loopw [25] (fun i wr => ∃ (k : Nat) (mv : Value), k ≤ pn ∧ i = .int .i64 k ∧ Hid (∀ i, i < k → OkP T (pr P i)) ∧ OwnF Mg.enc 4 51 wr w2.heap.size mv (pms T P k) ∧ wr.heap[w1.heap.size]? = some (.cells #[.slice (some ⟨gt, 0, none⟩) n n, mv, .slice sa sn' sc'] 31) ∧ KeepG w1.heap.size w2 wr ∧ Below w0.heap.size w0 wr) (fun i _ => pn - (intOf i).toNat)
      case atStart => exact ⟨0, _, Nat.zero_le _, rfl, Lib.hid (fun i h => by omega), OwnF.nil _ _, HX2.out, KeepG.refl _ _, HB2.out⟩
      case round =>
        obtain ⟨k, mv, hk, rfl, HOK, ho, hbx, hkp, hbb⟩ := hrel
        have HO := Lib.hid ho
        have HBX := Lib.hid hbx
        have HKP := Lib.hid hkp
        have HBB := Lib.hid hbb
        have HG6 : Hid (w1.heap.size < wr.heap.size) := Lib.hid (Nat.lt_of_lt_of_le hs2 hkp.size)
        obtain ⟨d0, d1, d2⟩ := box3v hbx
        obtain ⟨t0, t1⟩ := bx2r ((hbb.block w.heap.size hst).trans HXT.out)
        clear ho hbx hkp hbb
        by_cases hlt : k < pn
        · have hkP : k < P.length := by have := HLP.out; omega
          have hsz := HPZ.out _ (List.mem_of_getElem? (pr_eq hkP))
          obtain ⟨⟨pl, qr⟩, hseq⟩ : ∃ m, pr P k = m := ⟨_, rfl⟩
          obtain ⟨b, of, rfl, hce⟩ := ((HP.out.below HB0.out).below HBB.out).elem Pr.enc_len (by omega) (pr_eq hkP)
          rw [hseq] at hce hsz
          have lwr := hce 0 _ rfl
          have rwr := hce 1 _ rfl
          rw [Nat.add_zero] at lwr
          simp only at lwr rwr hsz
          obtain ⟨hz1', hz2'⟩ := hsz
          have HPK := Lib.hid hseq
          have hcc : pl.size + qr.size ≤ 2 ^ 63 - 1 := by omega
          have gk : (k : Int) < (pn : Int) := by omega
          obtain ⟨a1, ha1⟩ : ∃ a1, ofT T pl = a1 := ⟨_, rfl⟩
          obtain ⟨a2, ha2⟩ : ∃ a2, ofT T qr = a2 := ⟨_, rfl⟩
          obtain ⟨a3, ha3⟩ : ∃ a3, ofT T (pl ++ qr) = a3 := ⟨_, rfl⟩
          have HA1 := Lib.hid ha1
          have HA2 := Lib.hid ha2
          have HA3 := Lib.hid ha3
          have HT1 : Hid (SlS wr (some ⟨gt, 0, none⟩) n n T) := Lib.hid (by
              have h := OwnT.keepG HOT.out HKP.out HGT.out
              obtain ⟨a', c', e', h'⟩ := ownT_slice h
              simp only [Value.slice.injEq] at e'
              obtain ⟨rfl, e2, rfl⟩ := e'
              rw [← e2] at h'
              exact h')
          have bwr := d0
          have twr := t1
          clear hce hseq d0 d1 d2 t0 t1
          have q1 := fun m => rof_q pl HT1.out m
          rw [ha1] at q1
          go_wp2_with (fail)
          go_quiet ((go_at_call 19; exact Calls.quiet_of_same (q1 _)))
          obtain ⟨wx, hwx⟩ : ∃ wx, wr.drewN nq = wx := ⟨_, rfl⟩
          rw [hwx]
          clear q1 ha1
          have HT2 : Hid (SlS wx (some ⟨gt, 0, none⟩) n n T) := Lib.hid (by rw [← hwx]; exact Sl.stay HT1.out fun _ _ h => h)
          have bwx : wx.cell? ⟨w1.heap.size, 0, none⟩ = some (.slice (some ⟨gt, 0, none⟩) n n) := by rw [← hwx]; exact bwr
          have twx : wx.cell? ⟨w.heap.size, 1, none⟩ = some (.slice (some ⟨b, of, none⟩) pn pc) := by rw [← hwx]; exact twr
          have lwx : wx.cell? ⟨b, of + k * 2, none⟩ = some (.string pl) := by rw [← hwx]; exact lwr
          have rwx : wx.cell? ⟨b, of + k * 2 + 1, none⟩ = some (.string qr) := by rw [← hwx]; exact rwr
          clear bwr twr lwr rwr
          have q2 := fun m => rof_q qr HT2.out m
          rw [ha2] at q2
          go_wp2_with (fail)
          go_quiet ((go_at_call 19; exact Calls.quiet_of_same (q2 _)))
          obtain ⟨wy, hwy⟩ : ∃ wy, wx.drewN nq = wy := ⟨_, rfl⟩
          rw [hwy]
          clear q2 ha2
          have HT3 : Hid (SlS wy (some ⟨gt, 0, none⟩) n n T) := Lib.hid (by rw [← hwy]; exact Sl.stay HT2.out fun _ _ h => h)
          have bwy : wy.cell? ⟨w1.heap.size, 0, none⟩ = some (.slice (some ⟨gt, 0, none⟩) n n) := by rw [← hwy]; exact bwx
          have twy : wy.cell? ⟨w.heap.size, 1, none⟩ = some (.slice (some ⟨b, of, none⟩) pn pc) := by rw [← hwy]; exact twx
          have lwy : wy.cell? ⟨b, of + k * 2, none⟩ = some (.string pl) := by rw [← hwy]; exact lwx
          have rwy : wy.cell? ⟨b, of + k * 2 + 1, none⟩ = some (.string qr) := by rw [← hwy]; exact rwx
          clear bwx twx lwx rwx
          have q3 := fun m => rof_q (pl ++ qr) HT3.out m
          rw [ha3] at q3
          go_wp2_with (fail)
          go_quiet ((go_at_call 19; exact Calls.quiet_of_same (q3 _)))
          obtain ⟨wz, hwz⟩ : ∃ wz, wy.drewN nq = wz := ⟨_, rfl⟩
          rw [hwz]
          clear q3 ha3
          have hrz : Below wr.heap.size wr wz := by rw [← hwz, ← hwy, ← hwx]; exact below_drewN (below_drewN (below_drewN (Below.refl _ _) _) _) _
          have HRZ := Lib.hid hrz
          have hxy := (hrz.block w1.heap.size HG6.out).trans HBX.out
          have HXY := Lib.hid hxy
          obtain ⟨y0, y1, y2⟩ := box3v hxy
          have HOZ := Lib.hid (HO.out.below hrz)
          clear hwx hwy hwz hrz hxy bwy twy lwy rwy
          by_cases g1 : 0 ≤ a1
          · have hd1 : decide (a1 < 0) = false := by simp; omega
            by_cases g2 : 0 ≤ a2
            · have hd2 : decide (a2 < 0) = false := by simp; omega
              by_cases g3 : 0 ≤ a3
              · have hd3 : decide (a3 < 0) = false := by simp; omega
                have HOKn : Hid (∀ i, i < k + 1 → OkP T (pr P i)) := Lib.hid (fun i hi => by
                  by_cases e : i = k
                  · subst e; rw [HPK.out]; unfold OkP; simp only; rw [HA1.out, HA2.out, HA3.out]; exact ⟨g1, g2, g3⟩
                  · exact HOK.out i (by omega))
                have HCC : Hid (pms T P (k + 1) = pms T P k ++ [⟨a1, a2, a3, k⟩]) := Lib.hid (by rw [pms_succ, HPK.out]; unfold pm; simp only; rw [HA1.out, HA2.out, HA3.out])
                have hL := pms_len T P k
                obtain ⟨Ls, hLs⟩ : ∃ Ls, pms T P k = Ls := ⟨_, rfl⟩
                have hO2 := HOZ.out
                rw [hLs] at hL hO2 HCC
                clear hLs
                obtain ⟨vo, vc, rfl, _⟩ := hO2.sl
                rw [hL] at hO2 y1 HXY
                have HLN := Lib.hid hL
                have ho3 : Hid (OwnF Mg.enc 4 51 (wz.alloc (.cells #[.int .i64 a1, .int .i64 a2, .int .i64 a3, .int .i64 (k : Int)] 51)) w2.heap.size (.slice vo k vc) Ls) := Lib.hid (hO2.alloc _)
                have hs3 : Hid (SlF 4 (wz.alloc (.cells #[.int .i64 a1, .int .i64 a2, .int .i64 a3, .int .i64 (k : Int)] 51)) (some ⟨wz.heap.size, 0, none⟩) 1 1 (flat Mg.enc [⟨a1, a2, a3, k⟩])) := Lib.hid (SlF.one Mg.enc_len wz ⟨a1, a2, a3, k⟩ 51 (cs := #[.int .i64 a1, .int .i64 a2, .int .i64 a3, .int .i64 (k : Int)]) rfl)
                have HSZZ : Hid (w2.heap.size ≤ wz.heap.size) := Lib.hid (Nat.le_trans HKP.out.size HRZ.out.size)
                clear hO2 hL
                go_wp2_with (at_builtin; go_loud (refine wpList_flat_app rfl _ _ 29 rfl i0 z0 32 Try.underlying29 hi hz0 hz1 hz2 hz3 Mg.enc_len (by omega) Mg.enc_one rfl ho3.out rfl hs3.out (by have := HLN.out; unfold maxLen; omega) (by have := HLN.out; omega) (by have := HSZZ.out; simp; omega) ?_))
                intro v' w' ho' hg' hb'
                obtain ⟨xo, xc, rfl, _⟩ := ho'.sl
                obtain ⟨xn, hxn⟩ : ∃ xn, (Ls ++ [(⟨a1, a2, a3, (k : Int)⟩ : Mg)]).length = xn := ⟨_, rfl⟩
                rw [hxn] at ho' ⊢
                clear hxn
                have hbn : Below w2.heap.size wz w' := ((below_alloc wz _).mono HSZZ.out).trans hb'
                have hxn := (hbn.block w1.heap.size hs2).trans HXY.out
                obtain ⟨z0', z1', z2'⟩ := box3v hxn
                have fz := boxf hxn
                have HO' := Lib.hid ho'
                have HBN := Lib.hid hbn
                have HXN := Lib.hid hxn
                clear ho' hg' hb' hbn hxn y0 y1 y2
                go_wp2_with (fail)
                go_roundw
                case rel => exact ⟨k + 1, _, by omega, by go_num, HOKn,
                  own_stay (by rw [HCC.out]; exact HO'.out) fun q hq => Below.heap_setCell _ _ _ _ (by show q ≠ w1.heap.size; have := (World.ownsRow.lt HO'.out q hq).1; omega),
                  set_cell1 HXN.out, (KeepG.low (HKP.out.below HRZ.out) HBN.out).set _ _, ((HBB.out.trans (HRZ.out.mono HBB.out.size)).trans (HBN.out.mono HB2.out.size)).setCell (by exact HG0.out) _⟩
                case measure => simp [intOf]; omega
              · have hd3 : decide (a3 < 0) = true := by simp; omega
                have HF : Hid (¬ GoodTab R P S) := Lib.hid (fun h => by
                  have h2 := h.2.1 k hkP
                  rw [HTE.out, HPK.out] at h2
                  unfold OkP at h2
                  simp only at h2
                  rw [HA1.out, HA2.out, HA3.out] at h2
                  omega)
                have HBF : Hid (Below w0.heap.size w0 wz) := Lib.hid (HBB.out.trans (HRZ.out.mono HBB.out.size))
                obtain ⟨c0, c1, c2⟩ := box3v ((HBF.out.block g4 hs0).trans HX0.out)
                have f0 := boxf ((HBF.out.block g4 hs0).trans HX0.out)
                go_wp2_with (fail)
                refine bodyPost_ret (v := .tuple #[noVd.val, .bool false]) ?_ rfl ⟨.inr ⟨HF.out, rfl⟩, ?_⟩
                · simp [results, Try.results11, go_sem, c0, c1, c2, noVd]
                · exact (((HB0.out.trans (HBF.out.mono HB0.out.size)).setCell (by exact HGE.out) _).setCell (by exact HGE.out) _).setCell (by exact HGE.out) _
            · have hd2 : decide (a2 < 0) = true := by simp; omega
              have HF : Hid (¬ GoodTab R P S) := Lib.hid (fun h => by
                have h2 := h.2.1 k hkP
                rw [HTE.out, HPK.out] at h2
                unfold OkP at h2
                simp only at h2
                rw [HA1.out, HA2.out, HA3.out] at h2
                omega)
              have HBF : Hid (Below w0.heap.size w0 wz) := Lib.hid (HBB.out.trans (HRZ.out.mono HBB.out.size))
              obtain ⟨c0, c1, c2⟩ := box3v ((HBF.out.block g4 hs0).trans HX0.out)
              have f0 := boxf ((HBF.out.block g4 hs0).trans HX0.out)
              go_wp2_with (fail)
              refine bodyPost_ret (v := .tuple #[noVd.val, .bool false]) ?_ rfl ⟨.inr ⟨HF.out, rfl⟩, ?_⟩
              · simp [results, Try.results11, go_sem, c0, c1, c2, noVd]
              · exact (((HB0.out.trans (HBF.out.mono HB0.out.size)).setCell (by exact HGE.out) _).setCell (by exact HGE.out) _).setCell (by exact HGE.out) _
          · have hd1 : decide (a1 < 0) = true := by simp; omega
            have HF : Hid (¬ GoodTab R P S) := Lib.hid (fun h => by
              have h2 := h.2.1 k hkP
              rw [HTE.out, HPK.out] at h2
              unfold OkP at h2
              simp only at h2
              rw [HA1.out, HA2.out, HA3.out] at h2
              omega)
            have HBF : Hid (Below w0.heap.size w0 wz) := Lib.hid (HBB.out.trans (HRZ.out.mono HBB.out.size))
            obtain ⟨c0, c1, c2⟩ := box3v ((HBF.out.block g4 hs0).trans HX0.out)
            have f0 := boxf ((HBF.out.block g4 hs0).trans HX0.out)
            go_wp2_with (fail)
            refine bodyPost_ret (v := .tuple #[noVd.val, .bool false]) ?_ rfl ⟨.inr ⟨HF.out, rfl⟩, ?_⟩
            · simp [results, Try.results11, go_sem, c0, c1, c2, noVd]
            · exact (((HB0.out.trans (HBF.out.mono HB0.out.size)).setCell (by exact HGE.out) _).setCell (by exact HGE.out) _).setCell (by exact HGE.out) _
        · obtain rfl : k = pn := by omega
          have HPA : Hid (∀ i, i < P.length → OkP T (pr P i)) := Lib.hid (fun i hi => HOK.out i (by have := HLP.out; omega))
          have hPL : pms T P k = pms T P P.length := by rw [HLP.out]
          rw [hPL] at HO
          obtain ⟨mo, mc, rfl, hsl⟩ := HO.out.sl
          obtain ⟨ln, hln⟩ : ∃ ln, (pms T P P.length).length = ln := ⟨_, rfl⟩
          have HO9 := Lib.hid HO.out
          rw [hln] at hsl d1 HBX HO9
          have hvr : VocR wr ⟨some ⟨gt, 0, none⟩, n, n, mo, ln, mc, sa, sn', sc'⟩ ⟨T, pms T P P.length, S'⟩ := by
            refine ⟨?_, hsl, ?_⟩
            · exact (by
                  have h := OwnT.keepG HOT.out HKP.out HGT.out
                  obtain ⟨a', c', e', h'⟩ := ownT_slice h
                  simp only [Value.slice.injEq] at e'
                  obtain ⟨rfl, e2, rfl⟩ := e'
                  rw [← e2] at h'
                  exact h')
            · exact ownF_slice (OwnF.keepG HOS.out HKP.out HGS.out)
          have hvok : VOk ⟨T, pms T P P.length, S'⟩ := ⟨HSZ.out, fun s hs => HSS.out s (HPS.out.mem_iff.1 hs), by
            have := HPS.out.length_eq
            have := HSL.out
            show S'.length ≤ _
            omega⟩
          have hmay := rmay_calls (V := ⟨T, pms T P P.length, S'⟩) (dd := ⟨some ⟨gt, 0, none⟩, n, n, mo, ln, mc, sa, sn', sc'⟩) wr hvr hvok
          clear hPL hsl hln hvr hvok t0 t1
          go_wp2_with (fail)
          refine hmay.mono ?_
          rintro e w5 ⟨⟨b, rfl, hi9⟩, hb5⟩
          have HI := Lib.hid hi9
          have HB5 : Hid (Below w0.heap.size w0 w5) := Lib.hid (HBB.out.trans (hb5.mono HBB.out.size))
          have HKP5 := Lib.hid (HKP.out.below hb5)
          have HO5 := Lib.hid (HO9.out.below hb5)
          have hx6 := (hb5.block w1.heap.size HG6.out).trans HBX.out
          obtain ⟨y0, y1, y2⟩ := box3v hx6
          obtain ⟨c0, c1, c2⟩ := box3v ((HB5.out.block g4 hs0).trans HX0.out)
          have f0 := boxf ((HB5.out.block g4 hs0).trans HX0.out)
          have HVO : Hid (tabOf R P S = ⟨T, sortMg (pms T P P.length), sortSp S⟩) := Lib.hid (by unfold tabOf; rw [HTE.out])
          have HSO := Lib.hid (sorted_may (T := T) (List.Perm.refl (pms T P P.length)) (pms_sorted T P P.length) HPS.out HSD.out)
          clear hmay hi9 hb5 hx6 d0 d1 d2
          cases b with
          | false =>
            have HF : Hid (¬ GoodTab R P S) := Lib.hid (fun h => by
              have h2 := h.2.2
              rw [HVO.out] at h2
              have := HI.out.2 (HSO.out.1.2 h2)
              cases this)
            go_wp2_with (fail)
            refine bodyPost_ret (v := .tuple #[noVd.val, .bool false]) ?_ rfl ⟨.inr ⟨HF.out, rfl⟩, ?_⟩
            · simp [results, Try.results11, go_sem, c0, c1, c2, noVd]
            · exact (((HB0.out.trans (HB5.out.mono HB0.out.size)).setCell (by exact HGE.out) _).setCell (by exact HGE.out) _).setCell (by exact HGE.out) _
          | true =>
            have HG : Hid (GoodTab R P S ∧ pms T P P.length = sortMg (pms T P P.length) ∧ S' = sortSp S) := Lib.hid (by
              have h := HI.out.1 rfl
              exact ⟨⟨HOKR.out, by rw [HTE.out]; exact HPA.out, by rw [HVO.out]; exact HSO.out.1.1 h⟩, HSO.out.2 h⟩)
            go_wp2_with (fail)
            refine bodyPost_ret (v := .tuple #[Vd.val ⟨some ⟨gt, 0, none⟩, n, n, mo, ln, mc, sa, sn', sc'⟩, .bool true]) ?_ rfl ⟨.inl ⟨HG.out.1, ⟨some ⟨gt, 0, none⟩, n, n, mo, ln, mc, sa, sn', sc'⟩, rfl, ?_⟩, ?_⟩
            · simp [results, Try.results11, go_sem, c0, c1, c2]
            · rw [HVO.out, ← HG.out.2.1, ← HG.out.2.2]
              refine ⟨?_, ownF_slice (own_stay HO5.out fun q h => heap_set3 _ _ _ _ _ ?_), ownF_slice (own_stay (OwnF.keepG HOS.out HKP5.out HGS.out) fun q h => heap_set3 _ _ _ _ _ ?_)⟩
              · have h := OwnT.keepG HOT.out HKP5.out HGT.out
                have h2 : OwnT _ w0.heap.size (.slice (some ⟨gt, 0, none⟩) n n) T := own_stay h fun q hq => heap_set3 w5 g4 (.slice (some ⟨gt, 0, none⟩) n n) (.slice mo ln mc) (.slice sa sn' sc') (by have := (World.ownsRow.lt h q hq).1; omega)
                obtain ⟨a', c', e', h'⟩ := ownT_slice h2
                simp only [Value.slice.injEq] at e'
                obtain ⟨rfl, e2, rfl⟩ := e'
                rw [← e2] at h'
                exact h'
              · have := (World.ownsRow.lt HO5.out q h).1
                have := HB2.out.size
                omega
              · have := (World.ownsRow.lt (OwnF.keepG HOS.out HKP5.out HGS.out) q h).1
                omega
            · exact (((HB0.out.trans (HB5.out.mono HB0.out.size)).setCell (by exact HGE.out) _).setCell (by exact HGE.out) _).setCell (by exact HGE.out) _
  · have HF : Hid (¬ GoodTab R P S) := Lib.hid (fun h => hno h.1)
    have HB1 := Lib.hid hb1
    clear hb1 hbase hno t0 t1
    simp only [noVd]
    obtain ⟨w2, hw2⟩ : ∃ w2, w1.alloc (.cells #[.slice none 0 0, .slice none 0 0, .slice none 0 0] 31) = w2 := ⟨_, rfl⟩
    have HBF : Hid (Below w0.heap.size w0 w2) := Lib.hid (by rw [← hw2]; exact HB1.out.alloc HB1.out.size _)
    obtain ⟨c0, c1, c2⟩ := box3v ((HBF.out.block g4 hs0).trans HX0.out)
    have f0 := boxf ((HBF.out.block g4 hs0).trans HX0.out)
    rw [← hw2] at c0 c1 c2 f0 HBF
    clear hw2
    go_wp2_with (fail)
    refine bodyPost_ret (v := .tuple #[noVd.val, .bool false]) ?_ rfl ⟨.inr ⟨HF.out, rfl⟩, ?_⟩
    · simp [results, Try.results11, go_sem, c0, c1, c2, noVd]
    · exact (((HB0.out.trans (HBF.out.mono HB0.out.size)).setCell (by exact HGE.out) _).setCell (by exact HGE.out) _).setCell (by exact HGE.out) _

theorem rfromTables_val {R : List Rw} {P : List Pr} {S : List Sp} {ro po so : Option Addr} {rn rc pn pc sn sc : Nat} (w : World) (hR : SlF 2 w ro rn rc (flat Rw.enc R)) (hP : SlF 2 w po pn pc (flat Pr.enc P)) (hS : SlF 2 w so sn sc (flat Sp.enc S))
    (hrs : ∀ r ∈ R, r.token.size ≤ maxLen) (hps : ∀ p ∈ P, p.left.size ≤ 80 ∧ p.right.size ≤ 80) (hss : Sized S) (hpn : pn ≤ 200) (hsn : sn ≤ 20) :
    Calls Try.prog 11 #[.agg #[.slice ro rn rc, .slice po pn pc], .slice so sn sc] w fun e w' => (∃ (d : Vd) (c : Bool), e = .returned (.tuple #[d.val, .bool c]) ∧ ((GoodTab R P S ∧ c = true) ∨ (¬ GoodTab R P S ∧ c = false)) ∧ VocR w' d (tV R P S)) ∧ Below w.heap.size w w' :=
  (rfromTables_calls w hR hP hS hrs hps hss hpn hsn).mono fun e w' ⟨h, hb⟩ => ⟨by
    rcases h with ⟨hg, d, rfl, hv⟩ | ⟨hn, rfl⟩
    · exact ⟨d, true, rfl, .inl ⟨hg, rfl⟩, by rw [tV_yes hg]; exact hv⟩
    · exact ⟨noVd, false, rfl, .inr ⟨hn, rfl⟩, by rw [tV_no hn]; exact noVoc w'⟩, hb⟩

end Go.Proofs.Yteoncpkfinheoaa
