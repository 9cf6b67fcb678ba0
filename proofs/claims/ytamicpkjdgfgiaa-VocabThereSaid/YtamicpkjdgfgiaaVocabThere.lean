/- VocabThere: a vocabulary that is made of rows may be, and has each row's token at its rank, and each special at its number; each of its merges makes a token of two. (Printed by gThere.py.) -/
import Derived.Test.YtamicpkjdgfgiaaGreatR
import Derived.Test.YtamicpkjdgfgiaaFromV
import Derived.Test.YtamicpkjdgfgiaaLook
import Derived.Test.YtamicpkjdgfgiaaLawV
import Derived.Test.YtamicpkjdgfgiaaRows
namespace Go.Proofs.Ytamicpkjdgfgiaa
open Go.RowKit
set_option linter.unusedVariables false

theorem notGreatR {R : List Rw} {S : List Sp} (h : ¬ GreatR R [] S) : R.length ≤ 400 ∧ S.length ≤ 20 := by
  refine ⟨?_, ?_⟩
  · exact Nat.le_of_not_lt fun g => h (.inl g)
  · exact Nat.le_of_not_lt fun g => h (.inr (.inr (.inl g)))
theorem bytesOf_at {T : List ByteArray} {i : Nat} (h : i < T.length) : bytesOf T (i : Int) = tk T i := by
  unfold bytesOf
  rw [isTk_at h]
  by_cases hz : (tk T i).size = 0
  · simp [hz]; exact (size_zero.1 hz).symm
  · simp [hz]
theorem isTk_yes {T : List ByteArray} {i : Nat} (h : i < T.length) (hz : (tk T i).size ≠ 0) : isTk T (i : Int) = true := by rw [isTk_at h]; simp [hz]
theorem isTk_no {T : List ByteArray} {i : Nat} (h : i < T.length) (hz : (tk T i).size = 0) : isTk T (i : Int) = false := by rw [isTk_at h]; simp [hz]
theorem keep5 {w0 w w' : World} {p1 p2 p3 p4 p5 : Addr} {v1 v2 v3 v4 v5 : Value} (h : w.cell? p1 = some v1 ∧ w.cell? p2 = some v2 ∧ w.cell? p3 = some v3 ∧ w.cell? p4 = some v4 ∧ w.cell? p5 = some v5 ∧ Below w0.heap.size w0 w) (hb : Below w.heap.size w w') :
    w'.cell? p1 = some v1 ∧ w'.cell? p2 = some v2 ∧ w'.cell? p3 = some v3 ∧ w'.cell? p4 = some v4 ∧ w'.cell? p5 = some v5 ∧ Below w0.heap.size w0 w' :=
  ⟨cell_below hb _ _ h.1, cell_below hb _ _ h.2.1, cell_below hb _ _ h.2.2.1, cell_below hb _ _ h.2.2.2.1, cell_below hb _ _ h.2.2.2.2.1, h.2.2.2.2.2.trans (hb.mono h.2.2.2.2.2.size)⟩
/-- What the law reads of its vocabulary's box and of an element's box. -/
theorem bx2 {w : World} {g : Nat} {x y : Value} {t : TypeId} (h : w.heap[g]? = some (.cells #[x, y] t)) : w.cell? ⟨g, 0, none⟩ = some x ∧ w.cell? ⟨g, 1, none⟩ = some y := by
  simp [World.cell?, h]

set_option maxHeartbeats 1500000 in
set_option maxRecDepth 100000 in
theorem vocabThere_walk {R : List Rw} {S : List Sp} {ro so : Option Addr} {rn rc sn sc : Nat} (w : World) (hR : SlF 2 w ro rn rc (flat Rw.enc R)) (hS : SlF 2 w so sn sc (flat Sp.enc S))
    (hrs : ∀ r ∈ R, r.token.size ≤ maxLen) (hss : ∀ s ∈ S, s.name.size ≤ maxLen) :
    Frame.Law Try.prog 8 #[.slice ro rn rc, .slice so sn sc] w := by
  unfold Frame.Law
  have HLR := Lib.hid (hR.count Rw.enc_len (by omega))
  have HLS := Lib.hid (hS.count Sp.enc_len (by omega))
  have HR := Lib.hid hR
  have HS := Lib.hid hS
  have HRS := Lib.hid hrs
  have HSS := Lib.hid hss
  have hgr := lgreat_calls (P := []) (po := none) (pn := 0) (pc := 0) w hR (SlF.nothing w) hS hrs (fun p hp => by simp at hp) hss
  have hm1 := Nat.le_trans hR.le hR.max
  have hm3 := Nat.le_trans hS.le hS.max
  unfold maxLen at hm1 hm3
  clear hR hS hrs hss
  go_enter Try.func8, Try.ntmps8
  go_wp2_with (fail)
  refine hgr.mono ?_
  rintro e w1 ⟨⟨b, rfl, hb⟩, hb1⟩
  have HB1 := Lib.hid hb1
  have HGB := Lib.hid hb
  clear hb1 hb hgr
  cases b with
  | true =>
    go_wp2_with (fail)
    refine (fixed_calls w1).mono ?_
    rintro e w2 ⟨rfl, hb2⟩
    go_wp2_with (fail)
    go_ret
    exact ⟨rfl, HB1.out.trans (hb2.mono HB1.out.size)⟩
  | false =>
    have hng := notGreatR (no_of HGB.out rfl)
    rw [HLR.out, HLS.out] at hng
    obtain ⟨hng1, hng2⟩ := hng
    have hfr := fromRows_calls (R := R) (S := S) w1 (HR.out.below HB1.out) (HS.out.below HB1.out) HRS.out HSS.out hng2
    go_wp2_with (fail)
    refine hfr.mono ?_
    rintro e w2 ⟨⟨⟨hok, hmay⟩, ⟨ta, tn, tc, ma, mn, mc, sa, sn1, sc1⟩, rfl, hv⟩ | ⟨hno, rfl⟩, hb2⟩
    · have HOK := Lib.hid hok
      have HMAY := Lib.hid hmay
      have hlm := hv.mrg.count Mg.enc_len (by omega)
      have hl2 := hv.spc.count Sp.enc_len (by omega)
      simp only at hlm hl2
      have hsn : sn1 = sn := by
        have h1 : (sortSp S).length = sn1 := hl2
        have h2 := (sortSp_perm S).length_eq
        have h3 := HLS.out
        omega
      have hqs : ((sn1 : Int) == (sn : Int)) = true := by simp [hsn]
      clear hsn
      have HLM : Hid ((sortMg (mergesOf (toksOf R S))).length = mn) := Lib.hid hlm
      have hmn : mn ≤ 16384 := by have h1 := hmay.2.1.1; have h2 : (sortMg (mergesOf (toksOf R S))).length ≤ 16384 := h1; have := HLM.out; omega
      obtain ⟨w3, hw3⟩ : ∃ w3, w2.alloc (.cells #[.slice ta tn tc, .slice ma mn mc, .slice sa sn1 sc1] 26) = w3 := ⟨_, rfl⟩
      have hb3 : Below w2.heap.size w2 w3 := hw3 ▸ below_alloc w2 _
      have hx3 : w3.heap[w2.heap.size]? = some (.cells #[.slice ta tn tc, .slice ma mn mc, .slice sa sn1 sc1] 26) := by rw [← hw3]; exact heap_alloc_new w2 _
      have hs3 : w2.heap.size < w3.heap.size := by rw [← hw3]; simp
      have HV := Lib.hid (hv.below hb3)
      have HX3 := Lib.hid hx3
      have HW3 := Lib.hid hw3
      have HBA : Hid (Below w.heap.size w w3) := Lib.hid (HB1.out.trans ((hb2.trans (hb3.mono hb2.size)).mono HB1.out.size))
      clear hok hmay hv hlm hl2 hb2 hb3 hx3 hw3 hfr
      go_wp2_with (fail)
      rw [HW3.out]
      go_loopw [56] (fun i wr => ∃ k : Nat, k ≤ rn ∧ i = .int .i64 k ∧ Below w3.heap.size w3 wr) (fun i _ => rn - (intOf i).toNat)
      case atStart => exact ⟨0, Nat.zero_le _, rfl, Below.refl _ _⟩
      case round =>
        obtain ⟨k, hk, rfl, hb⟩ := hrel
        have HB := Lib.hid hb
        clear hb
        by_cases hlt : k < rn
        · have hkR : k < R.length := by have := HLR.out; omega
          obtain ⟨b, of, rfl, hce⟩ := ((HR.out.below HBA.out).below HB.out).elem Rw.enc_len (by omega) (rw_eq hkR)
          obtain ⟨q, hq1, hq2, hq3⟩ := row_at (S := S) HOK.out (List.mem_of_getElem? (rw_eq hkR))
          obtain ⟨⟨tt, id⟩, hseq⟩ : ∃ m, rw' R k = m := ⟨_, rfl⟩
          rw [hseq] at hce hq1 hq3
          simp only at hq1 hq3
          subst hq1
          have d0 := hce 0 _ rfl
          have d1 := hce 1 _ rfl
          rw [Nat.add_zero] at d0
          simp only at d0 d1
          clear hce hseq
          obtain ⟨wx, hwx⟩ : ∃ wx, wr.alloc (.cells #[.string tt, .int .i64 (q : Int)] 32) = wx := ⟨_, rfl⟩
          have hbx : Below wr.heap.size wr wx := hwx ▸ below_alloc wr _
          have hxx : wx.heap[wr.heap.size]? = some (.cells #[.string tt, .int .i64 (q : Int)] 32) := by rw [← hwx]; exact heap_alloc_new wr _
          have hsx : wr.heap.size < wx.heap.size := by rw [← hwx]; simp
          have HWX := Lib.hid hwx
          have HXX := Lib.hid hxx
          have HBX : Hid (Below w3.heap.size w3 wx) := Lib.hid (HB.out.trans (hbx.mono HB.out.size))
          obtain ⟨c0, c1, c2⟩ := box3v ((HBX.out.block w2.heap.size hs3).trans HX3.out)
          rw [← hwx] at c0 c1 c2
          clear hwx hbx hxx
          have hby := vbytes_calls (dd := ⟨ta, tn, tc, ma, mn, mc, sa, sn1, sc1⟩) (q : Int) wx (HV.out.below HBX.out)
          rw [show (vocOf R S).tokens = toksOf R S from rfl, bytesOf_at hq2, hq3] at hby
          have hs1 := bneS_yes (rfl : tt = tt)
          have hs2 := beqS_yes (rfl : tt = tt)
          have hof := fun w' (hb : Below w3.heap.size w3 w') => of_calls (d := ⟨ta, tn, tc, ma, mn, mc, sa, sn1, sc1⟩) tt w' (HV.out.below hb)
          rw [show (vocOf R S).tokens = toksOf R S from rfl] at hof
          by_cases hz : tt.size = 0
          · have hit : isTk (toksOf R S) (q : Int) = false := isTk_no hq2 (by rw [hq3]; exact hz)
            rw [hit] at hby
            obtain ⟨e1, e2, e3⟩ := strE_yes hz
            clear hit hof hz hq3
            go_wp2_with (fail)
            rw [HWX.out]
            refine hby.mono ?_
            rintro e wy ⟨rfl, hby2⟩
            have HBY : Hid (Below w3.heap.size w3 wy) := Lib.hid (HBX.out.trans (hby2.mono HBX.out.size))
            clear c0 c1 c2
            obtain ⟨c0, c1, c2⟩ := box3v ((HBY.out.block w2.heap.size hs3).trans HX3.out)
            obtain ⟨g0, g1⟩ := bx2 ((hby2.block wr.heap.size hsx).trans HXX.out)
            clear hby hby2
            go_wp2_with (fail)
            go_quiet (fail)
            go_wp2_with (fail)
            go_roundw
            case rel => exact ⟨k + 1, by omega, by go_num, below_drewN HBY.out _⟩
            case measure => simp [intOf]; omega
          · have hit : isTk (toksOf R S) (q : Int) = true := isTk_yes hq2 (by rw [hq3]; exact hz)
            have hofq : ofT (toksOf R S) tt = (q : Int) := by
              have hu : Uniq (toksOf R S) := HMAY.out.1.2.2.1
              have := hu.of hq2 (by rw [hq3]; exact hz)
              rw [hq3] at this
              exact this
            rw [hit] at hby
            rw [hofq] at hof
            have hqq : ((q : Int) != (q : Int)) = false := by simp
            obtain ⟨e1, e2, e3⟩ := strE_no hz
            clear hit hz hq3 hofq
            go_wp2_with (fail)
            rw [HWX.out]
            refine hby.mono ?_
            rintro e wy ⟨rfl, hby2⟩
            have HBY : Hid (Below w3.heap.size w3 wy) := Lib.hid (HBX.out.trans (hby2.mono HBX.out.size))
            clear c0 c1 c2
            obtain ⟨c0, c1, c2⟩ := box3v ((HBY.out.block w2.heap.size hs3).trans HX3.out)
            obtain ⟨g0, g1⟩ := bx2 ((hby2.block wr.heap.size hsx).trans HXX.out)
            clear hby hby2
            go_wp2_with (fail)
            have hun : undef = Value.tuple #[] := rfl
            (go_region_held3 (fun w' => w'.cell? ⟨w2.heap.size, 0, none⟩ = some (.slice ta tn tc) ∧ w'.cell? ⟨w2.heap.size, 1, none⟩ = some (.slice ma mn mc) ∧ w'.cell? ⟨w2.heap.size, 2, none⟩ = some (.slice sa sn1 sc1) ∧ w'.cell? ⟨wr.heap.size, 0, none⟩ = some (.string tt) ∧ w'.cell? ⟨wr.heap.size, 1, none⟩ = some (.int .i64 (q : Int)) ∧ Below w3.heap.size w3 w') (first | assumption | exact keep5 (by assumption) (by assumption) | exact ⟨c0, c1, c2, g0, g1, HBY.out.drew⟩)
                ((go_at_call 21; refine (hof _ (And.right (And.right (And.right (And.right (And.right (by assumption))))))).mono ?_; rintro e w9 ⟨rfl, hb9⟩)))
            all_goals (go_wp2_with (fail)
                       go_roundw
                       case rel => exact ⟨_, _, _, _, _, _, _, _, _, _, _, _, _, _, _, _, _, _, _, _, _, _, _, _, _, _, _, _, _, _, _, _, _, _, _, _, _, _, ⟨k + 1, by omega, by go_num, (And.right (And.right (And.right (And.right (And.right (by assumption))))))⟩, rfl⟩
                       case measure => simp [intOf]; omega)
        · obtain ⟨wo, rfl⟩ : ∃ wo : World, wo = wr := ⟨_, rfl⟩
          go_wp2_with (fail)
          go_loopw [92] (fun i wr => ∃ k : Nat, k ≤ sn ∧ i = .int .i64 k ∧ Below w3.heap.size w3 wr) (fun i _ => sn - (intOf i).toNat)
          case atStart => exact ⟨0, Nat.zero_le _, rfl, HB.out⟩
          case round =>
            obtain ⟨k, hk, rfl, hb⟩ := hrel
            have HB := Lib.hid hb
            clear hb
            by_cases hlt : k < sn
            · have hkS : k < S.length := by have := HLS.out; omega
              obtain ⟨b, of, rfl, hce⟩ := ((HS.out.below HBA.out).below HB.out).elem Sp.enc_len (by omega) (sp_eq hkS)
              have hmem := (sortSp_perm S).mem_iff.2 (List.mem_of_getElem? (sp_eq hkS))
              have hq1 : spBy (sortSp S) (sp S k).id = some (sp S k) := spBy_mem HMAY.out.2.2.2 hmem
              have hq2 : spNamed (sortSp S) (sp S k).name = some (sp S k) := spNamed_mem HMAY.out.2.2.2 hmem
              obtain ⟨⟨tt, id⟩, hseq⟩ : ∃ m, sp S k = m := ⟨_, rfl⟩
              rw [hseq] at hce hq1 hq2
              simp only at hq1 hq2
              have d0 := hce 0 _ rfl
              have d1 := hce 1 _ rfl
              rw [Nat.add_zero] at d0
              simp only at d0 d1
              clear hce hseq hmem
              obtain ⟨wx, hwx⟩ : ∃ wx, wr.alloc (.cells #[.string tt, .int .i64 id] 41) = wx := ⟨_, rfl⟩
              have hbx : Below wr.heap.size wr wx := hwx ▸ below_alloc wr _
              have hxx : wx.heap[wr.heap.size]? = some (.cells #[.string tt, .int .i64 id] 41) := by rw [← hwx]; exact heap_alloc_new wr _
              have hsx : wr.heap.size < wx.heap.size := by rw [← hwx]; simp
              have HWX := Lib.hid hwx
              have HXX := Lib.hid hxx
              have HBX : Hid (Below w3.heap.size w3 wx) := Lib.hid (HB.out.trans (hbx.mono HB.out.size))
              obtain ⟨c0, c1, c2⟩ := box3v ((HBX.out.block w2.heap.size hs3).trans HX3.out)
              rw [← hwx] at c0 c1 c2
              clear hwx hbx hxx
              have hby := name_calls (dd := ⟨ta, tn, tc, ma, mn, mc, sa, sn1, sc1⟩) id wx (HV.out.below HBX.out)
              have hof := fun w' (hb : Below w3.heap.size w3 w') => id_calls (dd := ⟨ta, tn, tc, ma, mn, mc, sa, sn1, sc1⟩) tt w' (HV.out.below hb)
              rw [show (vocOf R S).specials = sortSp S from rfl] at hby hof
              rw [hq1] at hby
              rw [hq2] at hof
              simp only [nmOf, Option.isSome] at hby
              simp only [idOf] at hof
              have hs1 := bneS_yes (rfl : tt = tt)
              have hs2 := beqS_yes (rfl : tt = tt)
              have hqq : (id != id) = false := by simp
              clear hq1 hq2
              go_wp2_with (fail)
              rw [HWX.out]
              refine hby.mono ?_
              rintro e wy ⟨rfl, hby2⟩
              have HBY : Hid (Below w3.heap.size w3 wy) := Lib.hid (HBX.out.trans (hby2.mono HBX.out.size))
              clear c0 c1 c2
              obtain ⟨c0, c1, c2⟩ := box3v ((HBY.out.block w2.heap.size hs3).trans HX3.out)
              obtain ⟨g0, g1⟩ := bx2 ((hby2.block wr.heap.size hsx).trans HXX.out)
              clear hby hby2
              go_wp2_with (fail)
              have hun : undef = Value.tuple #[] := rfl
              (go_region_held3 (fun w' => w'.cell? ⟨w2.heap.size, 0, none⟩ = some (.slice ta tn tc) ∧ w'.cell? ⟨w2.heap.size, 1, none⟩ = some (.slice ma mn mc) ∧ w'.cell? ⟨w2.heap.size, 2, none⟩ = some (.slice sa sn1 sc1) ∧ w'.cell? ⟨wr.heap.size, 0, none⟩ = some (.string tt) ∧ w'.cell? ⟨wr.heap.size, 1, none⟩ = some (.int .i64 id) ∧ Below w3.heap.size w3 w') (first | assumption | exact keep5 (by assumption) (by assumption) | exact ⟨c0, c1, c2, g0, g1, HBY.out.drew⟩)
                  ((go_at_call 23; refine (hof _ (And.right (And.right (And.right (And.right (And.right (by assumption))))))).mono ?_; rintro e w9 ⟨rfl, hb9⟩)))
              all_goals (go_wp2_with (fail)
                         go_roundw
                         case rel => exact ⟨_, _, _, _, _, _, _, _, _, _, _, _, _, _, _, _, _, _, _, _, _, _, _, _, _, _, _, _, _, _, _, _, _, ⟨k + 1, by omega, by go_num, (And.right (And.right (And.right (And.right (And.right (by assumption))))))⟩, rfl⟩
                         case measure => simp [intOf]; omega)
            · obtain ⟨wo2, rfl⟩ : ∃ wo2 : World, wo2 = wr := ⟨_, rfl⟩
              obtain ⟨c0, c1, c2⟩ := box3v ((HB.out.block w2.heap.size hs3).trans HX3.out)
              go_wp2_with (fail)
              go_loopw [124] (fun i wr => ∃ k : Nat, k ≤ mn ∧ i = .int .i64 k ∧ Below w3.heap.size w3 wr) (fun i _ => mn - (intOf i).toNat)
              case atStart => exact ⟨0, Nat.zero_le _, rfl, HB.out⟩
              case round =>
                obtain ⟨k, hk, rfl, hb⟩ := hrel
                have HB := Lib.hid hb
                clear hb
                by_cases hlt : k < mn
                · have hkM : k < (sortMg (mergesOf (toksOf R S))).length := by have := HLM.out; omega
                  obtain ⟨mb, mf, hao, hce⟩ := (HV.out.below HB.out).mrg.elem Mg.enc_len (by omega) (mg_eq hkM)
                  simp only at hao
                  subst hao
                  have hok := HMAY.out.2.1.2.1 _ (List.mem_of_getElem? (mg_eq hkM))
                  rw [show (vocOf R S).tokens = toksOf R S from rfl] at hok
                  obtain ⟨⟨l, r, o, d⟩, hseq⟩ : ∃ m, mg (sortMg (mergesOf (toksOf R S))) k = m := ⟨_, rfl⟩
                  have hseq' : mg (vocOf R S).merges k = ⟨l, r, o, d⟩ := hseq
                  rw [hseq'] at hce
                  rw [show (vocOf R S).merges = sortMg (mergesOf (toksOf R S)) from rfl, hseq] at hok
                  obtain ⟨hl, hr, ho, hcat, _, _⟩ := hok
                  simp only at hl hr ho hcat
                  obtain ⟨l0, l1, hl2⟩ := isTk_iff.1 hl
                  obtain ⟨r0, r1, hr2⟩ := isTk_iff.1 hr
                  obtain ⟨o0, o1, ho2⟩ := isTk_iff.1 ho
                  obtain ⟨l, rfl⟩ := Int.eq_ofNat_of_zero_le l0
                  obtain ⟨r, rfl⟩ := Int.eq_ofNat_of_zero_le r0
                  obtain ⟨o, rfl⟩ := Int.eq_ofNat_of_zero_le o0
                  have hl1 : l < (toksOf R S).length := by omega
                  have hr1 : r < (toksOf R S).length := by omega
                  have ho1 : o < (toksOf R S).length := by omega
                  simp only [Int.toNat_natCast] at hl2 hr2 ho2 hcat
                  have s1 : (tk (toksOf R S) l).size ≤ 64 := HMAY.out.1.2.1 _ (tk_mem hl1)
                  have s2 : (tk (toksOf R S) r).size ≤ 64 := HMAY.out.1.2.1 _ (tk_mem hr1)
                  have d0 := hce 0 _ rfl
                  have d1 := hce 1 _ rfl
                  have d2 := hce 2 _ rfl
                  have d3 := hce 3 _ rfl
                  rw [Nat.add_zero] at d0
                  simp only at d0 d1 d2 d3
                  clear hce hseq hseq' hl hr ho l0 l1 r0 r1 o0 o1
                  have hs1 := bneS_yes hcat
                  have hs2 := beqS_yes hcat
                  obtain ⟨wx, hwx⟩ : ∃ wx, wr.alloc (.cells #[.int .i64 (l : Int), .int .i64 (r : Int), .int .i64 (o : Int), .int .i64 d] 54) = wx := ⟨_, rfl⟩
                  have hbx : Below wr.heap.size wr wx := hwx ▸ below_alloc wr _
                  have hxx : wx.heap[wr.heap.size]? = some (.cells #[.int .i64 (l : Int), .int .i64 (r : Int), .int .i64 (o : Int), .int .i64 d] 54) := by rw [← hwx]; exact heap_alloc_new wr _
                  have hsx : wr.heap.size < wx.heap.size := by rw [← hwx]; simp
                  have HWX := Lib.hid hwx
                  have HXX := Lib.hid hxx
                  have HBX : Hid (Below w3.heap.size w3 wx) := Lib.hid (HB.out.trans (hbx.mono HB.out.size))
                  obtain ⟨c0, c1, c2⟩ := box3v ((HBX.out.block w2.heap.size hs3).trans HX3.out)
                  rw [← hwx] at c0 c1 c2
                  clear hwx hbx hxx
                  have hba := vbytes_calls (dd := ⟨ta, tn, tc, some ⟨mb, mf, none⟩, mn, mc, sa, sn1, sc1⟩) (l : Int) wx (HV.out.below HBX.out)
                  rw [show (vocOf R S).tokens = toksOf R S from rfl, bytesOf_at hl1, isTk_yes hl1 hl2] at hba
                  obtain ⟨sl, hsl⟩ : ∃ sl, tk (toksOf R S) l = sl := ⟨_, rfl⟩
                  obtain ⟨sr, hsr⟩ : ∃ sr, tk (toksOf R S) r = sr := ⟨_, rfl⟩
                  obtain ⟨so', hso⟩ : ∃ so', tk (toksOf R S) o = so' := ⟨_, rfl⟩
                  rw [hsl] at hba hs1 hs2 s1
                  rw [hsr] at hs1 hs2 s2
                  rw [hso] at hs1 hs2
                  have HSL := Lib.hid hsl
                  have HSR := Lib.hid hsr
                  have HSO := Lib.hid hso
                  have HQ := Lib.hid (And.intro (And.intro hr1 hr2) (And.intro ho1 ho2))
                  clear hsl hsr hso hcat hl1 hl2 hr1 hr2 ho1 ho2
                  go_wp2_with (fail)
                  rw [HWX.out]
                  refine hba.mono ?_
                  rintro e wy ⟨rfl, hb1⟩
                  have HBY : Hid (Below w3.heap.size w3 wy) := Lib.hid (HBX.out.trans (hb1.mono HBX.out.size))
                  have hx1 := (hb1.block wr.heap.size hsx).trans HXX.out
                  have HX1 := Lib.hid hx1
                  have hsy : wr.heap.size < wy.heap.size := Nat.lt_of_lt_of_le hsx hb1.size
                  clear c0 c1 c2
                  obtain ⟨c0, c1, c2⟩ := box3v ((HBY.out.block w2.heap.size hs3).trans HX3.out)
                  obtain ⟨g0, g1, g2, g3⟩ := box4 hx1
                  clear hba hb1 hx1
                  have hbb := vbytes_calls (dd := ⟨ta, tn, tc, some ⟨mb, mf, none⟩, mn, mc, sa, sn1, sc1⟩) (r : Int) wy (HV.out.below HBY.out)
                  rw [show (vocOf R S).tokens = toksOf R S from rfl, bytesOf_at HQ.out.1.1, isTk_yes HQ.out.1.1 HQ.out.1.2, HSR.out] at hbb
                  go_wp2_with (fail)
                  refine hbb.mono ?_
                  rintro e wz ⟨rfl, hb1⟩
                  have HBZ : Hid (Below w3.heap.size w3 wz) := Lib.hid (HBY.out.trans (hb1.mono HBY.out.size))
                  have hx1 := (hb1.block wr.heap.size hsy).trans HX1.out
                  have HX2 := Lib.hid hx1
                  have hsz : wr.heap.size < wz.heap.size := Nat.lt_of_lt_of_le hsy hb1.size
                  clear c0 c1 c2 g0 g1 g2 g3
                  obtain ⟨c0, c1, c2⟩ := box3v ((HBZ.out.block w2.heap.size hs3).trans HX3.out)
                  obtain ⟨g0, g1, g2, g3⟩ := box4 hx1
                  clear hbb hb1 hx1
                  have hbc := vbytes_calls (dd := ⟨ta, tn, tc, some ⟨mb, mf, none⟩, mn, mc, sa, sn1, sc1⟩) (o : Int) wz (HV.out.below HBZ.out)
                  rw [show (vocOf R S).tokens = toksOf R S from rfl, bytesOf_at HQ.out.2.1, isTk_yes HQ.out.2.1 HQ.out.2.2, HSO.out] at hbc
                  go_wp2_with (fail)
                  refine hbc.mono ?_
                  rintro e wu ⟨rfl, hb1⟩
                  have HBU : Hid (Below w3.heap.size w3 wu) := Lib.hid (HBZ.out.trans (hb1.mono HBZ.out.size))
                  clear c0 c1 c2 g0 g1 g2 g3 hbc hb1
                  have s3 : sl.size + sr.size ≤ maxLen := by unfold maxLen; omega
                  unfold maxLen at s3
                  go_wp2_with (fail)
                  go_roundw
                  case rel => exact ⟨k + 1, by omega, by go_num, HBU.out⟩
                  case measure => simp [intOf]; omega
                · obtain ⟨wo3, rfl⟩ : ∃ wo3 : World, wo3 = wr := ⟨_, rfl⟩
                  obtain ⟨c0, c1, c2⟩ := box3v ((HB.out.block w2.heap.size hs3).trans HX3.out)
                  have hvok : VOk (vocOf R S) := ⟨toks_sized HRS.out, fun s hs => HSS.out s ((sortSp_perm S).mem_iff.1 hs), by
                    have := (sortSp_perm S).length_eq
                    have := HLS.out
                    show (sortSp S).length ≤ _
                    omega⟩
                  have hma := fun w' (hb : Below wo3.heap.size wo3 w') => may_val (dd := ⟨ta, tn, tc, ma, mn, mc, sa, sn1, sc1⟩) w' ((HV.out.below HB.out).below hb) hvok
                  rw [show mV (vocOf R S) = true from (mV_iff _).2 HMAY.out] at hma
                  go_wp2_with (fail)
                  refine (fixed_calls wo3).mono ?_
                  rintro e w7 ⟨rfl, hb7⟩
                  obtain ⟨c0, c1, c2⟩ : _ ∧ _ ∧ _ := ⟨cell_below hb7 _ _ c0, cell_below hb7 _ _ c1, cell_below hb7 _ _ c2⟩
                  have HB7 := Lib.hid hb7
                  clear hb7
                  go_wp2_with (fail)
                  refine (hma w7 HB7.out).mono ?_
                  rintro e w8 ⟨rfl, hb8⟩
                  obtain ⟨c0, c1, c2⟩ : _ ∧ _ ∧ _ := ⟨cell_below hb8 _ _ c0, cell_below hb8 _ _ c1, cell_below hb8 _ _ c2⟩
                  have HB8 := Lib.hid (HB7.out.trans (hb8.mono HB7.out.size))
                  clear hb8
                  go_wp2_with (fail)
                  go_ret
                  exact ⟨rfl, HBA.out.trans ((HB.out.trans (HB8.out.mono HB.out.size)).mono HBA.out.size)⟩
    · have hb3 := HB1.out.trans (hb2.mono HB1.out.size)
      have HB2 := Lib.hid hb3
      obtain ⟨w3, hw3⟩ : ∃ w3, w2.alloc (.cells #[.slice none 0 0, .slice none 0 0, .slice none 0 0] 26) = w3 := ⟨_, rfl⟩
      have hx3 : w3.heap[w2.heap.size]? = some (.cells #[.slice none 0 0, .slice none 0 0, .slice none 0 0] 26) := by rw [← hw3]; exact heap_alloc_new w2 _
      have HW3 := Lib.hid hw3
      have HB3 : Hid (Below w.heap.size w w3) := Lib.hid (by rw [← hw3]; exact hb3.alloc hb3.size _)
      obtain ⟨c0, c1, c2⟩ := box3v hx3
      clear hb2 hb3 hfr hno hw3 hx3
      simp only [noVd]
      go_wp2_with (fail)
      rw [HW3.out]
      refine (fixed_calls w3).mono ?_
      rintro e w4 ⟨rfl, hb4⟩
      obtain ⟨c0, c1, c2⟩ : _ ∧ _ ∧ _ := ⟨cell_below hb4 _ _ c0, cell_below hb4 _ _ c1, cell_below hb4 _ _ c2⟩
      have HB4 := Lib.hid (HB3.out.trans (hb4.mono HB3.out.size))
      clear hb4
      go_wp2_with (fail)
      go_ret
      exact ⟨rfl, HB4.out⟩

set_option maxRecDepth 100000 in
theorem vocabThere_law (W : World) (base : Nat) {H : Type} {enc : TypeId × Value → H} (args : Array Value) (ds : List (DataW H)) (p : List MemPlace)
    (hval : ∀ (j : Nat) t v, Try.f8.params[j]? = some t → args[j]? = some v → Value.okWide Try.prog W .any base t v)
    (hA : DataW.TrodAll enc Try.prog W 0 (fun _ => true) true Try.f8.params.toList args.toList ds p) :
    Frame.Law Try.prog 8 args W := by
  rw [Try.params8] at hA hval
  obtain ⟨v0, v1, d0, d1, p0, p1, rfl, rfl, rfl, h0, h1⟩ := Go.ChangeShapes.trodAll_two hA
  obtain ⟨ro, rn, rc, R, rfl, hR, hrs⟩ := rws_open (hval 0 29 v0 rfl rfl) h0
  obtain ⟨so, sn, sc, S, rfl, hS, hss⟩ := sps_open (hval 1 24 v1 rfl rfl) h1
  exact vocabThere_walk W hR hS hrs hss

set_option maxRecDepth 100000 in
theorem vocabThere_lifted (os : Os) (started : os.Started) (H : Type) (enc : TypeId × Value → H) :
    ReturnsInHanded {} Try.checked os 8 .any (Rows.vocabThereSpec.pre6 enc Try.prog Try.f8 Rows.vocabThereRow.domain false) (Rows.vocabThereSpec.post enc Try.prog Try.f8 false true false false) :=
  Frame.law_lift (C := Try.checked) (fn := Try.f8) own started (by kernel_rfl) Try.func8 laidOut (by decide +kernel) rfl Try.underlying4 rfl
    (fun ds h => by match ds, h with | [d1, d2], _ => rfl)
    (ChangeSpec.witness6 (enc := enc) (C := Try.checked) false ⟨#[], #[.slice none 0 0, .slice none 0 0], []⟩ 8 (by kernel_rfl) (by kernel_rfl) (by kernel_rfl) (by kernel_rfl))
    (fun W base args ds p hval hA => vocabThere_law W base args ds p hval hA)

theorem vocabThere_holds : Rows.VocabThereSaid :=
  OpenClaim.holds_of_wide 8 Try.f8 rfl rfl rfl rfl rfl rfl rfl ⟨rfl, rfl, rfl, rfl, rfl⟩ rfl rfl rfl rfl rfl (by kernel_rfl) Try.func8 (by kernel_rfl)
    (of_decide_eq_true (by kernel_rfl)) (by unfold Func.isWrapper; rw [if_neg (of_decide_eq_false (by kernel_rfl))]; exact ⟨rfl, rfl⟩)
    (fun os started H enc _ => vocabThere_lifted os started H enc)

#print axioms vocabThere_holds
end Go.Proofs.Ytamicpkjdgfgiaa
