/- Walk: the document's base: tokens of rows, specials by rising names. (Printed by gBase9.py.) -/
import Derived.Test.YtahiballegpbgaaGreatDoorR6
set_option linter.unusedVariables false
set_option maxHeartbeats 1500000
set_option maxRecDepth 100000
namespace Go.Proofs.YtahiballegpbgaaGreatDoor
open Go.RowKit
def Q7 (S:List Sp):Prop:=S.Pairwise (fun a b=>vA b.name a.name=false)
theorem bQ {S:List Sp} {s:Sp} {k:Nat} (h1:∀j,j<k->vA s.name (sp S j).name=false) (hk:k<=S.length) (h2:k=S.length\/vA s.name (sp S k).name=true) (hs:Q7 S):Q7 (S.take k++s::S.drop k):=by
 refine dS (lt:=fun a b:Sp=>vA a.name b.name) (fun a b c=>cN) hs (fun j x hj hx=> ?_) (fun x hx=> ?_)
 ·rw[mD (by omega)]at hx;simp only[Option.some.injEq]at hx;subst hx;exact h1 j hj
 ·rcases h2 with rfl | h2
  ·rw[List.getElem?_eq_none (Nat.le_refl _)]at hx;cases hx
  ·have hlt:=(List.getElem?_eq_some_iff.1 hx).1;rw[mD hlt]at hx;simp only[Option.some.injEq]at hx;subst hx;exact mM _ _ h2
def BasePost (R:List Rw) (S:List Sp) (w:World) (e:Ending) (w':World):Prop:=
 ((bG R S/\∃(gt n:Nat) (sa:Option Addr) (sn sc:Nat) (S':List Sp) (b:Bool),e= .returned (.tuple #[.agg #[.slice (some ⟨gt,0,none⟩) n n, .slice none 0 0, .slice sa sn sc], .bool b])/\D3 w' w.heap.size (.slice (some ⟨gt,0,none⟩) n n) (kF R S)/\iA Sp.enc 2 117 w' w.heap.size (.slice sa sn sc) S'/\S'.Perm S/\Q7 S'/\(b=true↔sD (kF R S)))\/(¬bG R S/\e= .returned (.tuple #[kH.val, .bool false])))/\Below w.heap.size w w'
theorem D3.set {w:World} {base g n:Nat} {L:List ByteArray} (h:D3 w base (.slice (some ⟨g,0,none⟩) n n) L) (hl:L.length=n) (i:Nat) (s:ByteArray):D3 (w.setCell ⟨g,i,none⟩ (.string s)) base (.slice (some ⟨g,0,none⟩) n n) (L.set i s):=by
 have c1:w.ownsRow base 9 1 (.slice (some ⟨g,0,none⟩) n n) L.length (L.map .string):=h;rw[hl]at c1;show World.ownsRow _ base 9 1 _ (L.set i s).length ((L.set i s).map .string);rw[List.length_set,hl,List.map_set];exact(World.ownsRow.stored c1 i (.string s)).1
theorem D3.at_ {w:World} {base g n:Nat} {L:List ByteArray} (h:D3 w base (.slice (some ⟨g,0,none⟩) n n) L) (hl:L.length=n) {i:Nat} (hi:i<n):w.cell? ⟨g,i,none⟩=some (.string (tk L i))/\w.frozen? ⟨g,i,none⟩=false/\base<=g/\g<w.heap.size:=by
 have c1:w.ownsRow base 9 1 (.slice (some ⟨g,0,none⟩) n n) L.length (L.map .string):=h;have a1:=World.ownsRow.lt c1 g rfl;rw[hl]at c1;exact⟨by rw[World.ownsRow.cellAt c1 i (by omega),List.getElem?_map,sB (by omega)];rfl,World.ownsRow.frozenAt c1 i,a1.1,a1.2⟩
theorem ownT_slc {w:World} {base:Nat} {v:Value} {T:List ByteArray} (h:D3 w base v T):∃ao cap,v= .slice ao T.length cap/\SlS w ao T.length cap T:=Sl.of_own h
theorem I6.free {R:List Rw} {k n:Nat} {L:List ByteArray} {A:List Int} (h:I6 R k n L A) {r:Nat} (hr:r<n) (hno:∀j,j<k->(rw' R j).rank≠(r:Int)):ix A r=0:=by
 rcases h.hit r hr with⟨h1,_⟩ | ⟨_,j,hj,hje⟩
 ·exact h1
 ·exact absurd hje (hno j hj)
theorem aDg {a b:ByteArray} (h1:vA a b=false) (h2:a≠b):vA b a=true:=by
 cases h:vA b a with
 | true=>rfl
 | false=>
  exfalso;apply h2;apply tS;unfold vA at h1 h;rw[zD]at h1 h;simp at h1 h;exact List.le_antisymm h h1
theorem eS (w:World) (g:Nat) (x y z:Value) {q:Nat} (h:q≠g):(((w.setCell ⟨g,0,none⟩ x).setCell ⟨g,1,none⟩ y).setCell ⟨g,2,none⟩ z).heap[q]?=w.heap[q]? :=cL w g x y z h
theorem aBQ {S:List Sp} {k:Nat} (h:k<S.length):S.take k++ [sp S k]=S.take (k+1):=by
 rw[List.take_add_one,mD h];rfl
theorem aBA {R : List Rw} {S : List Sp} {ro so : Option Addr} {rn rc sn sc : Nat} (w : World) (hR : SlF 2 w ro rn rc (flat Rw.enc R)) (hS : SlF 2 w so sn sc (flat Sp.enc S))
    (hrs : ∀ r ∈ R, r.token.size <= maxLen) (hss : lO S) (hsn : sn <= 20) :
    Calls Tryz.prog 105 #[.slice ro rn rc, .slice so sn sc] w (BasePost R S w) := by
  have hm := Nat.le_trans hR.le hR.max;have hmm := Nat.le_trans hS.le hS.max;unfold maxLen at hm hmm;have hlenR := hW_ (hR.count Rw.enc_len (by omega));have hlenS := hW_ (hS.count Sp.enc_len (by omega));obtain ⟨i9, hi9, hz9, hs9, hb9⟩ := info_parts infoStr9;obtain ⟨i1, z1, ki, kz0, kz1, kz2, kz3⟩ := B6 infoSp;obtain ⟨w0, hw0⟩ : ∃ w0, w.alloc (.cells #[.slice none 0 0, .slice none 0 0, .slice none 0 0] 26) = w0 := ⟨_, rfl⟩;have hb0 : Below w.heap.size w w0 := hw0 ▸ aA w _;have hx0 : w0.heap[w.heap.size]? = some (.cells #[.slice none 0 0, .slice none 0 0, .slice none 0 0] 26) := by rw [<- hw0]; exact heap_alloc_new w _
  have hs0 : w.heap.size < w0.heap.size := by rw [<- hw0]; simp
  have HR := hW_ (hR.below hb0);have HSS := hW_ (hS.below hb0);have HB0 := hW_ hb0;have HX0 := hW_ hx0;have HW0 := hW_ hw0;have HSZ : Hid (∀ s ∈ kF R S, s.size <= maxLen) := hW_ (gR hrs);have HSS2 := hW_ hss;clear hR hS hb0 hx0 hw0 hrs hss;go_enter Tryz.func105, Tryz.ntmps105;go_wp2_with (fail);rw [HW0.out];go_loopw [6, 18] (fun m i wr => ∃ (k t : Nat), k <= sn /\ i = .int .i64 k /\ m = .int .i64 t /\ t <= 4096 /\ Hid (oX S k = (t : Int)) /\ Hid (OkS S k) /\ Below w0.heap.size w0 wr) (fun _ i _ => sn - (intOf i).toNat)
  case atStart => exact ⟨0, 0, Nat.zero_le _, rfl, rfl, by omega, hW_ rfl, hW_ (fun j hj => by omega), Below.refl _ _⟩
  case round =>
    obtain ⟨k, t, hk, rfl, rfl, ht, HT, HO, hb⟩ := hrel;have HB := hW_ hb;have hsr := hb.size;obtain ⟨c0, c1, c2⟩ := A4 ((hb.block w.heap.size hs0).trans HX0.out);have f0 := cU ((hb.block w.heap.size hs0).trans HX0.out);clear hb
    by_cases hlt : k < sn
    · have hkS : k < S.length := by have := hlenS.out; omega
      obtain ⟨b, of, rfl, hce⟩ := (HSS.out.below HB.out).elem Sp.enc_len (by omega) (mD hkS);obtain ⟨⟨nm, id⟩, hseq⟩ : ∃ m, sp S k = m := ⟨_, rfl⟩;rw [hseq] at hce;have d0 := hce 0 _ rfl;have d1 := hce 1 _ rfl;rw [Nat.add_zero] at d0;simp only at d0 d1;have HSK := hW_ hseq;clear hce hseq
      by_cases h0 : id < 0
      · have hg : decide (id < 0) = true := by simpa using h0
        have HF := hW_ (aCf (R := R) hkS (by rw [HSK.out]; simp only; omega));go_wp2_with (fail);refine bodyPost_ret (v := .tuple #[kH.val, .bool false]) ?_ rfl ⟨.inr ⟨HF.out, rfl⟩, ?_⟩
        · simp [results, Tryz.results105, go_sem, c0, c1, c2, kH]
        · exact (((HB0.out.trans (HB.out.mono HB0.out.size)).setCell (Nat.le_refl _) _).setCell (Nat.le_refl _) _).setCell (Nat.le_refl _) _
      have hg0 : decide (id < 0) = false := by simpa using h0
      by_cases h1 : 4096 <= id
      · have hg : decide (4096 <= id) = true := by simpa using h1
        have HF := hW_ (aCf (R := R) hkS (by rw [HSK.out]; simp only; omega));go_wp2_with (fail);refine bodyPost_ret (v := .tuple #[kH.val, .bool false]) ?_ rfl ⟨.inr ⟨HF.out, rfl⟩, ?_⟩
        · simp [results, Tryz.results105, go_sem, c0, c1, c2, kH]
        · exact (((HB0.out.trans (HB.out.mono HB0.out.size)).setCell (Nat.le_refl _) _).setCell (Nat.le_refl _) _).setCell (Nat.le_refl _) _
      have hg1 : decide (4096 <= id) = false := by simpa using h1
      have hw1 : IntKind.i64.wrap (id + 1) = id + 1 := by rw [IntKind.wrap_i64]; omega
      have HO2 : Hid (OkS S (k + 1)) := hW_ (fun j hj => by
        by_cases e : j = k
        · subst e; rw [HSK.out]; simp only; omega
        · exact HO.out j (by omega))
      have HTn : Hid (oX S (k + 1) = max (t : Int) (id + 1)) := hW_ (by rw [aCV hkS, HT.out, HSK.out]);go_wp2_with (fail);go_roundw
      case rel => exact ⟨k + 1, (max (t : Int) (id + 1)).toNat, by omega, by go_num, by rw [Int.toNat_of_nonneg (by omega)], by omega, hW_ (by rw [HTn.out, Int.toNat_of_nonneg (by omega)]), HO2, HB.out⟩
      case measure => simp [intOf]; omega
    · have HSA : Hid (OkS S S.length) := hW_ (by rw [hlenS.out, show sn = k by omega]; exact HO.out);have HTA : Hid (kT R S 0 = (t : Int)) := hW_ (by rw [aCW, hlenS.out, show sn = k by omega]; exact HT.out);clear c0 c1 c2 f0;obtain ⟨wo, rfl⟩ : ∃ wo : World, wo = wr := ⟨_, rfl⟩;go_wp2_with (fail);go_loopw [6, 47] (fun m i wr => ∃ (k t : Nat), k <= rn /\ i = .int .i64 k /\ m = .int .i64 t /\ t <= 4096 /\ Hid (kT R S k = (t : Int)) /\ Hid (OkR R k) /\ Below w0.heap.size w0 wr) (fun _ i _ => rn - (intOf i).toNat)
      case atStart => exact ⟨0, t, Nat.zero_le _, rfl, rfl, ht, HTA, hW_ (fun j hj => by omega), HB.out⟩
      case round =>
        obtain ⟨k2, t2, hk2, rfl, rfl, ht2, HT2, HO2, hb2⟩ := hrel;have HB2 := hW_ hb2;have hsr2 := hb2.size;obtain ⟨c0, c1, c2⟩ := A4 ((hb2.block w.heap.size hs0).trans HX0.out);have f0 := cU ((hb2.block w.heap.size hs0).trans HX0.out);clear hb2
        by_cases hlt2 : k2 < rn
        · have hkR : k2 < R.length := by have := hlenR.out; omega
          obtain ⟨b, of, rfl, hce⟩ := (HR.out.below HB2.out).elem Rw.enc_len (by omega) (xU hkR);obtain ⟨⟨tn, id⟩, hseq⟩ : ∃ m, rw' R k2 = m := ⟨_, rfl⟩;rw [hseq] at hce;have d0 := hce 0 _ rfl;have d1 := hce 1 _ rfl;rw [Nat.add_zero] at d0;simp only at d0 d1;have HSK := hW_ hseq;clear hce hseq
          by_cases h0 : id < 0
          · have hg : decide (id < 0) = true := by simpa using h0
            have HF := hW_ (aCg (S := S) hkR (by rw [HSK.out]; simp only; omega));go_wp2_with (fail);refine bodyPost_ret (v := .tuple #[kH.val, .bool false]) ?_ rfl ⟨.inr ⟨HF.out, rfl⟩, ?_⟩
            · simp [results, Tryz.results105, go_sem, c0, c1, c2, kH]
            · exact (((HB0.out.trans (HB2.out.mono HB0.out.size)).setCell (Nat.le_refl _) _).setCell (Nat.le_refl _) _).setCell (Nat.le_refl _) _
          have hg0 : decide (id < 0) = false := by simpa using h0
          by_cases h1 : 4096 <= id
          · have hg : decide (4096 <= id) = true := by simpa using h1
            have HF := hW_ (aCg (S := S) hkR (by rw [HSK.out]; simp only; omega));go_wp2_with (fail);refine bodyPost_ret (v := .tuple #[kH.val, .bool false]) ?_ rfl ⟨.inr ⟨HF.out, rfl⟩, ?_⟩
            · simp [results, Tryz.results105, go_sem, c0, c1, c2, kH]
            · exact (((HB0.out.trans (HB2.out.mono HB0.out.size)).setCell (Nat.le_refl _) _).setCell (Nat.le_refl _) _).setCell (Nat.le_refl _) _
          have hg1 : decide (4096 <= id) = false := by simpa using h1
          have hw1 : IntKind.i64.wrap (id + 1) = id + 1 := by rw [IntKind.wrap_i64]; omega
          have HO3 : Hid (OkR R (k2 + 1)) := hW_ (fun j hj => by
            by_cases e : j = k2
            · subst e; rw [HSK.out]; simp only; omega
            · exact HO2.out j (by omega))
          have HTn : Hid (kT R S (k2 + 1) = max (t2 : Int) (id + 1)) := hW_ (by rw [lU hkR, HT2.out, HSK.out]);go_wp2_with (fail);go_roundw
          case rel => exact ⟨k2 + 1, (max (t2 : Int) (id + 1)).toNat, by omega, by go_num, by rw [Int.toNat_of_nonneg (by omega)], by omega, hW_ (by rw [HTn.out, Int.toNat_of_nonneg (by omega)]), HO3, HB2.out⟩
          case measure => simp [intOf]; omega
        · have HRA : Hid (OkR R R.length) := hW_ (by rw [hlenR.out, show rn = k2 by omega]; exact HO2.out);have HTB : Hid ((t2 : Int) = top R S) := hW_ (by rw [<- pX, hlenR.out, show rn = k2 by omega]; exact HT2.out.symm);have HLT : Hid (∀ j, j < R.length -> (rw' R j).rank < (t2 : Int)) := hW_ (fun j hj => by rw [HTB.out, <- pX]; exact topR_lt (Nat.le_refl _) hj);have mk9 := fun w' => aDj (P := Tryz.prog) 22 9 i9 _ Tryz.underlying22 hi9 hz9 hs9 t2 (by rw [hb9]; omega) (by omega) w'
          obtain ⟨wo2, rfl⟩ : ∃ wo2 : World, wo2 = wr := ⟨_, rfl⟩;obtain ⟨wm, hwm⟩ : ∃ wm, wo2.alloc (.cells (madeCells #[Value.string ByteArray.empty] t2) 9) = wm := ⟨_, rfl⟩;have hom : D3 wm wo2.heap.size (.slice (some ⟨wo2.heap.size, 0, none⟩) t2 t2) (List.replicate t2 ByteArray.empty) := hwm ▸ aDq wo2 t2 (by unfold maxLen; omega);have HBM : Hid (Below w0.heap.size w0 wm) := hW_ (by rw [<- hwm]; exact HB2.out.alloc HB2.out.size _);have HOM := hW_ (D3.mono hom HB2.out.size);have HWM := hW_ hwm;obtain ⟨g1, hg1⟩ : ∃ g1, wo2.heap.size = g1 := ⟨_, rfl⟩;rw [hg1] at HOM;have HG1 := hW_ hg1;clear hom hwm c0 c1 c2 f0 hg1;go_wp2_with (fail);rw [HWM.out, HG1.out];go_loopw [78] (fun i wr => ∃ (k : Nat) (L : List ByteArray) (A : List Int), k <= rn /\ i = .int .i64 k /\ D3 wr w0.heap.size (.slice (some ⟨g1, 0, none⟩) t2 t2) L /\ Hid (I6 R k t2 L A) /\ Hid (ApR R k) /\ Below w0.heap.size w0 wr) (fun i _ => rn - (intOf i).toNat)
          case atStart => exact ⟨0, _, _, Nat.zero_le _, rfl, HOM.out, hW_ (I6.zero R t2), hW_ (fun i j _ h => by omega), HBM.out⟩
          case round =>
            obtain ⟨k3, L, A, hk3, rfl, ho3, HL, HAP, hb3⟩ := hrel;have HO3' := hW_ ho3;have HB3 := hW_ hb3;obtain ⟨c0, c1, c2⟩ := A4 ((hb3.block w.heap.size hs0).trans HX0.out);have f0 := cU ((hb3.block w.heap.size hs0).trans HX0.out);clear ho3 hb3
            by_cases hlt3 : k3 < rn
            · have hkR : k3 < R.length := by have := hlenR.out; omega
              obtain ⟨b, of, rfl, hce⟩ := (HR.out.below HB3.out).elem Rw.enc_len (by omega) (xU hkR);have hrk := HRA.out k3 hkR;have hrt := HLT.out k3 hkR;obtain ⟨⟨tn, id⟩, hseq⟩ : ∃ m, rw' R k3 = m := ⟨_, rfl⟩;rw [hseq] at hce hrk hrt;have d0 := hce 0 _ rfl;have d1 := hce 1 _ rfl;rw [Nat.add_zero] at d0;simp only at d0 d1 hrk hrt;obtain ⟨r, rfl⟩ := Int.eq_ofNat_of_zero_le hrk.1;have hrn : r < t2 := by omega
              have HSK := hW_ hseq;clear hce hseq hrk hrt;obtain ⟨wi, rfl⟩ : ∃ wi : World, wi = wr := ⟨_, rfl⟩;go_wp2_with (fail);go_loopw [11] (fun i wr => ∃ q nn : Nat, q <= k3 /\ i = .int .i64 q /\ Hid (∀ j, j < q -> (rw' R j).rank ≠ (r : Int)) /\ wr = wi.drewN nn) (fun i _ => k3 - (intOf i).toNat)
              case atStart => exact ⟨0, 0, Nat.zero_le _, rfl, hW_ (fun j h => by omega), rfl⟩
              case round =>
                obtain ⟨q, nn, hq, rfl, HNO, rfl⟩ := hrel
                by_cases hltq : q < k3
                · obtain ⟨b', of', hao, hce⟩ := (HR.out.below HB3.out).elem Rw.enc_len (by omega) (xU (R := R) (i := q) (by omega));simp only [Option.some.injEq, Addr.mk.injEq, and_true] at hao;obtain ⟨rfl, rfl⟩ := hao;obtain ⟨⟨tq, iq⟩, hseq⟩ : ∃ m, rw' R q = m := ⟨_, rfl⟩;rw [hseq] at hce;have p1 := hce 1 _ rfl;simp only at p1;have HSQ := hW_ hseq;have gq : (q : Int) < (rn : Int) := by omega
                  have gk : (k3 : Int) < (rn : Int) := by omega
                  clear hce hseq
                  by_cases he : iq = (r : Int)
                  · have hbe : (iq == (r : Int)) = true := by simpa using he
                    have HF := hW_ (notOk_a (S := S) hltq hkR (by rw [HSQ.out, HSK.out]; exact he));clear he;go_wp2_with (fail);go_quiet (fail);go_wp2_with (fail);refine bodyPost_ret (v := .tuple #[kH.val, .bool false]) ?_ rfl ⟨.inr ⟨HF.out, rfl⟩, ?_⟩
                    · simp [results, Tryz.results105, go_sem, c0, c1, c2, kH]
                    · exact (((HB0.out.trans ((bA HB3.out _).mono HB0.out.size)).setCell (Nat.le_refl _) _).setCell (Nat.le_refl _) _).setCell (Nat.le_refl _) _
                  · have hbe : (iq == (r : Int)) = false := by simpa using he
                    have HNO2 : Hid (∀ j, j < q + 1 -> (rw' R j).rank ≠ (r : Int)) := hW_ (fun j hj => by
                      by_cases e : j = q
                      · subst e; rw [HSQ.out]; exact he
                      · exact HNO.out j (by omega))
                    clear he;go_wp2_with (fail);go_quiet (fail);go_wp2_with (fail);go_roundw
                    case rel => exact ⟨q + 1, _, by omega, by go_num, HNO2, rfl⟩
                    case measure => simp [intOf]; omega
                · obtain rfl : q = k3 := by omega
                  have HX := hW_ (HL.out.free hrn HNO.out);have HLn := hW_ (HL.out.next hkR (r := r) (by rw [HSK.out]) hrn HX.out);have HAn := hW_ (HL.out.apart (r := r) (by rw [HSK.out]) hrn HX.out HAP.out);rw [HSK.out] at HLn;obtain ⟨q1, q2, q3, q4⟩ := HO3'.out.at_ HL.out.len hrn;have gk : (q : Int) < (rn : Int) := by omega
                  have gr : (r : Int) < (t2 : Int) := by omega
                  have HOD : Hid (D3 (wi.drewN nn) w0.heap.size (.slice (some ⟨g1, 0, none⟩) t2 t2) L) := hW_ (D3.below HO3'.out (bA (Below.refl _ _) nn));obtain ⟨wd, hwd⟩ : ∃ wd, wi.drewN nn = wd := ⟨_, rfl⟩;have e0 : wd.cell? ⟨b, of + q * 2, none⟩ = some (.string tn) := by rw [<- hwd]; exact d0
                  have e1 : wd.cell? ⟨b, of + q * 2 + 1, none⟩ = some (.int .i64 (r : Int)) := by rw [<- hwd]; exact d1
                  have s1 : wd.cell? ⟨g1, r, none⟩ = some (.string (tk L r)) := by rw [<- hwd]; exact q1
                  have s2 : wd.frozen? ⟨g1, r, none⟩ = false := by rw [<- hwd]; exact q2
                  have HBD : Hid (Below w0.heap.size w0 wd) := hW_ (by rw [<- hwd]; exact bA HB3.out _);rw [hwd] at HOD |-;clear hwd d0 d1 q1 q2 c0 c1 c2 f0;go_wp2_with (fail);go_region
                  all_goals (go_wp2_with (fail)
                             go_roundw
                             case rel => exact ⟨q + 1, _, _, by omega, by go_num, D3.below (D3.set HOD.out HL.out.len r tn) (Below.refl _ _).drew, HLn, HAn, (HBD.out.setCell q3 _).drew⟩
                             case measure => simp [intOf]; omega)
            · have HFA := hW_ (HL.out.all hlenR.out hk3 hlt3 HTB.out);have HOKR : Hid (bG R S) := hW_ (bG.of HSA.out HRA.out (by rw [hlenR.out, show rn = k3 by omega]; exact HAP.out));rw [HFA.out] at HO3';clear c0 c1 c2 f0;obtain ⟨wl, rfl⟩ : ∃ wl : World, wl = wr := ⟨_, rfl⟩;have HOut : Hid (iA Sp.enc 2 117 (wl.alloc (.cells #[] 117)) w0.heap.size (.slice (some ⟨wl.heap.size, 0, none⟩) 0 0) []) := hW_ ((iA.made0 wl).mono HB3.out.size);go_wp2_with (fail);go_loopw [12, 114] (fun v i wr => ∃ (k : Nat) (S' : List Sp), k <= sn /\ i = .int .i64 k /\ iA Sp.enc 2 117 wr w0.heap.size v S' /\ Hid (S'.Perm (S.take k)) /\ Hid (Q7 S') /\ Below wl.heap.size wl wr) (fun _ i _ => sn - (intOf i).toNat)
              case atStart => exact ⟨0, [], Nat.zero_le _, rfl, HOut.out, hW_ (by simp), hW_ List.Pairwise.nil, aA _ _⟩
              case round =>
                obtain ⟨k5, S', hk5, rfl, ho5, HP, HSD, hb5⟩ := hrel;have HB5 := hW_ hb5;have HSL' : Hid (S'.length = k5) := hW_ (by rw [HP.out.length_eq, List.length_take, hlenS.out]; omega);obtain ⟨vo, vc, rfl, hvs⟩ := ho5.sl;rw [HSL'.out] at hvs;have HVS := hW_ hvs;have HO5 := hW_ ho5;rw [HSL'.out] at HO5 |-;clear hb5 hvs ho5
                by_cases hlt5 : k5 < sn
                · have hkS : k5 < S.length := by have := hlenS.out; omega
                  obtain ⟨b, of, rfl, hce⟩ := ((HSS.out.below HB3.out).below HB5.out).elem Sp.enc_len (by omega) (mD hkS);obtain ⟨⟨nm, id⟩, hseq⟩ : ∃ m, sp S k5 = m := ⟨_, rfl⟩;rw [hseq] at hce;have d0 := hce 0 _ rfl;have d1 := hce 1 _ rfl;rw [Nat.add_zero] at d0;simp only at d0 d1;have HSK := hW_ hseq;have gk : (k5 : Int) < (sn : Int) := by omega
                  clear hce hseq;obtain ⟨wi, rfl⟩ : ∃ wi : World, wi = wr := ⟨_, rfl⟩;go_wp2_with (fail);go_loopw [14] (fun i wr => ∃ q nn : Nat, q <= k5 /\ i = .int .i64 q /\ Hid (∀ j, j < q -> vA nm (sp S' j).name = false) /\ wr = wi.drewN nn) (fun i _ => k5 - (intOf i).toNat)
                  case atStart => exact ⟨0, 0, Nat.zero_le _, rfl, hW_ (fun j h => by omega), rfl⟩
                  case round =>
                    obtain ⟨q, nn, hq, rfl, HQ, rfl⟩ := hrel
                    by_cases hltq : q < k5
                    · obtain ⟨b', of', rfl, hce⟩ := HVS.out.elem Sp.enc_len (by omega) (mD (S := S') (i := q) (by rw [HSL'.out]; exact hltq));obtain ⟨⟨pn, pid⟩, hseq⟩ : ∃ m, sp S' q = m := ⟨_, rfl⟩;rw [hseq] at hce;have p0 := hce 0 _ rfl;rw [Nat.add_zero] at p0;simp only at p0;have HSQ := hW_ hseq;have gq : decide ((q : Int) < (k5 : Int)) = true := by simp; omega
                      have gq2 : decide (q < k5) = true := by simpa using hltq
                      clear hce hseq
                      cases hbl : Op.bytesLess pn.toList nm.toList with
                      | true =>
                        have HQ2 : Hid (∀ j, j < q + 1 -> vA nm (sp S' j).name = false) := hW_ (fun j hj => by
                          by_cases e : j = q
                          · subst e; rw [HSQ.out]; exact mM _ _ hbl
                          · exact HQ.out j (by omega))
                        go_wp2_with (fail);go_quiet (fail);go_wp2_with (fail);go_roundw
                        case rel => exact ⟨q + 1, _, by omega, by go_num, HQ2, rfl⟩
                        case measure => simp [intOf]; omega
                      | false =>
                        by_cases heq : pn = nm
                        · have hb2 := gH heq;have HQ2 : Hid (∀ j, j < q + 1 -> vA nm (sp S' j).name = false) := hW_ (fun j hj => by
                            by_cases e : j = q
                            · subst e; rw [HSQ.out]; simp only; rw [heq]; exact gG _
                            · exact HQ.out j (by omega))
                          clear heq;go_wp2_with (fail);go_quiet (fail);go_wp2_with (fail);go_roundw
                          case rel => exact ⟨q + 1, _, by omega, by go_num, HQ2, rfl⟩
                          case measure => simp [intOf]; omega
                        have hb2 := oJ heq;have HST : Hid (q = S'.length \/ vA nm (sp S' q).name = true) := hW_ (.inr (by rw [HSQ.out]; exact aDg hbl heq));clear heq;go_wp2_with (fail);go_quiet (fail);clear hbl gq gq2 p0 hb2;obtain ⟨wq, hwq⟩ : ∃ wq, (wi.drewN nn).drewN nq = wq := ⟨_, rfl⟩;have HSO := hW_ (bQ (S := S') (s := ⟨nm, id⟩) (k := q) HQ.out (by have := HSL'.out; omega) HST.out HSD.out);have HLTk : Hid ((S'.take q).length = q) := hW_ (by rw [List.length_take, HSL'.out]; omega);have HBQ : Hid (Below wl.heap.size wl wq) := hW_ (by rw [<- hwq]; exact bA (bA HB5.out _) _);have hqi : Below wi.heap.size wi wq := by rw [<- hwq]; exact bA (bA (Below.refl _ _) _) _
                        have HMa : Hid (SlF 2 (wq.alloc (.cells #[] 117)) (some ⟨b', of', none⟩) k5 vc (flat Sp.enc S')) := hW_ ((HVS.out.below hqi).alloc _);have HMq : Hid (SlF 2 wq (some ⟨b', of', none⟩) k5 vc (flat Sp.enc S')) := hW_ (HVS.out.below hqi);have HOa : Hid (iA Sp.enc 2 117 (wq.alloc (.cells #[] 117)) wq.heap.size (.slice (some ⟨wq.heap.size, 0, none⟩) 0 0) []) := hW_ (iA.made0 wq);have e0 := eA hqi _ _ d0;have e1 := eA hqi _ _ d1;rw [hwq];clear hwq hqi d0 d1;go_wp2_with (first
                          | (refine cC (enc := Sp.enc) rfl _ _ _ rfl i1 Tryz.underlying24 ki Sp.enc_len rfl HMa.out rfl (k := q) rfl (by omega) ?_; intro hs1)
                          | (at_builtin; go_loud (refine kA rfl _ _ 24 rfl i1 z1 24 Tryz.underlying24 ki kz0 kz1 kz2 kz3 Sp.enc_len (by omega) Sp.enc_one rfl HOa.out rfl hs1 (by unfold maxLen; simp only [List.length_nil]; omega) (by simp only [List.length_nil]; omega) (by simp) ?_)))
                        intro v1 wb ho1 hg1' hb1;have hb1' := (aA wq (.cells #[] 117)).trans hb1;have HB1' := hW_ hb1';have f0 := eA hb1' _ _ e0;have f1 := eA hb1' _ _ e1;have HOb : Hid (iA Sp.enc 2 117 (wb.alloc (.cells #[.string nm, .int .i64 id] 117)) wq.heap.size v1 (S'.take q)) := hW_ (ho1.alloc _);have HSb : Hid (SlF 2 (wb.alloc (.cells #[.string nm, .int .i64 id] 117)) (some ⟨wb.heap.size, 0, none⟩) 1 1 (flat Sp.enc [⟨nm, id⟩])) := hW_ (SlF.one Sp.enc_len wb ⟨nm, id⟩ 117 (cs := #[.string nm, .int .i64 id]) rfl);have HSZ' : Hid (wq.heap.size <= wb.heap.size) := hW_ hb1'.size;clear ho1 hg1' hb1 hb1' e0 e1;go_wp2_with (at_builtin; go_loud (refine kA rfl _ _ 24 rfl i1 z1 24 Tryz.underlying24 ki kz0 kz1 kz2 kz3 Sp.enc_len (by omega) Sp.enc_one rfl HOb.out rfl HSb.out (by have := HLTk.out; unfold maxLen; omega) (by have := HLTk.out; omega) (by have := HSZ'.out; simp; omega) ?_));intro v2 wc ho2 hg2 hb2;have hb2' := (HB1'.out.alloc HB1'.out.size _).trans hb2;have HB2' := hW_ hb2';have HMc : Hid (SlF 2 wc (some ⟨b', of', none⟩) k5 vc (flat Sp.enc S')) := hW_ (HMq.out.below hb2');have HOc := hW_ ho2;have HSZ2 : Hid (wq.heap.size <= wc.heap.size) := hW_ hb2'.size;clear ho2 hg2 hb2 hb2' f0 f1;go_wp2_with (first
                          | (refine iC (enc := Sp.enc) rfl _ _ _ rfl i1 Tryz.underlying24 ki kz1 Sp.enc_len rfl HMc.out rfl (k := q) rfl (by omega) ?_; intro ao' hs3 hao3)
                          | (at_builtin; go_loud (refine kA rfl _ _ 24 rfl i1 z1 24 Tryz.underlying24 ki kz0 kz1 kz2 kz3 Sp.enc_len (by omega) Sp.enc_one rfl HOc.out rfl hs3 (by have := HLTk.out; unfold maxLen; rw [List.length_append]; simp only [List.length_singleton]; omega) (by have := HLTk.out; rw [List.length_append]; simp only [List.length_singleton]; omega) HSZ2.out ?_)))
                        intro v3 wd ho3 hg3 hb3;have HO9 := hW_ (ho3.mono (Nat.le_trans (Nat.le_trans HB3.out.size HBQ.out.size) (Nat.le_refl _)));have HB9 := hW_ (HBQ.out.trans ((HB2'.out.trans hb3).mono HBQ.out.size));have HP9 : Hid ((S'.take q ++ ⟨nm, id⟩ :: S'.drop q).Perm (S.take (k5 + 1))) := hW_ (by
                          rw [<- aBQ hkS, HSK.out];exact (N6 S' _ q).trans (HP.out.append_right _))
                        clear ho3 hg3 hb3;go_wp2_with (fail);go_roundw
                        case rel => exact ⟨k5 + 1, _, by omega, by go_num, HO9.out, HP9, HSO, HB9.out⟩
                        case measure => simp [intOf]; omega
                    · obtain rfl : q = k5 := by omega
                      have HST : Hid (q = S'.length \/ vA nm (sp S' q).name = true) := hW_ (.inl HSL'.out.symm);have gq : decide ((q : Int) < (q : Int)) = false := by simp
                      have gq2 : decide (q < q) = false := by simp
                      go_wp2_with (fail);go_quiet (fail);clear gq gq2;obtain ⟨wq, hwq⟩ : ∃ wq, (wi.drewN nn).drewN nq = wq := ⟨_, rfl⟩;have HSO := hW_ (bQ (S := S') (s := ⟨nm, id⟩) (k := q) HQ.out (by have := HSL'.out; omega) HST.out HSD.out);have HLTk : Hid ((S'.take q).length = q) := hW_ (by rw [List.length_take, HSL'.out]; omega);have HBQ : Hid (Below wl.heap.size wl wq) := hW_ (by rw [<- hwq]; exact bA (bA HB5.out _) _);have hqi : Below wi.heap.size wi wq := by rw [<- hwq]; exact bA (bA (Below.refl _ _) _) _
                      have HMa : Hid (SlF 2 (wq.alloc (.cells #[] 117)) vo q vc (flat Sp.enc S')) := hW_ ((HVS.out.below hqi).alloc _);have HMq : Hid (SlF 2 wq vo q vc (flat Sp.enc S')) := hW_ (HVS.out.below hqi);have HOa : Hid (iA Sp.enc 2 117 (wq.alloc (.cells #[] 117)) wq.heap.size (.slice (some ⟨wq.heap.size, 0, none⟩) 0 0) []) := hW_ (iA.made0 wq);have e0 := eA hqi _ _ d0;have e1 := eA hqi _ _ d1;rw [hwq];clear hwq hqi d0 d1;go_wp2_with (first
                        | (refine cC (enc := Sp.enc) rfl _ _ _ rfl i1 Tryz.underlying24 ki Sp.enc_len rfl HMa.out rfl (k := q) rfl (by omega) ?_; intro hs1)
                        | (at_builtin; go_loud (refine kA rfl _ _ 24 rfl i1 z1 24 Tryz.underlying24 ki kz0 kz1 kz2 kz3 Sp.enc_len (by omega) Sp.enc_one rfl HOa.out rfl hs1 (by unfold maxLen; simp only [List.length_nil]; omega) (by simp only [List.length_nil]; omega) (by simp) ?_)))
                      intro v1 wb ho1 hg1' hb1;have hb1' := (aA wq (.cells #[] 117)).trans hb1;have HB1' := hW_ hb1';have f0 := eA hb1' _ _ e0;have f1 := eA hb1' _ _ e1;have HOb : Hid (iA Sp.enc 2 117 (wb.alloc (.cells #[.string nm, .int .i64 id] 117)) wq.heap.size v1 (S'.take q)) := hW_ (ho1.alloc _);have HSb : Hid (SlF 2 (wb.alloc (.cells #[.string nm, .int .i64 id] 117)) (some ⟨wb.heap.size, 0, none⟩) 1 1 (flat Sp.enc [⟨nm, id⟩])) := hW_ (SlF.one Sp.enc_len wb ⟨nm, id⟩ 117 (cs := #[.string nm, .int .i64 id]) rfl);have HSZ' : Hid (wq.heap.size <= wb.heap.size) := hW_ hb1'.size;clear ho1 hg1' hb1 hb1' e0 e1;go_wp2_with (at_builtin; go_loud (refine kA rfl _ _ 24 rfl i1 z1 24 Tryz.underlying24 ki kz0 kz1 kz2 kz3 Sp.enc_len (by omega) Sp.enc_one rfl HOb.out rfl HSb.out (by have := HLTk.out; unfold maxLen; omega) (by have := HLTk.out; omega) (by have := HSZ'.out; simp; omega) ?_));intro v2 wc ho2 hg2 hb2;have hb2' := (HB1'.out.alloc HB1'.out.size _).trans hb2;have HB2' := hW_ hb2';have HMc : Hid (SlF 2 wc vo q vc (flat Sp.enc S')) := hW_ (HMq.out.below hb2');have HOc := hW_ ho2;have HSZ2 : Hid (wq.heap.size <= wc.heap.size) := hW_ hb2'.size;clear ho2 hg2 hb2 hb2' f0 f1;go_wp2_with (first
                        | (refine iC (enc := Sp.enc) rfl _ _ _ rfl i1 Tryz.underlying24 ki kz1 Sp.enc_len rfl HMc.out rfl (k := q) rfl (by omega) ?_; intro ao' hs3 hao3)
                        | (at_builtin; go_loud (refine kA rfl _ _ 24 rfl i1 z1 24 Tryz.underlying24 ki kz0 kz1 kz2 kz3 Sp.enc_len (by omega) Sp.enc_one rfl HOc.out rfl hs3 (by have := HLTk.out; unfold maxLen; rw [List.length_append]; simp only [List.length_singleton]; omega) (by have := HLTk.out; rw [List.length_append]; simp only [List.length_singleton]; omega) HSZ2.out ?_)))
                      intro v3 wd ho3 hg3 hb3;have HO9 := hW_ (ho3.mono (Nat.le_trans (Nat.le_trans HB3.out.size HBQ.out.size) (Nat.le_refl _)));have HB9 := hW_ (HBQ.out.trans ((HB2'.out.trans hb3).mono HBQ.out.size));have HP9 : Hid ((S'.take q ++ ⟨nm, id⟩ :: S'.drop q).Perm (S.take (q + 1))) := hW_ (by
                        rw [<- aBQ hkS, HSK.out];exact (N6 S' _ q).trans (HP.out.append_right _))
                      clear ho3 hg3 hb3;go_wp2_with (fail);go_roundw
                      case rel => exact ⟨q + 1, _, by omega, by go_num, HO9.out, HP9, HSO, HB9.out⟩
                      case measure => simp [intOf]; omega
                · obtain rfl : k5 = sn := by omega
                  have HPS : Hid (S'.Perm S) := hW_ (by have h := HP.out; rw [List.take_of_length_le (by rw [hlenS.out]; exact Nat.le_refl _)] at h; exact h);have HOT := hW_ (D3.below HO3'.out HB5.out);obtain ⟨ao9, cap9, e9, hst⟩ := ownT_slc HOT.out;simp only [Value.slice.injEq] at e9;obtain ⟨rfl, htl, rfl⟩ := e9;rw [<- htl] at hst;have hmt := zI wr hst HSZ.out;have HBR := hW_ (HB3.out.trans (HB5.out.mono HB3.out.size));clear hst htl;go_wp2_with (fail);refine hmt.mono ?_
                  rintro e w9 ⟨⟨bt, rfl, hbt⟩, hb9⟩;have HB9 := hW_ (HBR.out.trans (hb9.mono HBR.out.size));have HOT9 := hW_ (D3.below HOT.out hb9);have HOS9 := hW_ (iA.below HO5.out hb9);have HBT := hW_ hbt;have hx9 := (HB9.out.block w.heap.size hs0).trans HX0.out;obtain ⟨c0, c1, c2⟩ := A4 hx9;have f0 := cU hx9;clear hmt hb9 hbt hx9;go_wp2_with (fail);refine bodyPost_ret (v := .tuple #[.agg #[.slice (some ⟨g1, 0, none⟩) t2 t2, .slice none 0 0, .slice vo k5 vc], .bool bt]) ?_ rfl ⟨.inl ⟨HOKR.out, g1, t2, vo, k5, vc, S', bt, rfl, ?_, ?_, HPS.out, HSD.out, HBT.out⟩, ?_⟩
                  · simp [results, Tryz.results105, go_sem, c0, c1, c2]
                  · exact D3.mono (jA HOT9.out fun q h => eS _ _ _ _ _ (by have := (World.ownsRow.lt HOT9.out q h).1; omega)) HB0.out.size
                  · exact iA.mono (jA HOS9.out fun q h => eS _ _ _ _ _ (by have := (World.ownsRow.lt HOS9.out q h).1; omega)) HB0.out.size
                  · exact (((HB0.out.trans (HB9.out.mono HB0.out.size)).setCell (Nat.le_refl _) _).setCell (Nat.le_refl _) _).setCell (Nat.le_refl _) _
end Go.Proofs.YtahiballegpbgaaGreatDoor
