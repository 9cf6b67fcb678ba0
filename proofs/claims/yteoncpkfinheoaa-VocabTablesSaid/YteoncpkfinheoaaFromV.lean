/- FromRows as a value: the vocabulary, or none, and the error's number. -/
import Derived.Test.YteoncpkfinheoaaFrom
import Derived.Test.YteoncpkfinheoaaTurnP
namespace Go.Proofs.Yteoncpkfinheoaa
open Go.RowKit
set_option linter.unusedVariables false

def GoodVoc (R : List Rw) (S : List Sp) : Prop := OkRows R S ∧ May (vocOf R S)
def noVc : Vc := ⟨[], [], []⟩
open Classical in
noncomputable def fV (R : List Rw) (S : List Sp) : Vc := if GoodVoc R S then vocOf R S else noVc
open Classical in
noncomputable def fC (R : List Rw) (S : List Sp) : Int := if GoodVoc R S then 0 else 2
theorem fV_yes {R : List Rw} {S : List Sp} (h : GoodVoc R S) : fV R S = vocOf R S := by unfold fV; rw [if_pos h]
theorem fV_no {R : List Rw} {S : List Sp} (h : ¬ GoodVoc R S) : fV R S = noVc := by unfold fV; rw [if_neg h]
theorem fC_yes {R : List Rw} {S : List Sp} (h : GoodVoc R S) : fC R S = 0 := by unfold fC; rw [if_pos h]
theorem fC_no {R : List Rw} {S : List Sp} (h : ¬ GoodVoc R S) : fC R S = 2 := by unfold fC; rw [if_neg h]
theorem noVoc (w : World) : VocR w noVd noVc := ⟨Sl.none, SlF.nothing _, SlF.nothing _⟩

def FromVal (R : List Rw) (S : List Sp) (w : World) (e : Ending) (w' : World) : Prop :=
  (∃ d : Vd, e = .returned (.tuple #[d.val, .int .i64 (fC R S)]) ∧ VocR w' d (fV R S)) ∧ Below w.heap.size w w'
theorem fromRows_val {R : List Rw} {S : List Sp} {ro so : Option Addr} {rn rc sn sc : Nat} (w : World) (hR : SlF 2 w ro rn rc (flat Rw.enc R)) (hS : SlF 2 w so sn sc (flat Sp.enc S))
    (hrs : ∀ r ∈ R, r.token.size ≤ maxLen) (hss : Sized S) (hsn : sn ≤ 20) :
    Calls Try.prog 7 #[.slice ro rn rc, .slice so sn sc] w (FromVal R S w) :=
  (fromRows_calls w hR hS hrs hss hsn).mono fun e w' ⟨h, hb⟩ => ⟨by
    rcases h with ⟨hg, d, rfl, hv⟩ | ⟨hn, rfl⟩
    · exact ⟨d, by rw [fC_yes hg], by rw [fV_yes hg]; exact hv⟩
    · exact ⟨noVd, by rw [fC_no hn], by rw [fV_no hn]; exact noVoc w'⟩, hb⟩

theorem good_perm {R R' : List Rw} {S S' : List Sp} (hR : R.Perm R') (hS : S.Perm S') : GoodVoc R S ↔ GoodVoc R' S' :=
  ⟨fun h => (voc_perm hR hS h).1, fun h => (voc_perm hR.symm hS.symm h).1⟩
theorem fV_perm {R R' : List Rw} {S S' : List Sp} (hR : R.Perm R') (hS : S.Perm S') : fV R' S' = fV R S := by
  by_cases h : GoodVoc R S
  · rw [fV_yes h, fV_yes ((good_perm hR hS).1 h), (voc_perm hR hS h).2]
  · rw [fV_no h, fV_no (fun g => h ((good_perm hR hS).2 g))]
theorem fC_perm {R R' : List Rw} {S S' : List Sp} (hR : R.Perm R') (hS : S.Perm S') : fC R' S' = fC R S := by
  by_cases h : GoodVoc R S
  · rw [fC_yes h, fC_yes ((good_perm hR hS).1 h)]
  · rw [fC_no h, fC_no (fun g => h ((good_perm hR hS).2 g))]
theorem rev_sized {S : List Sp} (h : Sized S) : Sized S.reverse := fun s hs => h s (List.mem_reverse.1 hs)

end Go.Proofs.Yteoncpkfinheoaa
