/- CacheNil: a nil cache has nothing. No condition. (Printed by gNil.py.) -/
import Derived.Test.YtjfpbhdcbjaahaaCFixed
import Derived.Test.YtjfpbhdcbjaahaaOpen
namespace Go.Proofs.Ytjfpbhdcbjaahaa
open Go.RowKit
set_option linter.unusedVariables false

theorem own : ownKnob Try.prog.godebug = none := by kernel_rfl
theorem laidOut : laidOutB Try.prog = true := by kernel_rfl

set_option maxHeartbeats 4000000 in
theorem nil_walk {A : List Int} {ao : Option Addr} {n c : Nat} (s : ByteArray) (w : World) (hA : SlI w ao n c A) : Frame.Law Try.prog 6 #[.string s, .slice ao n c] w := by
  unfold Frame.Law
  go_enter Try.func6, Try.ntmps6
  go_wp2_with (fail)
  refine (put_nil s ao n c w).mono ?_
  rintro en w1 ⟨rfl, hb1⟩
  go_wp2_with (fail)
  refine (get_nil s w1).mono ?_
  rintro en w2 ⟨rfl, hb2⟩
  have hb := hb1.trans (hb2.mono hb1.size)
  clear hb1 hb2
  go_wp2_with (fail)
  refine (counts_nil w2).mono ?_
  rintro en w3 ⟨rfl, hb3⟩
  have hb4 := hb.trans (hb3.mono hb.size)
  clear hb hb3
  go_wp2_with (fail)
  refine (fixed_calls w3).mono ?_
  rintro en w5 ⟨rfl, hb5⟩
  have hb6 := hb4.trans (hb5.mono hb4.size)
  clear hb4 hb5
  go_wp2_with (fail)
  refine (len_nil w5).mono ?_
  rintro en w7 ⟨rfl, hb7⟩
  have hb8 := hb6.trans (hb7.mono hb6.size)
  clear hb6 hb7
  go_wp2_with (fail)
  refine (room_nil w7).mono ?_
  rintro en w9 ⟨rfl, hb9⟩
  have hb10 := hb8.trans (hb9.mono hb8.size)
  clear hb8 hb9
  go_wp2_with (fail)
  refine (keys_nil w9).mono ?_
  rintro en w11 ⟨rfl, hb11⟩
  have hb12 := hb10.trans (hb11.mono hb10.size)
  go_wp2
  go_ret
  exact ⟨rfl, hb12⟩

theorem cacheNil_law (W : World) (base : Nat) {H : Type} {enc : TypeId × Value → H} (args : Array Value) (ds : List (DataW H)) (p : List MemPlace)
    (hval : ∀ (j : Nat) t v, Try.f6.params[j]? = some t → args[j]? = some v → Value.okWide Try.prog W .any base t v)
    (hA : DataW.TrodAll enc Try.prog W 0 (fun _ => true) true Try.f6.params.toList args.toList ds p) :
    Frame.Law Try.prog 6 args W := by
  rw [Try.params6] at hA hval
  obtain ⟨v0, v1, d0, d1, p0, p1, rfl, rfl, rfl, h0, h1⟩ := Go.ChangeShapes.trodAll_two hA
  obtain ⟨s0, rfl, _, _, hk0⟩ := ChangeMaps.open_string Try.underlying9 (hval 0 9 v0 rfl rfl) h0
  obtain ⟨ao1, n1, c1, A1, rfl, hs1, hw1⟩ := sli_open Try.underlying26 Try.underlying3 cellsInt (hval 1 26 v1 rfl rfl) h1
  exact nil_walk s0 W hs1

set_option maxRecDepth 100000 in
theorem cacheNil_lifted (os : Os) (started : os.Started) (H : Type) (enc : TypeId × Value → H) :
    ReturnsInHanded {} Try.checked os 6 .any (Rows.cacheNilSpec.pre6 enc Try.prog Try.f6 Rows.cacheNilRow.domain false) (Rows.cacheNilSpec.post enc Try.prog Try.f6 false true false false) :=
  Frame.law_lift (C := Try.checked) (fn := Try.f6) own started (by kernel_rfl) Try.func6 laidOut (by decide +kernel) rfl Try.underlying4 rfl
    (fun ds h => by match ds, h with | [d1, d2], _ => rfl)
    (ChangeSpec.witness6 (enc := enc) (C := Try.checked) false ⟨#[], #[.string ByteArray.empty, .slice none 0 0], []⟩ 8 (by kernel_rfl) (by kernel_rfl) (by kernel_rfl) (by kernel_rfl))
    (fun W base args ds p hval hA => cacheNil_law W base args ds p hval hA)

theorem cacheNil_holds : Rows.CacheNilSaid :=
  OpenClaim.holds_of_wide 6 Try.f6 rfl rfl rfl rfl rfl rfl rfl ⟨rfl, rfl, rfl, rfl, rfl⟩ rfl rfl rfl rfl rfl (by kernel_rfl) Try.func6 (by kernel_rfl)
    (of_decide_eq_true (by kernel_rfl)) (by unfold Func.isWrapper; rw [if_neg (of_decide_eq_false (by kernel_rfl))]; exact ⟨rfl, rfl⟩)
    (fun os started H enc _ => cacheNil_lifted os started H enc)

#print axioms cacheNil_holds
end Go.Proofs.Ytjfpbhdcbjaahaa
