/- Pairs of numbers as a map's keys; 'm[k]++' where the translation makes an entry first. -/
import Derived.Test.YteoncpkfinheoaaMapK
import Derived.DeepKeys4
import Derived.Maps.Own
namespace Go.Proofs.Yteoncpkfinheoaa
open Go.RowKit Go.Maps Go.ChangeMaps Go.WideMaps Go.WideElems
set_option linter.unusedVariables false

theorem laidAll : laidOutB Try.prog = true := by kernel_rfl
theorem rowTwo : (101 : TypeId) < Try.prog.types.size := of_decide_eq_true (by kernel_rfl)
theorem wideTwo : (match Try.prog.underlying 101 with | some (.array _ _) | some (.struct _) => true | _ => false) = true := by kernel_rfl
set_option maxRecDepth 100000 in
theorem keyedTwo : Keyed Try.prog 101 := Keyed.of_law (deep_law_laid laidAll (m := 2) (by omega) rowTwo (by kernel_rfl) wideTwo)
theorem keyTypeTwo : Try.prog.keyType 101 = true := by kernel_rfl
theorem cellsTwo : Try.prog.cellsOf 101 = 2 := by kernel_rfl

theorem keyOf_two {a b : Int} (ha : (Lit.int .i64 a).wf = true) (hb : (Lit.int .i64 b).wf = true) : (keyOf Try.prog 101 (.agg #[.int .i64 a, .int .i64 b])).isSome = true := by
  have hf : (Value.agg #[.int .i64 a, .int .i64 b]).formed Try.prog 101 = true := by
    simp [Value.formed, Try.underlying101, cellsTwo]
  have hk : ∀ n, (Try.prog.keyLits (n + 2) 101 [.int .i64 a, .int .i64 b]).isSome = true := by
    intro n
    have h3 : Try.prog.cellsOf 3 = 1 := by kernel_rfl
    unfold Program.keyLits
    simp [Try.underlying101, cellsTwo, h3, Program.keyLits, Try.underlying3, ha, hb]
  unfold keyOf
  rw [Try.underlying101]
  simp only [keyTypeTwo, hf, Bool.and_self, if_true]
  obtain ⟨n, hn⟩ : ∃ n, Try.prog.types.size + 1 = n + 2 := ⟨Try.prog.types.size - 1, by
    have h : (0 : Nat) < Try.prog.types.size := Nat.lt_of_le_of_lt (Nat.zero_le _) rowTwo
    omega⟩
  have h2 := hk n
  rw [← hn] at h2
  show (Option.map _ (Try.prog.keyLits (Try.prog.types.size + 1) _ [.int .i64 a, .int .i64 b])).isSome = true
  rw [Option.isSome_map]
  exact h2

noncomputable def twoView : KeyView Try.prog 101 (Int × Int) :=
  KeyView.of (fun p => .agg #[.int .i64 p.1, .int .i64 p.2]) (fun p => (Lit.int .i64 p.1).wf = true ∧ (Lit.int .i64 p.2).wf = true) (fun p h => keyOf_two h.1 h.2)
    (fun x y h => by simp at h; exact Prod.ext h.1 h.2) keyedTwo

end Go.Proofs.Yteoncpkfinheoaa
