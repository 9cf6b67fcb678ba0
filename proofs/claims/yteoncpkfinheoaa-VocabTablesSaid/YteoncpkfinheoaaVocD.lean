/- Walk: may tokens be, by the document? -/
import Derived.Test.YteoncpkfinheoaaVocC
namespace Go.Proofs.Yteoncpkfinheoaa
open Go.RowKit
set_option linter.unusedVariables false

def GoodTo (T : List ByteArray) (k : Nat) : Prop := ∀ j, j < k → (tk T j).size ≤ 64 ∧ ((tk T j).size ≠ 0 → ofT T (tk T j) = j)
theorem GoodTo.uniq {T : List ByteArray} (h : GoodTo T T.length) : Uniq T := fun i j h1 h2 e => by
  by_cases hz : (tk T i).size = 0
  · exact hz
  · have a := (h i (by omega)).2 hz
    have b := (h j h2).2 (by rw [← e]; exact hz)
    rw [← e, a] at b
    omega
theorem GoodTo.next {T : List ByteArray} {k : Nat} (h : GoodTo T k) (h1 : (tk T k).size ≤ 64) (h2 : (tk T k).size ≠ 0 → ofT T (tk T k) = k) : GoodTo T (k + 1) := fun j hj => by
  by_cases e : j = k
  · subst e; exact ⟨h1, h2⟩
  · exact h j (by omega)
theorem not_uniq {T : List ByteArray} {k : Nat} (hk : k < T.length) (hz : (tk T k).size ≠ 0) (h : ofT T (tk T k) ≠ k) : ¬ Uniq T := fun hu => h (hu.of hk hz)
theorem ofT_one {T : List ByteArray} {b : Nat} : ofT T (one b) < 0 ↔ one b ∉ T := by
  rcases ofT_cases T (one b) with ⟨h0, _⟩ | ⟨_, ⟨i, hi, h1, _, e⟩⟩ | ⟨_, h1, e⟩
  · rw [one_size] at h0; omega
  · rw [e]
    constructor
    · intro h; omega
    · intro h; exact absurd (h1 ▸ tk_mem hi) h
  · rw [e]
    constructor
    · intro _ h
      obtain ⟨j, hj, e2⟩ := mem_tk h
      exact h1 j hj e2
    · intro _; omega

set_option maxHeartbeats 1000000 in
set_option maxRecDepth 100000 in
theorem rmayTokens_calls {T : List ByteArray} {ao : Option Addr} {n c : Nat} (w : World) (hT : SlS w ao n c T) (hsz : ∀ s ∈ T, s.size ≤ maxLen) :
    Calls Try.prog 32 #[.slice ao n c] w (MayTokPost T w) := by
  have hm := Nat.le_trans (Sl.le hT) (Sl.max hT)
  unfold maxLen at hm
  have hlen := Lib.hid hT.count
  have HT := Lib.hid hT
  have HS := Lib.hid hsz
  clear hT hsz
  by_cases hl : (4096 : Int) < n
  · have HF := Lib.hid (notMayTok_long (T := T) (by have := hlen.out; omega))
    go_enter Try.func32, Try.ntmps32
    go_wp2_with (fail)
    go_ret
    exact ⟨⟨_, rfl, HF.out⟩, Below.refl _ _⟩
  · go_enter Try.func32, Try.ntmps32
    go_wp2_with (fail)
    go_loop [3, 10] (fun _ i => ∃ k : Nat, k ≤ n ∧ i = .int .i64 k ∧ Hid (GoodTo T k)) (fun _ i => n - (intOf i).toNat)
    case atStart => exact ⟨0, Nat.zero_le _, rfl, Lib.hid (fun j h => by omega)⟩
    case round =>
      obtain ⟨k, hk, rfl, hg⟩ := hrel
      by_cases hlt : k < n
      · have hkT : k < T.length := by have := hlen.out; omega
        obtain ⟨b, o, rfl, hc⟩ := SlS.cell HT.out (tk_eq (T := T) (i := k) hkT)
        have hks := HS.out _ (tk_mem hkT)
        unfold maxLen at hks
        by_cases h64 : (64 : Int) < (tk T k).size
        · have HF := Lib.hid (notMayTok_tok ⟨_, tk_mem hkT, by omega⟩)
          go_wp2_with (fail)
          go_ret
          exact ⟨⟨_, rfl, HF.out⟩, Below.refl _ _⟩
        · have h64' : (tk T k).size ≤ 64 := by omega
          by_cases hz : (tk T k).size = 0
          · obtain ⟨e1, e2, e3⟩ := strE_yes hz
            have hg2 := Lib.hid (hg.out.next h64' (fun h => absurd hz h))
            clear hz
            go_wp2_with (fail)
            go_round
            case rel => exact ⟨k + 1, by omega, by go_num, hg2⟩
            case measure => simp [intOf]; omega
          · obtain ⟨e1, e2, e3⟩ := strE_no hz
            have HZ := Lib.hid hz
            clear hz
            go_wp2_with (fail)
            refine (rof_calls (tk T k) w HT.out).mono ?_
            rintro e w' ⟨rfl, rfl⟩
            by_cases he : ofT T (tk T k) = k
            · have hg2 := Lib.hid (hg.out.next h64' (fun _ => he))
              rw [he]
              have hne : ((k : Int) != (k : Int)) = false := by simp
              clear he
              go_wp2_with (fail)
              go_round
              case rel => exact ⟨k + 1, by omega, by go_num, hg2⟩
              case measure => simp [intOf]; omega
            · have HF := Lib.hid (notMayTok_uniq (not_uniq hkT HZ.out he))
              have hne : (ofT T (tk T k) != (k : Int)) = true := by simpa using he
              clear he
              go_wp2_with (fail)
              go_ret
              exact ⟨⟨_, rfl, HF.out⟩, Below.refl _ _⟩
      · have HG : Hid (GoodTo T T.length) := Lib.hid (by rw [hlen.out]; have : n = k := (by omega); rw [this]; exact hg.out)
        go_wp2_with (fail)
        go_loopw [4] (fun i wr => ∃ k : Nat, k ≤ 256 ∧ i = .int .i64 k ∧ Below w.heap.size w wr ∧ Hid (∀ b, b < k → one b ∈ T)) (fun i _ => 256 - (intOf i).toNat)
        case atStart => exact ⟨0, by omega, rfl, Below.refl _ _, Lib.hid (fun b hb => by omega)⟩
        case round =>
          obtain ⟨q, hq, rfl, hb, hall⟩ := hrel
          have HB := Lib.hid hb
          clear hb
          by_cases hlt : q < 256
          · have hw8 : IntKind.u8.wrap (q : Int) = (q : Int) := by rw [IntKind.wrap_u8]; omega
            have hcv := conv_one wr q
            have HB3 := Lib.hid (HB.out.alloc HB.out.size (.cells #[.int .u8 (q : Int)] 5))
            go_wp2_with (fail)
            refine (rof_calls (one q) _ (Sl.below HT.out HB3.out)).mono ?_
            rintro e w' ⟨rfl, rfl⟩
            by_cases hneg : ofT T (one q) < 0
            · have HF := Lib.hid (notMayTok_byte hlt (ofT_one.1 hneg))
              go_wp2_with (fail)
              go_ret
              exact ⟨⟨_, rfl, HF.out⟩, HB3.out⟩
            · have hin : Hid (∀ b, b < q + 1 → one b ∈ T) := Lib.hid (fun b hb => by
                by_cases e : b = q
                · subst e
                  exact Classical.byContradiction fun h => hneg (ofT_one.2 h)
                · exact hall.out b (by omega))
              go_wp2_with (fail)
              go_roundw
              case rel => exact ⟨q + 1, by omega, by go_num, HB3.out, hin⟩
              case measure => simp [intOf]; omega
          · have HF := Lib.hid (mayTok_yes (T := T) (by have := hlen.out; omega) (fun s hs => by obtain ⟨j, hj, rfl⟩ := mem_tk hs; exact (HG.out j hj).1) HG.out.uniq (fun b hb => hall.out b (by omega)))
            go_wp2_with (fail)
            go_ret
            exact ⟨⟨_, rfl, (fun _ => HF.out), (fun _ => rfl)⟩, HB.out⟩

end Go.Proofs.Yteoncpkfinheoaa
