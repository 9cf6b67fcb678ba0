/- Walk: the law's great. -/
import Derived.Test.YteoncpkfinheoaaToksP
namespace Go.Proofs.Yteoncpkfinheoaa
open Go.RowKit
set_option linter.unusedVariables false

def Pr.enc (p : Pr) : List Value := [.string p.left, .string p.right]
theorem Pr.enc_len (p : Pr) : p.enc.length = 2 := rfl
def pr (P : List Pr) (i : Nat) : Pr := P.getD i ⟨ByteArray.empty, ByteArray.empty⟩
theorem pr_eq {P : List Pr} {i : Nat} (h : i < P.length) : P[i]? = some (pr P i) := by simp [pr, List.getD, h]
def GreatR (R : List Rw) (P : List Pr) (S : List Sp) : Prop :=
  400 < R.length ∨ 200 < P.length ∨ 20 < S.length ∨ (∃ r ∈ R, 80 < r.token.size) ∨ (∃ p ∈ P, 80 < p.left.size ∨ 80 < p.right.size) ∨ ∃ s ∈ S, 40 < s.name.size

def GreatRPost (R : List Rw) (P : List Pr) (S : List Sp) (w : World) (e : Ending) (w' : World) : Prop := (∃ b, e = .returned (.bool b) ∧ (b = true ↔ GreatR R P S)) ∧ Below w.heap.size w w'
theorem mem_at {α : Type} {L : List α} {x : α} (h : x ∈ L) : ∃ j, j < L.length ∧ L[j]? = some x := by
  obtain ⟨j, hj, rfl⟩ := List.getElem_of_mem h
  exact ⟨j, hj, List.getElem?_eq_getElem hj⟩

set_option maxHeartbeats 2000000 in
set_option maxRecDepth 100000 in
theorem lgreat_calls {R : List Rw} {P : List Pr} {S : List Sp} {ro po so : Option Addr} {rn rc pn pc sn sc : Nat} (w : World) (hR : SlF 2 w ro rn rc (flat Rw.enc R)) (hP : SlF 2 w po pn pc (flat Pr.enc P)) (hS : SlF 2 w so sn sc (flat Sp.enc S))
    (hrs : ∀ r ∈ R, r.token.size ≤ maxLen) (hps : ∀ p ∈ P, p.left.size ≤ maxLen ∧ p.right.size ≤ maxLen) (hss : ∀ s ∈ S, s.name.size ≤ maxLen) :
    Calls Try.prog 5 #[.slice ro rn rc, .slice po pn pc, .slice so sn sc] w (GreatRPost R P S w) := by
  have hm1 := Nat.le_trans hR.le hR.max
  have hm2 := Nat.le_trans hP.le hP.max
  have hm3 := Nat.le_trans hS.le hS.max
  unfold maxLen at hm1 hm2 hm3
  have HLR := Lib.hid (hR.count Rw.enc_len (by omega))
  have HLP := Lib.hid (hP.count Pr.enc_len (by omega))
  have HLS := Lib.hid (hS.count Sp.enc_len (by omega))
  have HR := Lib.hid hR
  have HP := Lib.hid hP
  have HS := Lib.hid hS
  have HRS := Lib.hid hrs
  have HPS := Lib.hid hps
  have HSS := Lib.hid hss
  clear hR hP hS hrs hps hss
  by_cases h1 : (400 : Int) < rn
  · have HF : Hid (GreatR R P S) := Lib.hid (.inl (by rw [HLR.out]; omega))
    go_enter Try.func5, Try.ntmps5
    go_wp2_with (fail)
    go_ret
    exact ⟨⟨true, rfl, ⟨fun _ => HF.out, fun _ => rfl⟩⟩, Below.refl _ _⟩
  by_cases h2 : (200 : Int) < pn
  · have HF : Hid (GreatR R P S) := Lib.hid (.inr (.inl (by rw [HLP.out]; omega)))
    go_enter Try.func5, Try.ntmps5
    go_wp2_with (fail)
    go_ret
    exact ⟨⟨true, rfl, ⟨fun _ => HF.out, fun _ => rfl⟩⟩, Below.refl _ _⟩
  by_cases h3 : (20 : Int) < sn
  · have HF : Hid (GreatR R P S) := Lib.hid (.inr (.inr (.inl (by rw [HLS.out]; omega))))
    go_enter Try.func5, Try.ntmps5
    go_wp2_with (fail)
    go_ret
    exact ⟨⟨true, rfl, ⟨fun _ => HF.out, fun _ => rfl⟩⟩, Below.refl _ _⟩
  go_enter Try.func5, Try.ntmps5
  go_wp2_with (fail)
  go_loopw [28] (fun i wr => ∃ k : Nat, k ≤ rn ∧ i = .int .i64 k ∧ Hid (∀ j, j < k → ¬ 80 < (rw' R j).token.size) ∧ Below w.heap.size w wr) (fun i _ => rn - (intOf i).toNat)
  case atStart => exact ⟨0, Nat.zero_le _, rfl, Lib.hid (fun j h => by omega), Below.refl _ _⟩
  case round =>
    obtain ⟨k, hk, rfl, HK, hb⟩ := hrel
    have HB := Lib.hid hb
    clear hb
    by_cases hlt : k < rn
    · have hkR : k < R.length := by have := HLR.out; omega
      obtain ⟨b, of, rfl, hce⟩ := (HR.out.below HB.out).elem Rw.enc_len (by omega) (rw_eq hkR)
      have hsz := HRS.out _ (List.mem_of_getElem? (rw_eq hkR))
      have HMEM : Hid (rw' R k ∈ R) := Lib.hid (List.mem_of_getElem? (rw_eq hkR))
      obtain ⟨⟨tn, id⟩, hseq⟩ : ∃ m, rw' R k = m := ⟨_, rfl⟩
      rw [hseq] at hce hsz
      have d0 := hce 0 _ rfl
      have d1 := hce 1 _ rfl
      rw [Nat.add_zero] at d0
      simp only at d0 d1 hsz
      unfold maxLen at hsz
      have HSK := Lib.hid hseq
      have HB1 := Lib.hid (HB.out.alloc HB.out.size (.cells #[.string tn, .int .i64 id] 27))
      clear hce hseq
      by_cases h80 : (80 : Int) < tn.size
      · have HF : Hid (GreatR R P S) := Lib.hid (.inr (.inr (.inr (.inl ⟨_, HMEM.out, by rw [HSK.out]; simp only; omega⟩))))
        go_wp2_with (fail)
        go_ret
        exact ⟨⟨true, rfl, ⟨fun _ => HF.out, fun _ => rfl⟩⟩, HB1.out⟩
      · have HK2 : Hid (∀ j, j < k + 1 → ¬ 80 < (rw' R j).token.size) := Lib.hid (fun j hj => by
          by_cases e : j = k
          · subst e; rw [HSK.out]; simp only; omega
          · exact HK.out j (by omega))
        go_wp2_with (fail)
        go_roundw
        case rel => exact ⟨k + 1, by omega, by go_num, HK2, HB1.out⟩
        case measure => simp [intOf]; omega
    · have HRA : Hid (∀ r ∈ R, ¬ 80 < r.token.size) := Lib.hid (fun r hr => by
        obtain ⟨j, hj, he⟩ := mem_at hr
        rw [rw_eq hj] at he
        simp only [Option.some.injEq] at he
        subst he
        exact HK.out j (by have := HLR.out; omega))
      obtain ⟨wo, rfl⟩ : ∃ wo : World, wo = wr := ⟨_, rfl⟩
      go_wp2_with (fail)
      go_loopw [39] (fun i wr => ∃ k : Nat, k ≤ pn ∧ i = .int .i64 k ∧ Hid (∀ j, j < k → ¬ 80 < (pr P j).left.size ∧ ¬ 80 < (pr P j).right.size) ∧ Below w.heap.size w wr) (fun i _ => pn - (intOf i).toNat)
      case atStart => exact ⟨0, Nat.zero_le _, rfl, Lib.hid (fun j h => by omega), HB.out⟩
      case round =>
        obtain ⟨k2, hk2, rfl, HK2, hb2⟩ := hrel
        have HB2 := Lib.hid hb2
        clear hb2
        by_cases hlt2 : k2 < pn
        · have hkP : k2 < P.length := by have := HLP.out; omega
          obtain ⟨b, of, rfl, hce⟩ := (HP.out.below HB2.out).elem Pr.enc_len (by omega) (pr_eq hkP)
          have HMEM : Hid (pr P k2 ∈ P) := Lib.hid (List.mem_of_getElem? (pr_eq hkP))
          have hsz := HPS.out _ HMEM.out
          obtain ⟨⟨pl, qr⟩, hseq⟩ : ∃ m, pr P k2 = m := ⟨_, rfl⟩
          rw [hseq] at hce hsz
          have d0 := hce 0 _ rfl
          have d1 := hce 1 _ rfl
          rw [Nat.add_zero] at d0
          simp only at d0 d1 hsz
          unfold maxLen at hsz
          obtain ⟨hsz1, hsz2⟩ := hsz
          have HSK := Lib.hid hseq
          have HB1 := Lib.hid (HB2.out.alloc HB2.out.size (.cells #[.string pl, .string qr] 46))
          clear hce hseq
          by_cases h80 : (80 : Int) < pl.size
          · have HF : Hid (GreatR R P S) := Lib.hid (.inr (.inr (.inr (.inr (.inl ⟨_, HMEM.out, .inl (by rw [HSK.out]; simp only; omega)⟩)))))
            go_wp2_with (fail)
            go_ret
            exact ⟨⟨true, rfl, ⟨fun _ => HF.out, fun _ => rfl⟩⟩, HB1.out⟩
          by_cases h81 : (80 : Int) < qr.size
          · have HF : Hid (GreatR R P S) := Lib.hid (.inr (.inr (.inr (.inr (.inl ⟨_, HMEM.out, .inr (by rw [HSK.out]; simp only; omega)⟩)))))
            go_wp2_with (fail)
            go_ret
            exact ⟨⟨true, rfl, ⟨fun _ => HF.out, fun _ => rfl⟩⟩, HB1.out⟩
          · have HK3 : Hid (∀ j, j < k2 + 1 → ¬ 80 < (pr P j).left.size ∧ ¬ 80 < (pr P j).right.size) := Lib.hid (fun j hj => by
              by_cases e : j = k2
              · subst e; rw [HSK.out]; simp only; omega
              · exact HK2.out j (by omega))
            go_wp2_with (fail)
            go_roundw
            case rel => exact ⟨k2 + 1, by omega, by go_num, HK3, HB1.out⟩
            case measure => simp [intOf]; omega
        · have HPA : Hid (∀ p ∈ P, ¬ (80 < p.left.size ∨ 80 < p.right.size)) := Lib.hid (fun p hp => by
            obtain ⟨j, hj, he⟩ := mem_at hp
            rw [pr_eq hj] at he
            simp only [Option.some.injEq] at he
            subst he
            have := HK2.out j (by have := HLP.out; omega)
            omega)
          obtain ⟨wo2, rfl⟩ : ∃ wo2 : World, wo2 = wr := ⟨_, rfl⟩
          go_wp2_with (fail)
          go_loopw [56] (fun i wr => ∃ k : Nat, k ≤ sn ∧ i = .int .i64 k ∧ Hid (∀ j, j < k → ¬ 40 < (sp S j).name.size) ∧ Below w.heap.size w wr) (fun i _ => sn - (intOf i).toNat)
          case atStart => exact ⟨0, Nat.zero_le _, rfl, Lib.hid (fun j h => by omega), HB2.out⟩
          case round =>
            obtain ⟨k3, hk3, rfl, HK3, hb3⟩ := hrel
            have HB3 := Lib.hid hb3
            clear hb3
            by_cases hlt3 : k3 < sn
            · have hkS : k3 < S.length := by have := HLS.out; omega
              obtain ⟨b, of, rfl, hce⟩ := (HS.out.below HB3.out).elem Sp.enc_len (by omega) (sp_eq hkS)
              have HMEM : Hid (sp S k3 ∈ S) := Lib.hid (List.mem_of_getElem? (sp_eq hkS))
              have hsz := HSS.out _ HMEM.out
              obtain ⟨⟨nm, id⟩, hseq⟩ : ∃ m, sp S k3 = m := ⟨_, rfl⟩
              rw [hseq] at hce hsz
              have d0 := hce 0 _ rfl
              have d1 := hce 1 _ rfl
              rw [Nat.add_zero] at d0
              simp only at d0 d1 hsz
              unfold maxLen at hsz
              have HSK := Lib.hid hseq
              have HB1 := Lib.hid (HB3.out.alloc HB3.out.size (.cells #[.string nm, .int .i64 id] 48))
              clear hce hseq
              by_cases h40 : (40 : Int) < nm.size
              · have HF : Hid (GreatR R P S) := Lib.hid (.inr (.inr (.inr (.inr (.inr ⟨_, HMEM.out, by rw [HSK.out]; simp only; omega⟩)))))
                go_wp2_with (fail)
                go_ret
                exact ⟨⟨true, rfl, ⟨fun _ => HF.out, fun _ => rfl⟩⟩, HB1.out⟩
              · have HK4 : Hid (∀ j, j < k3 + 1 → ¬ 40 < (sp S j).name.size) := Lib.hid (fun j hj => by
                  by_cases e : j = k3
                  · subst e; rw [HSK.out]; simp only; omega
                  · exact HK3.out j (by omega))
                go_wp2_with (fail)
                go_roundw
                case rel => exact ⟨k3 + 1, by omega, by go_num, HK4, HB1.out⟩
                case measure => simp [intOf]; omega
            · have HF : Hid (false = true ↔ GreatR R P S) := Lib.hid ⟨(fun h => by cases h), (fun h => by
                rcases h with h | h | h | ⟨r, hr, h⟩ | ⟨p, hp, h⟩ | ⟨s, hs, h⟩
                · have := HLR.out; omega
                · have := HLP.out; omega
                · have := HLS.out; omega
                · exact absurd h (HRA.out r hr)
                · exact absurd h (HPA.out p hp)
                · obtain ⟨j, hj, he⟩ := mem_at hs
                  rw [sp_eq hj] at he
                  simp only [Option.some.injEq] at he
                  subst he
                  exact absurd h (HK3.out j (by have := HLS.out; omega)))⟩
              go_wp2_with (fail)
              go_ret
              exact ⟨⟨_, rfl, HF.out⟩, HB3.out⟩

end Go.Proofs.Yteoncpkfinheoaa
