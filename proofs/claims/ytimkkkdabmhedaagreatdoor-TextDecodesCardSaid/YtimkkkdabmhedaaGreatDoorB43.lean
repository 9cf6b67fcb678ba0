/- Walks: split.mark, split.Bytes, split.runs and what it hands out. -/
import Derived.Test.YtimkkkdabmhedaaGreatDoorB36
import Derived.Test.YtimkkkdabmhedaaGreatDoorB42
import Derived.Maps.AppendAt
namespace Go.Proofs.YtimkkkdabmhedaaGreatDoor
open Go.RowKit
set_option linter.unusedVariables false

set_option maxHeartbeats 400000 in
theorem mark_calls (s : Int) (w : World) : Calls Tryz.prog 117 #[.int .i64 s] w fun e w' => e = .returned (.bool (!isB s)) ∧ w = w' := by
  go_enter Tryz.func117, Tryz.ntmps117
  by_cases h0 : s < 0
  · have HB : Hid (isB s = false) := Lib.hid (by unfold isB; rw [decide_eq_false (show ¬ 0 ≤ s by omega)]; rfl)
    go_wp2_with (fail)
    go_ret
    exact ⟨by rw [HB.out]; rfl, rfl⟩
  · by_cases h1 : 256 ≤ s
    · have HB : Hid (isB s = false) := Lib.hid (by unfold isB; rw [decide_eq_false (show ¬ s < 256 by omega), Bool.and_false])
      go_wp2_with (fail)
      go_ret
      exact ⟨by rw [HB.out]; rfl, rfl⟩
    · have HB : Hid (isB s = true) := Lib.hid (isB_iff.2 ⟨by omega, by omega⟩)
      go_wp2_with (fail)
      go_ret
      exact ⟨by rw [HB.out]; rfl, rfl⟩

/-- A run as it is handed out. -/
structure Rn where
  ao : Option Addr
  n : Nat
  c : Nat
  bytes : List Int
  behind : Bool
def Rn.pr (x : Rn) : List Int × Bool := (x.bytes, x.behind)
def Rn.enc (x : Rn) : Array Value := #[.slice x.ao x.n x.c, .bool x.behind]
def RnIn (Wj : World) (x : Rn) (W : World) : Prop := SlB W x.ao x.n x.c x.bytes ∧ ∀ ad, x.ao = some ad → Wj.heap.size ≤ ad.block ∧ ad.block < W.heap.size
def costR (pre : List Rn) : Nat := (pre.map fun x => x.bytes.length + 1).sum
theorem costR_snoc (pre : List Rn) (x : Rn) : costR (pre ++ [x]) = costR pre + (x.bytes.length + 1) := by simp [costR]
/-- What a round may know of the runs so far. -/
def RnOk (N : Nat) (pre : List Rn) (x : Rn) : Prop := costR (pre ++ [x]) ≤ N + 1 ∧ ∀ y ∈ x.bytes, 0 ≤ y ∧ y < 256
theorem runsGo_b {run : List Int} {s : Int} {l : List Int} (h : isB s = true) : runsGo run (s :: l) = runsGo (run ++ [s]) l := by simp [runsGo, h]
theorem runsGo_m {run : List Int} {s : Int} {l : List Int} (h : isB s = false) : runsGo run (s :: l) = (run, true) :: runsGo [] l := by simp [runsGo, h]

attribute [local go_sem] Oper.semAt_some
set_option maxHeartbeats 2000000 in
set_option maxRecDepth 100000 in
theorem runs1_in {text : List Int} {ao : Option Addr} {tn tc : Nat} (m : Nat) (l Bn n₀ : Nat) (w0 : World) (hS : SlI w0 ao tn tc text) (hn₀ : w0.heap.size = n₀) (hsz : tn ≤ 1048576) (J : List Rn → World → Prop)
    (hJ : ∀ pre A B, J pre A → Below A.heap.size A B → J pre B)
    (W : World) (hW : Below n₀ w0 W) (hBn : W.cell? ⟨Bn, 0, none⟩ = some (.slice ao tn tc))
    (hY : ∀ pre x Wj W1, J pre Wj → Below Wj.heap.size Wj W1 → RnIn Wj x W1 → RnOk tn pre x → YieldAt Fence.wide m Tryz.prog l x.enc W1 fun e W' => e = .returned (.bool true) ∧ J (pre ++ [x]) W' ∧ Below n₀ W1 W')
    (h0 : J [] W) :
    CallsIn Fence.wide (m + 1) Tryz.prog 125 #[.func (.yield l) #[] #[], .pointer (some ⟨Bn, 0, none⟩)] W fun e W' => (∃ v, e = .returned v) ∧ ∃ xs, xs.map Rn.pr = runsGo [] text ∧ J xs W' := by
  obtain ⟨i0, hi, hz0, hz1, hz2⟩ := info_parts infoB
  have hlt := hS.len
  refine callsIn_of_wp Tryz.func125 rfl trivial ?_ rfl
  simp only [Tryz.ntmps125, List.size_toArray, List.length_cons, List.length_nil, Nat.reduceAdd, Nat.reduceSub, Array.replicate_succ, Array.replicate_zero, List.push_toArray, List.append_toArray, List.nil_append, List.cons_append]
  have HS := Lib.hid hS
  have HLT := Lib.hid hlt
  have HJ := Lib.hid hJ
  have HW := Lib.hid hW
  have HN := Lib.hid hn₀
  have HY := Lib.hid hY
  have H0 := Lib.hid h0
  clear hS hlt hJ hW hY h0 hn₀
  gi_wp2
  gi_loopw [3, 8] (fun v i wr => ∃ (j : Nat) (pre : List Rn) (run : List Int) (Wj : World), i = .int .i64 j ∧ j ≤ tn ∧ n₀ ≤ Wj.heap.size ∧ Hid (J pre Wj) ∧ Hid (Below Wj.heap.size Wj wr) ∧ Hid (Below n₀ w0 wr) ∧ Hid (wr.ownsRow Wj.heap.size 5 1 v run.length (run.map (.int .u8))) ∧
      Hid (runsGo [] text = pre.map Rn.pr ++ runsGo run (text.drop j)) ∧ Hid (costR pre + run.length = j) ∧ Hid (∀ y ∈ run, 0 ≤ y ∧ y < 256)) (fun _ i _ => tn - (intOf i).toNat)
  case atStart =>
    exact ⟨0, [], [], W, rfl, by omega, by have := HW.out.size; have := HN.out; omega, H0, Lib.hid (Below.refl _ _), HW, Lib.hid (World.ownsRow_nil _ _ _ _), Lib.hid (by simp), Lib.hid (by simp [costR]), Lib.hid (by simp)⟩
  case round =>
    obtain ⟨j, pre, run, Wj, rfl, hj, hnW, HJP, HBJ, HB0, HOW, HRG, HCO, HBY⟩ := hrel
    by_cases hjt : j < tn
    · have gj : (j : Int) < (tn : Int) := by omega
      have HSW : Hid (SlI wr ao tn tc text) := Lib.hid (by
        have h := HB0.out
        rw [← HN.out] at h
        exact HS.out.below h)
      obtain ⟨b1, o1, hao, hc1⟩ := HSW.out.at_ hjt
      subst hao
      have hdr : text.drop j = ix text j :: text.drop (j + 1) := by
        have := List.drop_eq_getElem_cons (l := text) (i := j) (by have := HLT.out; omega)
        rw [this]
        congr 1
        have h2 := ix_eq (A := text) (i := j) (by have := HLT.out; omega)
        rw [List.getElem?_eq_getElem (by have := HLT.out; omega)] at h2
        exact Option.some.inj h2
      obtain ⟨s, hs⟩ : ∃ s, ix text j = s := ⟨_, rfl⟩
      rw [hs] at hdr hc1
      have HDR := Lib.hid hdr
      have hmk := (callsIn_wide (n := m)).2 (mark_calls s wr)
      cases hb : isB s with
      | true =>
        have HRG2 : Hid (runsGo [] text = pre.map Rn.pr ++ runsGo (run ++ [s]) (text.drop (j + 1))) := Lib.hid (by rw [HRG.out, HDR.out, runsGo_b hb])
        have hs8 := isB_iff.1 hb
        have hw8 : IntKind.u8.wrap s = s := by rw [IntKind.wrap_u8]; omega
        rw [hb] at hmk
        clear hdr hs
        have HLO := Lib.hid (World.ownsRow.lt HOW.out)
        have hsW : Wj.heap.size ≤ wr.heap.size := HBJ.out.size
        have hrl : run.length ≤ 1048576 := by have := HCO.out; omega
        gi_wp2_with (first
          | (refine ⟨trivial, ?_⟩; gi_at_call 117; refine hmk.mono ?_; rintro e w2 ⟨rfl, rfl⟩)
          | (gi_at_builtin; refine wpListIn_append_own _ rfl _ _ 121 rfl Wj.heap.size 5 i0 (.int .u8 0) 1 1 Tryz.underlying121 hi hz0 hz1 hz2 rfl (by decide) _ _ _ rfl (HOW.out.alloc _) ⟨wr.heap.size, 0, none⟩ 1 1 [.int .u8 s] rfl rfl (cell_one_new _ _ _) (by simp [Value.oneCell']) (by unfold maxLen; omega) (by omega) (by simp; omega) ?_; intro v' w2 hown' hgrow _))
        have HOW2 : Hid (w2.ownsRow Wj.heap.size 5 1 v' (run ++ [s]).length ((run ++ [s]).map (.int .u8))) := Lib.hid (by rw [List.length_append, List.map_append]; exact hown')
        have HBJ2 : Hid (Below Wj.heap.size Wj w2) := Lib.hid ((HBJ.out.alloc hsW _).trans ((Below.refl _ _).grown hgrow (by simp; omega) (fun k hk => (HLO.out k hk).1)))
        have HB02 : Hid (Below n₀ w0 w2) := Lib.hid (HB0.out.trans (((Below.refl n₀ wr).alloc (Nat.le_trans hnW hsW) _).trans ((Below.refl n₀ _).grown hgrow (by simp; omega) (fun k hk => Nat.le_trans hnW (HLO.out k hk).1))))
        clear hown' hgrow
        go_roundw
        case rel => exact ⟨j + 1, pre, run ++ [s], Wj, by go_num, by omega, hnW, HJP, HBJ2, HB02, HOW2, HRG2, Lib.hid (by have := HCO.out; simp; omega), Lib.hid (fun y hy => by
          rcases List.mem_append.1 hy with h | h
          · exact HBY.out y h
          · obtain rfl := List.mem_singleton.1 h
            exact isB_iff.1 hb)⟩
        case measure => simp [intOf]; omega
      | false =>
        have HRG2 : Hid (runsGo [] text = pre.map Rn.pr ++ (run, true) :: runsGo [] (text.drop (j + 1))) := Lib.hid (by rw [HRG.out, HDR.out, runsGo_m hb])
        rw [hb] at hmk
        obtain ⟨vo, vc, rfl, hsl⟩ := Sl.of_own HOW.out
        have hco : costR (pre ++ [⟨vo, run.length, vc, run, true⟩]) = j + 1 := by rw [costR_snoc]; have := HCO.out; simp only; omega
        have hblk : ∀ ad, vo = some ad → Wj.heap.size ≤ ad.block ∧ ad.block < wr.heap.size := fun ad e => World.ownsRow.lt HOW.out ad.block (by rw [e]; rfl)
        obtain ⟨fn, tmps, assign, body, hy, hR⟩ := HY.out pre ⟨vo, run.length, vc, run, true⟩ Wj wr HJP.out HBJ.out ⟨hsl, hblk⟩ ⟨by rw [hco]; omega, HBY.out⟩
        dsimp only [Rn.enc] at hy
        have HR := Lib.hid hR
        have HCO2 := Lib.hid hco
        clear hdr hs hR hsl hco hblk
        gi_wp2_with (refine ⟨trivial, ?_⟩; gi_at_call 117; refine hmk.mono ?_; rintro e w2 ⟨rfl, rfl⟩)
        refine HR.out.mono ?_
        rintro e W3 ⟨rfl, hJ3, hb3⟩
        have HJ3 := Lib.hid hJ3
        have HB3 := Lib.hid (HB0.out.trans hb3)
        clear hJ3 hb3 hy
        gi_wp2
        go_roundw
        case rel => exact ⟨j + 1, pre ++ [⟨vo, run.length, vc, run, true⟩], [], W3, by go_num, by omega, by have := HB3.out.size; have := HN.out; omega, HJ3, Lib.hid (Below.refl _ _), HB3, Lib.hid (World.ownsRow_nil _ _ _ _), Lib.hid (by rw [HRG2.out]; simp [Rn.pr]), Lib.hid (by rw [HCO2.out]; rfl), Lib.hid (by simp)⟩
        case measure => simp [intOf]; omega
    · obtain rfl : j = tn := by omega
      have HRG2 : Hid (runsGo [] text = pre.map Rn.pr ++ [(run, false)]) := Lib.hid (by rw [HRG.out, List.drop_eq_nil_iff.2 (by have := HLT.out; omega)]; rfl)
      obtain ⟨vo, vc, rfl, hsl⟩ := Sl.of_own HOW.out
      have hco : costR (pre ++ [⟨vo, run.length, vc, run, false⟩]) = j + 1 := by rw [costR_snoc]; have := HCO.out; simp only; omega
      have hblk : ∀ ad, vo = some ad → Wj.heap.size ≤ ad.block ∧ ad.block < wr.heap.size := fun ad e => World.ownsRow.lt HOW.out ad.block (by rw [e]; rfl)
      obtain ⟨fn, tmps, assign, body, hy, hR⟩ := HY.out pre ⟨vo, run.length, vc, run, false⟩ Wj wr HJP.out HBJ.out ⟨hsl, hblk⟩ ⟨by rw [hco]; omega, HBY.out⟩
      dsimp only [Rn.enc] at hy
      have HR := Lib.hid hR
      clear hR hsl hco hblk
      gi_wp2
      refine HR.out.mono ?_
      rintro e W3 ⟨rfl, hJ3, hb3⟩
      have HJ3 := Lib.hid hJ3
      clear hJ3 hb3 hy
      gi_wp2
      go_end0
      exact ⟨⟨_, rfl⟩, pre ++ [⟨vo, run.length, vc, run, false⟩], by rw [HRG2.out]; simp [Rn.pr], HJ3.out⟩

set_option maxHeartbeats 1000000 in
theorem runs_calls {ao : Option Addr} {tn tc : Nat} (w : World) :
    Calls Tryz.prog 92 #[.slice ao tn tc] w fun e w' => e = .returned (.func (.func 125) #[] #[.pointer (some ⟨w.heap.size, 0, none⟩)]) ∧ w' = w.alloc (.cells #[.slice ao tn tc] 43) := by
  go_enter Tryz.func92, Tryz.ntmps92
  go_wp2_with (fail)
  go_ret
  exact ⟨rfl, rfl⟩

set_option maxHeartbeats 1000000 in
set_option maxRecDepth 100000 in
/-- A text's bytes. -/
theorem bytes13_calls {text : List Int} {ao : Option Addr} {tn tc : Nat} (w : World) (hS : SlI w ao tn tc text) (hb : ∀ y ∈ text, isB y = true) (hsz : tn ≤ 1048576) :
    Calls Tryz.prog 88 #[.slice ao tn tc] w fun e w' => (∃ v, e = .returned (.tuple #[v, .bool true]) ∧ w'.ownsRow w.heap.size 5 1 v text.length (text.map (.int .u8))) ∧ Below w.heap.size w w' := by
  obtain ⟨i0, hi, hz0, hz1, hz2⟩ := info_parts infoB
  have HS := Lib.hid hS
  have HLT := Lib.hid hS.len
  have HBY := Lib.hid hb
  clear hS hb
  go_enter Tryz.func88, Tryz.ntmps88
  go_wp2_with (fail)
  go_loopw [4, 9] (fun v i wr => ∃ j : Nat, i = .int .i64 j ∧ j ≤ tn ∧ Hid (wr.ownsRow w.heap.size 5 1 v j ((text.take j).map (.int .u8))) ∧ Hid (Below w.heap.size w wr)) (fun _ i _ => tn - (intOf i).toNat)
  case atStart => exact ⟨0, rfl, by omega, Lib.hid (World.ownsRow_nil _ _ _ _), Lib.hid (Below.refl _ _)⟩
  case round =>
    obtain ⟨j, rfl, hj, HOW, HB⟩ := hrel
    by_cases hjt : j < tn
    · have gj : (j : Int) < (tn : Int) := by omega
      obtain ⟨b1, o1, hao, hc1⟩ := (HS.out.below HB.out).at_ hjt
      subst hao
      have hix := ix_eq (A := text) (i := j) (by have := HLT.out; omega)
      have hisb := HBY.out _ (List.mem_of_getElem? hix)
      have HTK := Lib.hid (take_snoc (A := text) (k := j) (by have := HLT.out; omega))
      obtain ⟨s, hs⟩ : ∃ s, ix text j = s := ⟨_, rfl⟩
      rw [hs] at hc1 hisb HTK
      have hmk := mark_calls s wr
      rw [hisb] at hmk
      have hs8 := isB_iff.1 hisb
      have hw8 : IntKind.u8.wrap s = s := by rw [IntKind.wrap_u8]; omega
      have HLO := Lib.hid (World.ownsRow.lt HOW.out)
      have hsW : w.heap.size ≤ wr.heap.size := HB.out.size
      clear hix hisb hs
      go_wp2_with (first
        | (go_at_call 117; refine hmk.mono ?_; rintro e w2 ⟨rfl, rfl⟩)
        | (at_builtin; refine wpList_append_own _ rfl _ _ 121 rfl w.heap.size 5 i0 (.int .u8 0) 1 1 Tryz.underlying121 hi hz0 hz1 hz2 rfl (by decide) _ _ _ rfl (HOW.out.alloc _) ⟨wr.heap.size, 0, none⟩ 1 1 [.int .u8 s] rfl rfl (cell_one_new _ _ _) (by simp [Value.oneCell']) (by unfold maxLen; omega) (by omega) (by simp; omega) ?_; intro v' w2 hown' hgrow _))
      have HOW2 : Hid (w2.ownsRow w.heap.size 5 1 v' (j + 1) ((text.take (j + 1)).map (.int .u8))) := Lib.hid (by rw [← HTK.out, List.map_append]; exact hown')
      have HB2 : Hid (Below w.heap.size w w2) := Lib.hid ((HB.out.alloc hsW _).trans ((Below.refl _ _).grown hgrow (by simp; omega) (fun k hk => (HLO.out k hk).1)))
      clear hown' hgrow
      go_roundw
      case rel => exact ⟨j + 1, by go_num, by omega, HOW2, HB2⟩
      case measure => simp [intOf]; omega
    · obtain rfl : j = tn := by omega
      have HOW2 := Lib.hid (by have h := HOW.out; rw [List.take_of_length_le (by have := HLT.out; omega), ← HLT.out] at h; exact h)
      go_wp2_with (fail)
      refine bodyPost_ret (v := .tuple #[_, .bool true]) ?_ rfl ⟨⟨_, rfl, HOW2.out⟩, HB.out⟩
      simp [results, Tryz.results88, go_sem]

end Go.Proofs.YtimkkkdabmhedaaGreatDoor
