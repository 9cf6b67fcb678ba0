/- Part of a proof. -/
import Derived.WalkKit
import Derived.ProofKit
import Derived.OpenShut
import Derived.ShutString
import Derived.ChangeOld
import Derived.Below
import Derived.WalkSpells
import Derived.WalkLawsBesides
import Derived.Lib.Hide
import Derived.BigQuiet
import Derived.Deep.QuietTactic
import Derived.Laws.AppendOwnNone
import Derived.Laws.CopyOwn
import Derived.Maps.OwnOps
import Derived.Maps.OwnSet
import Derived.Maps.Views
import Derived.Deep.RegionHeld3
import Derived.Shelf.SlSortCmp.QuietGrown
import Derived.Shelf.SlicesQ.Load
import Derived.DeepKeys4
import Derived.Maps.Own
import Derived.Deep.DeepCutAuto
import Derived.Lib.Strings
import Derived.Lib.Slices
import Derived.Lib.Walk
import Derived.Lib.Bytealg
import Derived.RegionTactic
import Derived.Laws.ResultCell
import Derived.Deep.AppendLies
import Derived.BigRegion
import Derived.Deep.MidRow
import Derived.Deep.RegionLaw
import Derived.Deep.RegionWith
import Derived.Lib.SmallJoins
import Derived.Deep.Matrix
import Derived.Deep.Slices
import Derived.Deep.Fields
import Derived.ChangeSame
import Derived.Deep.LoopGhost
import Derived.LaidMore
import Derived.Stop.Joined
import Derived.StillTailTactics
import Derived.Deep.CutRange
import Derived.WalkArith
import Derived.Test.YtimkkkdabmhedaaGreatDoorProg
import Derived.RangeFuncNested
import Derived.RangeFuncBound
import Derived.RangeFuncCalls
import Derived.RangeFuncLeaves
import Derived.Shelf.Abstract
import Derived.Shelf.RegionOpen
import Derived.OwnWalkIn
import Derived.TacticsInMore
import Derived.LoopNIn
import Derived.LoopIn
import Derived.WalkMore
import Derived.Maps.AppendAt
import Derived.RangeFuncBox
import Derived.LoopN
import Derived.SevenTiedAt
import Derived.Test.YtimkkkdabmhedaaGreatDoorB1
import Derived.Test.YtimkkkdabmhedaaGreatDoorB2
import Derived.Test.YtimkkkdabmhedaaGreatDoorB3
import Derived.Test.YtimkkkdabmhedaaGreatDoorB4
import Derived.Test.YtimkkkdabmhedaaGreatDoorB5
import Derived.Test.YtimkkkdabmhedaaGreatDoorB6
import Derived.Test.YtimkkkdabmhedaaGreatDoorB7
import Derived.Test.YtimkkkdabmhedaaGreatDoorB8
import Derived.Test.YtimkkkdabmhedaaGreatDoorB9
import Derived.Test.YtimkkkdabmhedaaGreatDoorB10
import Derived.Test.YtimkkkdabmhedaaGreatDoorB11
import Derived.Test.YtimkkkdabmhedaaGreatDoorB12
import Derived.Test.YtimkkkdabmhedaaGreatDoorB13
import Derived.Test.YtimkkkdabmhedaaGreatDoorB14
import Derived.Test.YtimkkkdabmhedaaGreatDoorB15
import Derived.Test.YtimkkkdabmhedaaGreatDoorB16
import Derived.Test.YtimkkkdabmhedaaGreatDoorB17
import Derived.Test.YtimkkkdabmhedaaGreatDoorB18
import Derived.Test.YtimkkkdabmhedaaGreatDoorB19
import Derived.Test.YtimkkkdabmhedaaGreatDoorB20
import Derived.Test.YtimkkkdabmhedaaGreatDoorB21
import Derived.Test.YtimkkkdabmhedaaGreatDoorB22
import Derived.Test.YtimkkkdabmhedaaGreatDoorB23
import Derived.Test.YtimkkkdabmhedaaGreatDoorB24
import Derived.Test.YtimkkkdabmhedaaGreatDoorB25
import Derived.Test.YtimkkkdabmhedaaGreatDoorB26
import Derived.Test.YtimkkkdabmhedaaGreatDoorB27
import Derived.Test.YtimkkkdabmhedaaGreatDoorB28
import Derived.Test.YtimkkkdabmhedaaGreatDoorB29
import Derived.Test.YtimkkkdabmhedaaGreatDoorB30
import Derived.Test.YtimkkkdabmhedaaGreatDoorB31
import Derived.Test.YtimkkkdabmhedaaGreatDoorB32
import Derived.Test.YtimkkkdabmhedaaGreatDoorB33
import Derived.Test.YtimkkkdabmhedaaGreatDoorB34
import Derived.Test.YtimkkkdabmhedaaGreatDoorB35
import Derived.Test.YtimkkkdabmhedaaGreatDoorB36
import Derived.Test.YtimkkkdabmhedaaGreatDoorB37
import Derived.Test.YtimkkkdabmhedaaGreatDoorB38
import Derived.Test.YtimkkkdabmhedaaGreatDoorB39
import Derived.Test.YtimkkkdabmhedaaGreatDoorB40
import Derived.Test.YtimkkkdabmhedaaGreatDoorB41
import Derived.Test.YtimkkkdabmhedaaGreatDoorB42
import Derived.Test.YtimkkkdabmhedaaGreatDoorB43
import Derived.Test.YtimkkkdabmhedaaGreatDoorB44
import Derived.Test.YtimkkkdabmhedaaGreatDoorB45
import Derived.Test.YtimkkkdabmhedaaGreatDoorB46
import Derived.Test.YtimkkkdabmhedaaGreatDoorB47
import Derived.Test.YtimkkkdabmhedaaGreatDoorB48
import Derived.Test.YtimkkkdabmhedaaGreatDoorB49
import Derived.Test.YtimkkkdabmhedaaGreatDoorB50
import Derived.Test.YtimkkkdabmhedaaGreatDoorB51
import Derived.Test.YtimkkkdabmhedaaGreatDoorB52
namespace Go.Proofs.YtimkkkdabmhedaaGreatDoor
open Go.RowKit
set_option linter.unusedVariables false

theorem wpList_int_app {P : Program} {w : World} {ops : Array Oper} {rest : List Oper} {o : Oper} {a : Act} {Q : Exit → Act → World → Prop} (hgd : o.guard = .none) (s x : Operand) (t : TypeId)
    (ho : o.op = .call { callee := .builtin .append, args := #[s, x], argTypes := #[t, t] })
    {base : Nat} (i : TypeInfo) (ht : P.underlying t = some (.slice 3)) (hi : P.info? 3 = some i) (hz : i.zero = some (.int .i64 0)) (hsize : i.size = 1) (hby : i.bytes = 8)
    {v : Value} {A : List Int} (hs : a.eval s = v) (hown : Own w base v A) {ao : Option Addr} {m c : Nat} {B : List Int} (hx : a.eval x = .slice ao m c) (hl : SlI w ao m c B)
    (hlen : (A.length + m) * 8 ≤ 140737488355328) (hbase : base ≤ w.heap.size)
    (h : ∀ v' w', Own w' base v' (A ++ B) → w.grownBy w' v.ownBlock → Below base w w' → wpList P ops Q rest (a.put o.dst v') w') : wpList P ops Q (o :: rest) a w :=
  wpList_app hgd s x t ho base _ i (.int .i64 0) 8 ht hi hz hsize hby rfl v A.length _ hs hown ao m c _ hx hl (int_one B) (by unfold maxLen; omega) hlen hbase
    fun v' w' h1 h2 _ => h v' w' (by unfold Own; have := hl.len; rw [List.length_append, List.map_append, this]; exact h1) h2
      ((Below.refl _ _).grown h2 hbase fun k hk => (World.ownsRow.lt hown k hk).1)

end Go.Proofs.YtimkkkdabmhedaaGreatDoor

namespace Go.Proofs.YtimkkkdabmhedaaGreatDoor
set_option linter.unusedVariables false

/-- The first special of a number, of a name. -/
def spBy (S : List Sp) (id : Int) : Option Sp := S.find? (fun s => decide (s.id = id))
def nmOf : Option Sp → ByteArray
  | some s => s.name
  | none => ByteArray.empty
end Go.Proofs.YtimkkkdabmhedaaGreatDoor

namespace Go.Proofs.YtimkkkdabmhedaaGreatDoor
open Go
set_option linter.unusedVariables false

theorem bytesI_at {s : ByteArray} {i : Nat} (h : i < s.size) : (bytesI s)[i]? = some (s[i].toNat : Int) := by
  unfold bytesI
  rw [List.getElem?_map, Array.getElem?_toList, Array.getElem?_eq_getElem (by simpa using h)]
  rfl
theorem bytesI_succ {s : ByteArray} {k : Nat} (h : k < s.size) : (bytesI s).take (k + 1) = (bytesI s).take k ++ [(s[k].toNat : Int)] := by
  rw [List.take_add_one, bytesI_at h]; rfl
/-- The place of a name. -/
def nameAt (N : List ByteArray) (n : ByteArray) : Option Nat := N.findIdx? (fun x => decide (x = n))
theorem nameAt_some {N : List ByteArray} {n : ByteArray} {i : Nat} (hi : i < N.length) (he : tk N i = n) (hn : ∀ j, j < i → tk N j ≠ n) : nameAt N n = some i := by
  unfold nameAt
  rw [List.findIdx?_eq_some_iff_getElem]
  have ht : ∀ j (hj : j < N.length), N[j] = tk N j := fun j hj => by simp [tk, List.getD, hj]
  exact ⟨hi, by rw [ht i hi]; simpa using he, fun j hj => by rw [ht j (by omega)]; simpa using hn j hj⟩
theorem nameAt_none {N : List ByteArray} {n : ByteArray} (hn : ∀ j, j < N.length → tk N j ≠ n) : nameAt N n = none := by
  unfold nameAt
  rw [List.findIdx?_eq_none_iff]
  intro x hx
  obtain ⟨j, hj, rfl⟩ := mem_tk hx
  simpa using hn j hj

/-- A token's symbols, and the error. -/
def symsOf (V : Vc) (N : List ByteArray) (t : Int) : List Int × Int :=
  if isTk V.tokens t = true then (bytesI (tk V.tokens t.toNat), 0)
  else match spBy V.specials t with
    | none => ([], 3)
    | some s => match nameAt N s.name with
      | some k => ([256 + (k : Int)], 0)
      | none => ([], 4)

/-- Tokens' symbols, one behind the other, and the error. -/
def decTo (V : Vc) (N : List ByteArray) : List Int → List Int × Int
  | [] => ([], 0)
  | t :: l => if (symsOf V N t).2 = 0 then (if (decTo V N l).2 = 0 then ((symsOf V N t).1 ++ (decTo V N l).1, 0) else ([], (decTo V N l).2)) else ([], (symsOf V N t).2)

end Go.Proofs.YtimkkkdabmhedaaGreatDoor

namespace Go.Proofs.YtimkkkdabmhedaaGreatDoor
open Go.ChangeShapes Go.WideShapes Go.ChangeAt Go.RowKit Go.Joins Go.Deep
set_option linter.unusedVariables false

/-- An int64. -/
def I64 (x : Int) : Prop := -9223372036854775808 ≤ x ∧ x ≤ 9223372036854775807

theorem I64.of_wf {x : Int} (h : (Lit.int .i64 x).wf = true) : I64 x := by
  simp [Lit.wf, IntKind.min, IntKind.max, IntKind.signed, IntKind.bits] at h
  exact h

section
variable {H : Type} {enc : TypeId × Value → H} {P : Program} {W : World} {held : Bool}

theorem sli_of_trod {t e : TypeId} {fuel : Nat} {v : Value} {y : DataW H × List MemPlace} (ht : P.underlying t = some (.slice e)) (he : P.underlying e = some (.int .i64)) (hc : P.cellsOf e = 1)
    (h : DataW.trod enc P W 0 (fun _ => true) held fuel t [v] = some y) : ∃ ao n c A, v = .slice ao n c ∧ SlI W ao n c A ∧ ∀ x ∈ A, I64 x := by
  rcases open_ints ht he hc h with ⟨hcs, _⟩ | ⟨a, len, cap, zs, hcs, _, hl, hm, hz, _, hcell, hwz⟩
  · simp at hcs
    subst hcs
    exact ⟨none, 0, 0, [], rfl, Sl.none, by simp⟩
  · simp at hcs
    subst hcs
    have hz' : zs.length = cap := by simpa using hz
    refine ⟨some a, len, cap, zs.take len, rfl, ⟨by simp; omega, hl, hm, by simp, fun i u hu => ?_⟩, fun x hx => I64.of_wf (hwz x (List.mem_of_mem_take hx))⟩
    obtain ⟨b, o, sp⟩ := a
    have hi : i < len := by have := (List.getElem?_eq_some_iff.1 hu).1; simp at this; omega
    have h0 := hcell i (by omega)
    have hsp : sp = none ∨ i ≠ 0 := by
      rcases Nat.eq_zero_or_pos i with rfl | hp
      · left
        simpa [Addr.add] using World.cell?_spot h0
      · right; omega
    have hsp0 : sp = none := by
      have h00 := hcell 0 (by omega)
      simpa [Addr.add] using World.cell?_spot h00
    subst hsp0
    refine ⟨b, o, rfl, ?_⟩
    rw [Addr.add_lit] at h0
    rw [h0]
    rw [List.getElem?_map, List.getElem?_take, if_pos hi] at hu
    simp only [List.getD, Option.some.injEq]
    rw [List.getElem?_eq_getElem (by omega)] at hu ⊢
    simpa using hu

theorem sli_open {t e : TypeId} {v : Value} {d : DataW H} {p : List MemPlace} (ht : P.underlying t = some (.slice e)) (he : P.underlying e = some (.int .i64)) (hc : P.cellsOf e = 1)
    {r : Reach} {b0 : Nat} (hv : Value.okWide P W r b0 t v) (h : DataW.Trod enc P W 0 (fun _ => true) held t v d p) : ∃ ao n c A, v = .slice ao n c ∧ SlI W ao n c A ∧ ∀ x ∈ A, I64 x := by
  obtain ⟨a, n, c, rfl⟩ := okWide_slice ht hv
  obtain ⟨fuel, hf⟩ := h
  exact sli_of_trod ht he hc (by simpa [Value.cells] using hf)

end

theorem cellsInt : Tryz.prog.cellsOf 3 = 1 := by kernel_rfl


end Go.Proofs.YtimkkkdabmhedaaGreatDoor

namespace Go.Proofs.YtimkkkdabmhedaaGreatDoor
open Go.RowKit
set_option linter.unusedVariables false

theorem SlF.strs {w : World} {ao : Option Addr} {n c : Nat} {T : List ByteArray} (h : SlF 1 w ao n c (Go.Proofs.YtimkkkdabmhedaaGreatDoor.flat encS T)) : SlS w ao n c T :=
  ⟨by have := h.count encS_len (by omega); rw [List.length_map]; exact this, h.le, h.max, h.nil, fun i u hu => by rw [← flat_encS] at hu; exact h.at_ i u hu⟩

end Go.Proofs.YtimkkkdabmhedaaGreatDoor

namespace Go.Proofs.YtimkkkdabmhedaaGreatDoor
open Go.RowKit
set_option linter.unusedVariables false

set_option maxHeartbeats 400000 in
theorem nameF_calls (x : Sp) {g : Nat} {id : Int} (w : World) (hg : w.cell? ⟨g, 0, none⟩ = some (.int .i64 id)) :
    Calls Tryz.prog 95 #[.agg #[.string x.name, .int .i64 x.id], .pointer (some ⟨g, 0, none⟩)] w fun e w' => e = .returned (.bool (decide (x.id = id))) ∧ Below w.heap.size w w' := by
  have hc := cell_below (below_alloc w (.cells #[.string x.name, .int .i64 x.id] 58)) _ _ hg
  by_cases h : x.id = id
  · have HF : Hid (decide (x.id = id) = true) := Lib.hid (by simp [h])
    have he : (x.id == id) = true := by simpa using h
    clear h
    go_enter Tryz.func95, Tryz.ntmps95
    go_wp2
    go_ret
    exact ⟨by rw [HF.out]; rfl, below_alloc w _⟩
  · have HF : Hid (decide (x.id = id) = false) := Lib.hid (by simp [h])
    have he : (x.id == id) = false := by simpa using h
    clear h
    go_enter Tryz.func95, Tryz.ntmps95
    go_wp2
    go_ret
    exact ⟨by rw [HF.out]; rfl, below_alloc w _⟩

set_option maxHeartbeats 1000000 in
theorem nameI_calls {S : List Sp} {so : Option Addr} {sn sc g : Nat} {id : Int} (w : World) (hS : SlF 2 w so sn sc (flat Sp.enc S)) (hg : w.cell? ⟨g, 0, none⟩ = some (.int .i64 id)) :
    Calls Tryz.prog 80 #[.slice so sn sc, .func (.func 95) #[] #[.pointer (some ⟨g, 0, none⟩)]] w fun e w' => e = .returned (.int .i64 (ixOf (S.findIdx? (fun x => decide (x.id = id))))) ∧ Below w.heap.size w w' := by
  have hm := Nat.le_trans hS.le hS.max
  unfold maxLen at hm
  have HLS := Lib.hid (hS.count Sp.enc_len (by omega))
  have HS := Lib.hid hS
  have HG := Lib.hid hg
  clear hS hg
  go_enter Tryz.func80, Tryz.ntmps80
  go_wp2_with (fail)
  go_loopw [5, 8] (fun _ i wr => ∃ k : Nat, k ≤ sn ∧ i = .int .i64 k ∧ Hid (∀ j, j < k → (fun x : Sp => decide (x.id = id)) (sp S j) = false) ∧ Below w.heap.size w wr) (fun _ i _ => sn - (intOf i).toNat)
  case atStart => exact ⟨0, Nat.zero_le _, rfl, Lib.hid (fun j h => by omega), Below.refl _ _⟩
  case round =>
    obtain ⟨k, hk, rfl, HK, hb⟩ := hrel
    have HB := Lib.hid hb
    clear hb
    by_cases hlt : k < sn
    · have hkS : k < S.length := by have := HLS.out; omega
      obtain ⟨b, of, rfl, hce⟩ := (HS.out.below HB.out).elem Sp.enc_len (by omega) (sp_eq hkS)
      have d0 := hce 0 _ rfl
      have d1 := hce 1 _ rfl
      rw [Nat.add_zero] at d0
      clear hce
      have hcl := nameF_calls (sp S k) (id := id) wr (cell_below HB.out _ _ HG.out)
      obtain ⟨bv, hbv⟩ : ∃ bv, (fun x : Sp => decide (x.id = id)) (sp S k) = bv := ⟨_, rfl⟩
      have hbv' := hbv
      simp only at hbv'
      rw [hbv'] at hcl
      clear hbv'
      go_wp2_with (fail)
      refine hcl.mono ?_
      rintro e w2 ⟨rfl, hb2⟩
      have HB2 := Lib.hid (HB.out.trans (hb2.mono HB.out.size))
      cases bv with
      | true =>
        have HF := Lib.hid (ix_hit (p := fun x => decide (x.id = id)) hkS hbv HK.out)
        clear hbv
        go_wp2_with (fail)
        go_ret
        exact ⟨by rw [HF.out]; rfl, HB2.out⟩
      | false =>
        have HK2 : Hid (∀ j, j < k + 1 → (fun x : Sp => decide (x.id = id)) (sp S j) = false) := Lib.hid (fun j hj => by
          by_cases e : j = k
          · subst e; exact hbv
          · exact HK.out j (by omega))
        clear hbv
        go_wp2_with (fail)
        go_roundw
        case rel => exact ⟨k + 1, by omega, by go_num, HK2, HB2.out⟩
        case measure => simp [intOf]; omega
    · have HF := Lib.hid (ix_miss (p := fun x => decide (x.id = id)) (S := S) (fun j hj => HK.out j (by have := HLS.out; omega)))
      go_wp2_with (fail)
      go_ret
      exact ⟨by rw [HF.out]; rfl, HB.out⟩

set_option maxHeartbeats 1000000 in
theorem name_calls {V : Vc} {dd : Vd} (id : Int) (w : World) (hV : VocR w dd V) :
    Calls Tryz.prog 64 #[dd.val, .int .i64 id] w fun e w' => e = .returned (.tuple #[.string (nmOf (spBy V.specials id)), .bool (spBy V.specials id).isSome]) ∧ Below w.heap.size w w' := by
  obtain ⟨ta, tn, tc, ma, mn, mc, sa, sn, sc⟩ := dd
  obtain ⟨w0, hw0⟩ : ∃ w0, (w.alloc (.cells #[.slice ta tn tc, .slice ma mn mc, .slice sa sn sc] 26)).alloc (.cells #[.int .i64 id] 3) = w0 := ⟨_, rfl⟩
  have hb0 : Below w.heap.size w w0 := hw0 ▸ (below_alloc w _).alloc (by simp) _
  have hs0 : w0.heap.size = w.heap.size + 2 := by rw [← hw0]; simp
  have hx0 : w0.heap[w.heap.size]? = some (.cells #[.slice ta tn tc, .slice ma mn mc, .slice sa sn sc] 26) := by rw [← hw0, (below_alloc _ _).block _ (by simp)]; exact heap_alloc_new w _
  have hx1 : w0.heap[w.heap.size + 1]? = some (.cells #[.int .i64 id] 3) := by
    rw [← hw0]
    have := heap_alloc_new (w.alloc (.cells #[.slice ta tn tc, .slice ma mn mc, .slice sa sn sc] 26)) (.cells #[.int .i64 id] 3)
    simpa using this
  obtain ⟨c0, c1, c2⟩ := box3v hx0
  have HV := Lib.hid (hV.below hb0)
  have HB0 := Lib.hid hb0
  have HW0 := Lib.hid hw0
  have HX0 := Lib.hid hx0
  have hnl := hV.spc.count Sp.enc_len (by omega)
  simp only at hnl
  have HNL := Lib.hid hnl
  have hm := Nat.le_trans hV.spc.le hV.spc.max
  simp only at hm
  unfold maxLen at hm
  have hI := nameI_calls (id := id) (g := w.heap.size + 1) w0 HV.out.spc (by simp [World.cell?, hx1])
  clear hV hb0 hx0 hx1 hw0 hnl
  go_enter Tryz.func64, Tryz.ntmps64
  go_wp2_with (fail)
  rw [HW0.out]
  refine hI.mono ?_
  rintro e w1 ⟨rfl, hb1⟩
  have HB1 := Lib.hid (HB0.out.trans (hb1.mono HB0.out.size))
  have HV1 := Lib.hid (HV.out.below hb1)
  clear c0 c1 c2
  obtain ⟨c0, c1, c2⟩ := box3v ((hb1.block w.heap.size (by omega)).trans HX0.out)
  clear hb1 hI
  rcases find_cases V.specials (fun x => decide (x.id = id)) with ⟨e1, e2⟩ | ⟨i, hi, e1, e2⟩
  · rw [e1]
    simp only [ixOf]
    have HE : Hid (spBy V.specials id = none) := Lib.hid e2
    clear e1 e2
    go_wp2
    refine bodyPost_ret (v := .tuple #[.string ByteArray.empty, .bool false]) ?_ rfl ⟨by rw [HE.out]; rfl, HB1.out⟩
    simp [results, Tryz.results64, go_sem]; try rfl
  · rw [e1]
    simp only [ixOf]
    have HE : Hid (spBy V.specials id = some (sp V.specials i)) := Lib.hid e2
    have hin : i < sn := by have := HNL.out; omega
    obtain ⟨b, of, hao, hce⟩ := HV1.out.spc.elem Sp.enc_len (by omega) (sp_eq hi)
    simp only at hao
    subst hao
    have d0 := hce 0 _ rfl
    have d1 := hce 1 _ rfl
    rw [Nat.add_zero] at d0
    have hng : ¬ (i : Int) < 0 := by omega
    clear e1 e2 hce hi
    go_wp2
    refine bodyPost_ret (v := .tuple #[.string (sp V.specials i).name, .bool true]) ?_ rfl ⟨by rw [HE.out]; rfl, HB1.out⟩
    simp [results, Tryz.results64, go_sem]

/-- A token's bytes, as the program tells them. -/
def bytesOf (T : List ByteArray) (i : Int) : ByteArray := if isTk T i = true then tk T i.toNat else ByteArray.empty
set_option maxHeartbeats 1000000 in
theorem vbytes_calls {V : Vc} {dd : Vd} (id : Int) (w : World) (hV : VocR w dd V) :
    Calls Tryz.prog 63 #[dd.val, .int .i64 id] w fun e w' => e = .returned (.tuple #[.string (bytesOf V.tokens id), .bool (isTk V.tokens id)]) ∧ Below w.heap.size w w' := by
  obtain ⟨ta, tn, tc, ma, mn, mc, sa, sn, sc⟩ := dd
  obtain ⟨w0, hw0⟩ : ∃ w0, w.alloc (.cells #[.slice ta tn tc, .slice ma mn mc, .slice sa sn sc] 26) = w0 := ⟨_, rfl⟩
  have hb0 : Below w.heap.size w w0 := hw0 ▸ below_alloc w _
  have hx0 : w0.heap[w.heap.size]? = some (.cells #[.slice ta tn tc, .slice ma mn mc, .slice sa sn sc] 26) := by rw [← hw0]; exact heap_alloc_new w _
  obtain ⟨c0, c1, c2⟩ := box3v hx0
  have HV := Lib.hid (hV.below hb0)
  have HB0 := Lib.hid hb0
  have HW0 := Lib.hid hw0
  have HL := Lib.hid HV.out.tok.count
  clear hV hb0 hx0 hw0
  have hI := is_calls (T := V.tokens) id w0 HV.out.tok
  go_enter Tryz.func63, Tryz.ntmps63
  go_wp2_with (fail)
  rw [HW0.out]
  refine hI.mono ?_
  rintro e w1 ⟨rfl, rfl⟩
  cases hi : isTk V.tokens id with
  | false =>
    have HF : Hid (bytesOf V.tokens id = ByteArray.empty ∧ isTk V.tokens id = false) := Lib.hid ⟨by unfold bytesOf; rw [hi]; rfl, hi⟩
    clear hi hI
    go_wp2
    refine bodyPost_ret (v := .tuple #[.string ByteArray.empty, .bool false]) ?_ rfl ⟨by rw [HF.out.1, HF.out.2], HB0.out⟩
    simp [results, Tryz.results63, go_sem]; try rfl
  | true =>
    have HF : Hid (bytesOf V.tokens id = tk V.tokens id.toNat ∧ isTk V.tokens id = true) := Lib.hid ⟨by unfold bytesOf; rw [if_pos hi], hi⟩
    obtain ⟨h1, h2, _⟩ := isTk_iff.1 hi
    clear hi hI
    obtain ⟨k, rfl⟩ := Int.eq_ofNat_of_zero_le h1
    have hk : k < V.tokens.length := by omega
    have hkn : k < tn := by have := HL.out; omega
    obtain ⟨b, o, hao, hc⟩ := HV.out.tok.cell (tk_eq hk)
    simp only at hao
    subst hao
    clear h2 hk
    go_wp2
    refine bodyPost_ret (v := .tuple #[.string (tk V.tokens k), .bool true]) ?_ rfl ⟨by rw [HF.out.1, HF.out.2]; rfl, HB0.out⟩
    simp [results, Tryz.results63, go_sem]

end Go.Proofs.YtimkkkdabmhedaaGreatDoor

namespace Go.Proofs.YtimkkkdabmhedaaGreatDoor
open Go.RowKit
set_option linter.unusedVariables false

set_option maxHeartbeats 400000 in
theorem nanC_calls (x : ByteArray) (w : World) : Calls Tryz.prog 131 #[.string x] w fun e w' => e = .returned (.bool false) ∧ w = w' := by
  go_enter Tryz.func131, Tryz.ntmps131
  go_wp2
  go_ret
  exact ⟨by simp, rfl⟩
set_option maxHeartbeats 400000 in
theorem nanS_calls (x : ByteArray) (w : World) : Calls Tryz.prog 97 #[.string x] w fun e w' => e = .returned (.bool false) ∧ w = w' := by
  go_enter Tryz.func97, Tryz.ntmps97
  go_wp2
  go_ret
  exact ⟨by simp, rfl⟩
set_option maxHeartbeats 400000 in
theorem lessS_calls (x y : ByteArray) (w : World) : Calls Tryz.prog 96 #[.string x, .string y] w fun e w' => e = .returned (.bool (sless x y)) ∧ w = w' := by
  go_enter Tryz.func96, Tryz.ntmps96
  go_wp2_with (go_at_call 131; refine (nanC_calls _ _).mono ?_; rintro e w' ⟨rfl, rfl⟩)
  go_ret
  exact ⟨rfl, rfl⟩

set_option maxHeartbeats 1000000 in
set_option maxRecDepth 100000 in
theorem binS_calls {N : List ByteArray} {no : Option Addr} {nn nc : Nat} (x : ByteArray) (w : World) (hN : SlS w no nn nc N) {k0 : Nat} (hk : k0 ≤ N.length) (hbig : nn ≤ 1048576)
    (h1 : ∀ t, t < k0 → sless (tk N t) x = true) (h2 : ∀ t, k0 ≤ t → t < N.length → sless (tk N t) x = false) {bb : Bool} (hbb : bb = true ↔ (k0 < N.length ∧ tk N k0 = x)) :
    Calls Tryz.prog 65 #[.slice no nn nc, .string x] w fun e w' => e = .returned (.tuple #[.int .i64 (k0 : Int), .bool bb]) ∧ Below w.heap.size w w' := by
  have HL := Lib.hid hN.count
  have HN := Lib.hid hN
  have H1 := Lib.hid h1
  have H2 := Lib.hid h2
  have HK := Lib.hid hk
  have HBB := Lib.hid hbb
  clear hN h1 h2 hk hbb
  go_enter Tryz.func65, Tryz.ntmps65
  go_wp2_with (fail)
  go_loopw [7, 8] (fun a b wr => ∃ lo hi : Nat, a = .int .i64 lo ∧ b = .int .i64 hi ∧ Hid (lo ≤ k0) ∧ Hid (k0 ≤ hi) ∧ lo ≤ hi ∧ hi ≤ nn ∧ Below w.heap.size w wr) (fun a b _ => (intOf b).toNat - (intOf a).toNat)
  case atStart => exact ⟨0, nn, rfl, rfl, Lib.hid (by omega), Lib.hid (by have := HK.out; have := HL.out; omega), by omega, by omega, Below.refl _ _⟩
  case round =>
    obtain ⟨lo, hi, rfl, rfl, Hlo, Hhi, hlh, hhn, hb⟩ := hrel
    by_cases hlt : lo < hi
    · obtain ⟨m, hm⟩ : ∃ m, (lo + hi) / 2 = m := ⟨_, rfl⟩
      have hmN : m < N.length := by have := HL.out; omega
      obtain ⟨b, o, hao, hc⟩ := SlS.cell (Sl.below HN.out hb) (tk_eq hmN)
      subst hao
      have HM : Hid ((lo + hi) / 2 = m) := Lib.hid hm
      rw [← hm] at hc
      have HB := Lib.hid hb
      obtain ⟨y, hy⟩ : ∃ y, tk N ((lo + hi) / 2) = y := ⟨_, rfl⟩
      rw [hy] at hc
      have HY := Lib.hid hy
      have hmlt : (lo + hi) / 2 < nn := by omega
      clear hm hy hb hmN
      cases hyx : sless y x with
      | false =>
        have HMH : Hid (k0 ≤ (lo + hi) / 2) := Lib.hid (by
          rcases Nat.lt_or_ge ((lo + hi) / 2) k0 with h | h
          · have := H1.out _ h
            rw [HY.out, hyx] at this; cases this
          · exact h)
        go_wp2_with (first
          | (go_at_call 96; refine (lessS_calls _ _ _).mono ?_; rintro e w' ⟨rfl, rfl⟩))
        go_roundw
        case rel => exact ⟨lo, (lo + hi) / 2, rfl, by rw [show ((lo : Int) + (hi : Int)) / 2 = (((lo + hi) / 2 : Nat) : Int) by omega], Hlo, HMH, by omega, by omega, HB.out⟩
        case measure => simp [intOf]; omega
      | true =>
        have HMH : Hid ((lo + hi) / 2 + 1 ≤ k0) := Lib.hid (by
          rcases Nat.lt_or_ge ((lo + hi) / 2) k0 with h | h
          · exact h
          · have := H2.out _ h (by have := HL.out; omega)
            rw [HY.out, hyx] at this; cases this)
        go_wp2_with (first
          | (go_at_call 96; refine (lessS_calls _ _ _).mono ?_; rintro e w' ⟨rfl, rfl⟩))
        go_roundw
        case rel => exact ⟨(lo + hi) / 2 + 1, hi, by rw [show ((lo : Int) + (hi : Int)) / 2 + 1 = (((lo + hi) / 2 + 1 : Nat) : Int) by omega], rfl, HMH, Hhi, by omega, by omega, HB.out⟩
        case measure => simp [intOf]; omega
    · have hE : lo = k0 ∧ hi = k0 := by have := Hlo.out; have := Hhi.out; omega
      obtain ⟨hlo, hhi⟩ := hE
      obtain rfl : hi = lo := by omega
      subst hlo
      have HB := Lib.hid hb
      by_cases hn : hi < nn
      · have hmN : hi < N.length := by have := HL.out; omega
        obtain ⟨b, o, hao, hc⟩ := SlS.cell (Sl.below HN.out hb) (tk_eq hmN)
        subst hao
        obtain ⟨y, hy⟩ : ∃ y, tk N hi = y := ⟨_, rfl⟩
        rw [hy] at hc
        have HY := Lib.hid hy
        have HMN := Lib.hid hmN
        clear hy hb hmN
        by_cases hyx : y = x
        · have hb2 := beqS_yes hyx
          obtain rfl : bb = true := HBB.out.2 ⟨HMN.out, by rw [HY.out]; exact hyx⟩
          clear hyx
          go_wp2_with (first
            | (go_at_call 97; refine (nanS_calls _ _).mono ?_; rintro e w' ⟨rfl, rfl⟩))
          refine bodyPost_ret (v := .tuple #[.int .i64 hi, .bool true]) ?_ rfl ⟨rfl, HB.out⟩
          simp [results, Tryz.results65, go_sem]
        · have hb2 := beqS_no hyx
          obtain rfl : bb = false := by
            cases bb with
            | false => rfl
            | true => exact absurd (HBB.out.1 rfl).2 (by rw [HY.out]; exact hyx)
          clear hyx
          go_wp2_with (first
            | (go_at_call 97; refine (nanS_calls _ _).mono ?_; rintro e w' ⟨rfl, rfl⟩))
          refine bodyPost_ret (v := .tuple #[.int .i64 hi, .bool false]) ?_ rfl ⟨rfl, HB.out⟩
          simp [results, Tryz.results65, go_sem]
      · obtain rfl : bb = false := by
          cases bb with
          | false => rfl
          | true => exact absurd (HBB.out.1 rfl).1 (by have := HL.out; omega)
        go_wp2_with (first
          | (go_at_call 97; refine (nanS_calls _ _).mono ?_; rintro e w' ⟨rfl, rfl⟩))
        refine bodyPost_ret (v := .tuple #[.int .i64 hi, .bool false]) ?_ rfl ⟨rfl, HB.out⟩
        simp [results, Tryz.results65, go_sem]

/-- Of rising names: where one stands. -/
theorem names_cut {N : List ByteArray} (h : MayNames N) (x : ByteArray) : ∃ k0, k0 ≤ N.length ∧ (∀ t, t < k0 → sless (tk N t) x = true) ∧ (∀ t, k0 ≤ t → t < N.length → sless (tk N t) x = false) ∧
    ((k0 < N.length ∧ tk N k0 = x ∧ nameAt N x = some k0) ∨ (¬ (k0 < N.length ∧ tk N k0 = x) ∧ nameAt N x = none)) := by
  have hp : ∀ i j, i < j → j < N.length → sless (tk N i) (tk N j) = true := fun i j hij hj => by
    have h1 := List.pairwise_iff_getElem.1 h.2.2 i j (by omega) hj hij
    have e1 : N[i]'(by omega) = tk N i := by simp [tk, List.getD, show i < N.length by omega]
    have e2 : N[j] = tk N j := by simp [tk, List.getD, hj]
    rwa [e1, e2] at h1
  have key : ∃ k0, k0 ≤ N.length ∧ (∀ t, t < k0 → sless (tk N t) x = true) ∧ (∀ t, k0 ≤ t → t < N.length → sless (tk N t) x = false) := by
    have : ∀ d, d ≤ N.length → ∃ k0, k0 ≤ d ∧ (∀ t, t < k0 → sless (tk N t) x = true) ∧ (∀ t, k0 ≤ t → t < d → sless (tk N t) x = false) := by
      intro d
      induction d with
      | zero => intro _; exact ⟨0, by omega, fun t h => by omega, fun t h1 h2 => by omega⟩
      | succ d ih =>
        intro hd
        obtain ⟨k0, a, b, c⟩ := ih (by omega)
        by_cases hk : k0 = d
        · cases hs : sless (tk N d) x with
          | true =>
            refine ⟨d + 1, by omega, fun t ht => ?_, fun t h1 h2 => by omega⟩
            by_cases e : t = d
            · subst e; exact hs
            · exact b t (by omega)
          | false =>
            refine ⟨d, by omega, fun t ht => b t (by omega), fun t h1 h2 => ?_⟩
            have : t = d := by omega
            subst this; exact hs
        · refine ⟨k0, by omega, b, fun t h1 h2 => ?_⟩
          by_cases e : t = d
          · subst e
            have h3 := c k0 (Nat.le_refl _) (by omega)
            cases hs : sless (tk N t) x with
            | false => rfl
            | true =>
              have := sless_trans (hp k0 t (by omega) (by omega)) hs
              rw [h3] at this; cases this
          · exact c t h1 (by omega)
    exact this _ (Nat.le_refl _)
  obtain ⟨k0, a, b, c⟩ := key
  refine ⟨k0, a, b, c, ?_⟩
  by_cases hx : k0 < N.length ∧ tk N k0 = x
  · exact .inl ⟨hx.1, hx.2, nameAt_some hx.1 hx.2 fun j hj e => by
      have := b j hj
      rw [e, sless_irrefl] at this; cases this⟩
  · refine .inr ⟨hx, nameAt_none fun j hj e => ?_⟩
    rcases Nat.lt_trichotomy j k0 with h1 | h1 | h1
    · have := b j h1
      rw [e, sless_irrefl] at this; cases this
    · subst h1; exact hx ⟨hj, e⟩
    · have h2 := c k0 (Nat.le_refl _) (by omega)
      have h3 := hp k0 j h1 hj
      rw [e, h2] at h3; cases h3

end Go.Proofs.YtimkkkdabmhedaaGreatDoor

namespace Go.Proofs.YtimkkkdabmhedaaGreatDoor
open Go.RowKit
set_option linter.unusedVariables false

def SymPost (V : Vc) (N : List ByteArray) (t : Int) (w : World) (e : Ending) (w' : World) : Prop :=
  (∃ v, e = .returned (.tuple #[v, .int .i64 (symsOf V N t).2]) ∧ Own w' w.heap.size v (symsOf V N t).1) ∧ Below w.heap.size w w'
theorem symsOf_yes {V : Vc} {N : List ByteArray} {t : Int} (h : isTk V.tokens t = true) : symsOf V N t = (bytesI (tk V.tokens t.toNat), 0) := by
  unfold symsOf; rw [if_pos h]
theorem symsOf_none {V : Vc} {N : List ByteArray} {t : Int} (h : isTk V.tokens t = false) (h2 : spBy V.specials t = none) : symsOf V N t = ([], 3) := by
  unfold symsOf; rw [h, h2]; simp
theorem symsOf_at {V : Vc} {N : List ByteArray} {t : Int} (h : isTk V.tokens t = false) {s : Sp} (h2 : spBy V.specials t = some s) {k : Nat} (h3 : nameAt N s.name = some k) : symsOf V N t = ([256 + (k : Int)], 0) := by
  unfold symsOf; rw [h, h2]; simp only [h3]; simp
theorem symsOf_un {V : Vc} {N : List ByteArray} {t : Int} (h : isTk V.tokens t = false) {s : Sp} (h2 : spBy V.specials t = some s) (h3 : nameAt N s.name = none) : symsOf V N t = ([], 4) := by
  unfold symsOf; rw [h, h2]; simp only [h3]; simp

set_option maxHeartbeats 1000000 in
set_option maxRecDepth 100000 in
theorem symbols_calls {V : Vc} {N : List ByteArray} {kind : Int} {T : List Rg} {base g cb : Nat} (t : Int) (w : World) (hC : TCod w base g V N kind T cb) (hT : ∀ s ∈ V.tokens, s.size ≤ 64) (hN : MayNames N) :
    Calls Tryz.prog 23 #[.pointer (some ⟨g, 0, none⟩), .int .i64 t] w (SymPost V N t w) := by
  obtain ⟨hlo, ta, tc, sa, sc, na, nc, ma, mc, oa, oc, eg, hx, hot, hos, hon, _⟩ := hC
  obtain ⟨i0, hi, hz0, hz1, hz2⟩ := info_parts infoInt3
  obtain ⟨_, _, e1, hst⟩ := hot.sl
  simp only [Value.slice.injEq] at e1
  obtain ⟨rfl, _, rfl⟩ := e1
  obtain ⟨_, _, e1, hss⟩ := hos.sl
  simp only [Value.slice.injEq] at e1
  obtain ⟨rfl, _, rfl⟩ := e1
  obtain ⟨_, _, e1, hsn⟩ := hon.sl
  simp only [Value.slice.injEq] at e1
  obtain ⟨rfl, _, rfl⟩ := e1
  have hV : VocR w ⟨ta, V.tokens.length, tc, none, 0, 0, sa, V.specials.length, sc⟩ ⟨V.tokens, [], V.specials⟩ := ⟨SlF.strs hst, SlF.nothing _, hss⟩
  have hvb := vbytes_calls (dd := ⟨ta, V.tokens.length, tc, none, 0, 0, sa, V.specials.length, sc⟩) t w hV
  have HV := Lib.hid hV
  have HX := Lib.hid hx
  have HNN := Lib.hid (SlF.strs hsn)
  have HMN := Lib.hid hN
  have hg : g < w.heap.size := (Array.getElem?_eq_some_iff.1 hx).1
  obtain ⟨c0, c1, c2, c3, c4, c5, c6, c7, c8, cf⟩ := box9 hx
  have HT := Lib.hid hT
  clear hx hot hos hon hst hss hsn hV hT hN
  go_enter Tryz.func23, Tryz.ntmps23
  go_wp2_with (fail)
  refine hvb.mono ?_
  rintro e w1 ⟨rfl, hb1⟩
  have HB1 := Lib.hid hb1
  cases htk : isTk V.tokens t with
  | true =>
    have HSY := Lib.hid (symsOf_yes (N := N) htk)
    obtain ⟨s, hs⟩ : ∃ s, tk V.tokens t.toNat = s := ⟨_, rfl⟩
    have hbo : bytesOf V.tokens t = s := by unfold bytesOf; rw [if_pos htk, hs]
    have hsz : s.size ≤ 64 := by
      obtain ⟨a1, a2, _⟩ := isTk_iff.1 htk
      rw [← hs]
      exact HT.out _ (tk_mem (by omega))
    rw [hs] at HSY
    simp only [hbo]
    clear hb1 hvb hs hbo htk c0 c1 c2 c3 c4 c5 c6 c7 c8 cf
    go_wp2_with (fail)
    go_loopw [8, 27] (fun v i wr => ∃ k : Nat, k ≤ s.size ∧ i = .int .i64 k ∧ Own wr w.heap.size v ((bytesI s).take k) ∧ Below w.heap.size w wr) (fun _ i _ => s.size - (intOf i).toNat)
    case atStart => exact ⟨0, Nat.zero_le _, rfl, by simpa using Own.nil w1 w.heap.size, HB1.out⟩
    case round =>
      obtain ⟨k, hk, rfl, ho, hb⟩ := hrel
      have HO := Lib.hid ho
      have HB := Lib.hid hb
      clear ho hb
      by_cases hlt : k < s.size
      · have HK := Lib.hid (bytesI_succ hlt)
        have HL : Hid (((bytesI s).take k).length = k) := Lib.hid (by rw [List.length_take, bytesI_len]; omega)
        obtain ⟨x, hxx⟩ : ∃ x : Int, (s[k].toNat : Int) = x := ⟨_, rfl⟩
        have HS1 : Hid (SlI (wr.alloc (.cells #[.int .i64 x] 3)) (some ⟨wr.heap.size, 0, none⟩) 1 1 [x]) := Lib.hid (SlI.one wr x _)
        have HO1 : Hid (Own (wr.alloc (.cells #[.int .i64 x] 3)) w.heap.size u8 ((bytesI s).take k)) := Lib.hid (HO.out.alloc _)
        have HSZ : Hid (w.heap.size ≤ wr.heap.size) := Lib.hid HB.out.size
        rw [hxx] at HK
        have hx8 := s[k].toNat_lt
        have hwx : wrap64 x = x := by rw [← hxx]; unfold wrap64; omega
        go_wp2_with (at_builtin; go_loud (refine wpList_int_app rfl _ _ 43 rfl i0 Tryz.underlying43 hi hz0 hz1 hz2 rfl HO1.out rfl HS1.out (by have := HL.out; omega) (by have := HSZ.out; simp; omega) ?_))
        intro v1 w2 ho2 hg2 hb2
        rw [← HK.out] at ho2
        have HO2 := Lib.hid ho2
        have HB2 := Lib.hid ((HB.out.alloc HB.out.size _).trans hb2)
        clear ho2 hg2 hb2
        go_wp2_with (fail)
        go_roundw
        case rel => exact ⟨k + 1, by omega, by go_num, HO2.out, HB2.out⟩
        case measure => simp [intOf]; omega
      · obtain rfl : k = s.size := by omega
        have HO2 := HO.out
        rw [List.take_of_length_le (by rw [bytesI_len]; exact Nat.le_refl _)] at HO2
        have HO3 := Lib.hid HO2
        clear HO2
        go_wp2_with (fail)
        refine bodyPost_ret (v := .tuple #[u8, .int .i64 0]) ?_ rfl ⟨⟨u8, by rw [HSY.out], by rw [HSY.out]; exact HO3.out⟩, HB.out⟩
        simp [results, Tryz.results23, go_sem]
  | false =>
  have hbo : bytesOf V.tokens t = ByteArray.empty := by unfold bytesOf; rw [htk]; rfl
  have hnm := name_calls (dd := ⟨ta, V.tokens.length, tc, none, 0, 0, sa, V.specials.length, sc⟩) t w1 (HV.out.below hb1)
  simp only [hbo]
  have HTK := Lib.hid htk
  clear hb1 hvb hbo htk c0 c1 c2 c3 c4 c5 c6 c7 c8 cf
  obtain ⟨c0, c1, c2, c3, c4, c5, c6, c7, c8, cf⟩ := box9 ((HB1.out.block g hg).trans HX.out)
  go_wp2_with (fail)
  refine hnm.mono ?_
  rintro e w2 ⟨rfl, hb2⟩
  have HB2 := Lib.hid (HB1.out.trans (hb2.mono HB1.out.size))
  cases hsp : spBy V.specials t with
  | none =>
    have HSY := Lib.hid (symsOf_none (N := N) HTK.out hsp)
    simp only [nmOf, Option.isSome_none]
    clear hb2 hnm hsp
    go_wp2_with (fail)
    refine bodyPost_ret (v := .tuple #[.slice none 0 0, .int .i64 3]) ?_ rfl ⟨⟨_, by rw [HSY.out], by rw [HSY.out]; exact Own.nil _ _⟩, HB2.out⟩
    simp [results, Tryz.results23, go_sem]
  | some s =>
  simp only [nmOf, Option.isSome_some]
  obtain ⟨k0, q1, q2, q3, q4⟩ := names_cut HMN.out s.name
  have HSP := Lib.hid hsp
  clear hb2 hnm c0 c1 c2 c3 c4 c5 c6 c7 c8 cf
  obtain ⟨c0, c1, c2, c3, c4, c5, c6, c7, c8, cf⟩ := box9 ((HB2.out.block g hg).trans HX.out)
  rcases q4 with ⟨r1, r2, r3⟩ | ⟨r1, r3⟩
  · have hbs := binS_calls s.name w2 (Sl.below HNN.out HB2.out) q1 (by have := HMN.out.1; omega) q2 q3 (bb := true) (by simp [r1, r2])
    have HSY := Lib.hid (symsOf_at HTK.out hsp r3)
    have HK0 : Hid ((k0 : Int) < 16) := Lib.hid (by have := HMN.out.1; omega)
    clear q1 q2 q3 r1 r2 r3 hsp
    go_wp2_with (fail)
    refine hbs.mono ?_
    rintro e w3 ⟨rfl, hb3⟩
    have HB3 := Lib.hid (HB2.out.trans (hb3.mono HB2.out.size))
    have hk0 := HK0.out
    have hwr : IntKind.i64.wrap (256 + (k0 : Int)) = 256 + (k0 : Int) := by rw [IntKind.wrap_i64]; omega
    clear hb3 hbs
    go_wp2_with (fail)
    refine bodyPost_ret (v := .tuple #[.slice (some ⟨w3.heap.size, 0, none⟩) 1 1, .int .i64 0]) ?_ rfl ⟨⟨_, by rw [HSY.out], by rw [HSY.out]; exact Own.mono (own_one w3 _) HB3.out.size⟩, HB3.out.alloc HB3.out.size _⟩
    simp [results, Tryz.results23, go_sem]
  · have hbs := binS_calls s.name w2 (Sl.below HNN.out HB2.out) q1 (by have := HMN.out.1; omega) q2 q3 (bb := false) ⟨(fun h => by cases h), (fun h => absurd h r1)⟩
    have HSY := Lib.hid (symsOf_un HTK.out hsp r3)
    clear q1 q2 q3 r1 r3 hsp
    go_wp2_with (fail)
    refine hbs.mono ?_
    rintro e w3 ⟨rfl, hb3⟩
    have HB3 := Lib.hid (HB2.out.trans (hb3.mono HB2.out.size))
    clear hb3 hbs
    go_wp2_with (fail)
    refine bodyPost_ret (v := .tuple #[.slice none 0 0, .int .i64 4]) ?_ rfl ⟨⟨_, by rw [HSY.out], by rw [HSY.out]; exact Own.nil _ _⟩, HB3.out⟩
    simp [results, Tryz.results23, go_sem]

end Go.Proofs.YtimkkkdabmhedaaGreatDoor

namespace Go.Proofs.YtimkkkdabmhedaaGreatDoor
open Go.RowKit
set_option linter.unusedVariables false

theorem spBy_hit {S : List Sp} {t : Int} {k : Nat} (hk : k < S.length) (h : (sp S k).id = t) (hno : ∀ j, j < k → (sp S j).id ≠ t) : spBy S t = some (sp S k) := by
  unfold spBy
  rw [List.find?_eq_some_iff_getElem]
  exact ⟨by simpa using h, k, hk, sp_get hk, fun j hj => by rw [sp_get (by omega)]; simpa using hno j hj⟩
theorem spBy_miss {S : List Sp} {t : Int} (hno : ∀ j, j < S.length → (sp S j).id ≠ t) : spBy S t = none := by
  unfold spBy
  rw [List.find?_eq_none]
  intro x hx
  obtain ⟨j, hj, rfl⟩ := List.getElem_of_mem hx
  rw [sp_get hj]; simpa using hno j hj

set_option maxHeartbeats 2000000 in
set_option maxRecDepth 100000 in
theorem rsymbols_calls {V : Vc} {N : List ByteArray} {dd : Vd} {no to_ : Option Addr} {nn nc tn' tc' : Nat} {kind : Int} (t : Int) (w : World) (hV : VocR w dd V) (hN : SlS w no nn nc N) (hT : ∀ s ∈ V.tokens, s.size ≤ 64) (hnb : nn ≤ 16) (hsb : V.specials.length ≤ 1048576) (htb : V.tokens.length ≤ 1048576) :
    Calls Tryz.prog 39 #[.agg #[.slice dd.ta dd.tn dd.tc, .slice dd.ma dd.mn dd.mc, .slice dd.sa dd.sn dd.sc, .slice no nn nc, .int .i64 kind, .slice to_ tn' tc'], .int .i64 t] w (SymPost V N t w) := by
  obtain ⟨ta, tn, tc, ma, mn, mc, sa, sn, sc⟩ := dd
  obtain ⟨i0, hi, hz0, hz1, hz2⟩ := info_parts infoInt3
  obtain ⟨w0, hw0⟩ : ∃ w0, w.alloc (.cells #[.slice ta tn tc, .slice ma mn mc, .slice sa sn sc, .slice no nn nc, .int .i64 kind, .slice to_ tn' tc'] 37) = w0 := ⟨_, rfl⟩
  have hb0 : Below w.heap.size w w0 := hw0 ▸ below_alloc w _
  have hx0 : w0.heap[w.heap.size]? = some (.cells #[.slice ta tn tc, .slice ma mn mc, .slice sa sn sc, .slice no nn nc, .int .i64 kind, .slice to_ tn' tc'] 37) := by rw [← hw0]; exact heap_alloc_new w _
  have HSZ1 : Hid (w.heap.size < w0.heap.size) := Lib.hid (by rw [← hw0]; simp)
  obtain ⟨b0, b1, b2, b3, b4, b5, bf⟩ := box6 hx0
  have HCT := Lib.hid hV.tok.count
  have HCS := Lib.hid (hV.spc.count Sp.enc_len (by omega))
  have HNL := Lib.hid hN.count
  have HNB := Lib.hid hnb
  have HV := Lib.hid (hV.below hb0)
  have HN := Lib.hid (Sl.below hN hb0)
  have HT := Lib.hid hT
  have HB0 := Lib.hid hb0
  have HX0 := Lib.hid hx0
  have HW0 := Lib.hid hw0
  have hsn : sn ≤ 1048576 := by have := HCS.out; simp only at this; omega
  have htn : tn ≤ 1048576 := by have := HCT.out; simp only at this; omega
  simp only at HCT HCS ⊢
  clear hV hN hb0 hx0 hw0 hsb htb hT
  by_cases h0 : t < 0
  · have HTK : Hid (isTk V.tokens t = false) := Lib.hid (isTk_neg h0)
    go_enter Tryz.func39, Tryz.ntmps39
    go_wp2_with (fail)
    rw [HW0.out]
    go_wp2_with (fail)
    go_loopw [55] (fun i wr => ∃ k : Nat, k ≤ sn ∧ i = .int .i64 k ∧ Hid (∀ j, j < k → (sp V.specials j).id ≠ t) ∧ Below w0.heap.size w0 wr) (fun i _ => sn - (intOf i).toNat)
    case atStart => exact ⟨0, Nat.zero_le _, rfl, Lib.hid (fun j h => by omega), Below.refl _ _⟩
    case round =>
      obtain ⟨k, hk, rfl, HK, hb⟩ := hrel
      have HB := Lib.hid hb
      obtain ⟨b0, b1, b2, b3, b4, b5, bf⟩ := box6 ((hb.block w.heap.size HSZ1.out).trans HX0.out)
      clear hb
      by_cases hlt : k < sn
      · have hkS : k < V.specials.length := by have := HCS.out; omega
        obtain ⟨b, of, hao, hce⟩ := (HV.out.below HB.out).spc.elem Sp.enc_len (by omega) (sp_eq hkS)
        simp only at hao
        subst hao
        obtain ⟨⟨nm, id⟩, hseq⟩ : ∃ m, sp V.specials k = m := ⟨_, rfl⟩
        rw [hseq] at hce
        have d0 := hce 0 _ rfl
        have d1 := hce 1 _ rfl
        rw [Nat.add_zero] at d0
        simp only at d0 d1
        have HSK := Lib.hid hseq
        have gk : (k : Int) < (sn : Int) := by omega
        clear hce hseq
        by_cases hid : id = t
        · have hbid : (id != t) = false := by simpa using hid
          have hbid2 : (id == t) = true := by simpa using hid
          have HSB : Hid (spBy V.specials t = some ⟨nm, id⟩) := Lib.hid (by rw [← HSK.out]; exact spBy_hit hkS (by rw [HSK.out]; exact hid) HK.out)
          clear hid
          obtain ⟨wi, rfl⟩ : ∃ wi : World, wi = wr := ⟨_, rfl⟩
          go_wp2_with (fail)
          go_loopw [70] (fun i wr => ∃ q nq : Nat, q ≤ nn ∧ i = .int .i64 q ∧ Hid (∀ j, j < q → tk N j ≠ nm) ∧ wr = wi.drewN nq) (fun i _ => nn - (intOf i).toNat)
          case atStart => exact ⟨0, 0, Nat.zero_le _, rfl, Lib.hid (fun j h => by omega), rfl⟩
          case round =>
            obtain ⟨q, nq0, hq, rfl, HQ, rfl⟩ := hrel
            have HBQ : Hid (Below w0.heap.size w0 (wi.drewN nq0)) := Lib.hid (below_drewN HB.out _)
            by_cases hltq : q < nn
            · have hqN : q < N.length := by have := HNL.out; omega
              obtain ⟨b', of', hao, hc⟩ := SlS.cell (Sl.below HN.out HB.out) (tk_eq hqN)
              subst hao
              obtain ⟨y, hy⟩ : ∃ y, tk N q = y := ⟨_, rfl⟩
              rw [hy] at hc
              have HY := Lib.hid hy
              have gq : (q : Int) < (nn : Int) := by omega
              have HQN := Lib.hid hqN
              clear hy hqN
              by_cases hyn : y = nm
              · have hb2 := beqS_yes hyn
                have HSY : Hid (symsOf V N t = ([256 + (q : Int)], 0)) := Lib.hid (symsOf_at HTK.out HSB.out (nameAt_some HQN.out (by rw [HY.out]; exact hyn) HQ.out))
                have hq16 : q < 1048576 := by have := HNB.out; omega
                have hwr : IntKind.i64.wrap (256 + (q : Int)) = 256 + (q : Int) := by rw [IntKind.wrap_i64]; omega
                clear hyn
                go_wp2_with (fail)
                go_quiet (fail)
                obtain ⟨wz, hwz⟩ : ∃ wz, (wi.drewN nq0).drewN nq = wz := ⟨_, rfl⟩
                have HBZ : Hid (Below w0.heap.size w0 wz) := Lib.hid (by rw [← hwz]; exact below_drewN HBQ.out _)
                rw [hwz]
                clear hwz
                go_wp2_with (fail)
                refine bodyPost_ret (v := .tuple #[.slice (some ⟨wz.heap.size, 0, none⟩) 1 1, .int .i64 0]) ?_ rfl ⟨⟨_, by rw [HSY.out], by rw [HSY.out]; exact Own.mono (own_one wz _) (Nat.le_trans HB0.out.size HBZ.out.size)⟩, (HB0.out.trans (HBZ.out.mono HB0.out.size)).alloc (Nat.le_trans HB0.out.size HBZ.out.size) _⟩
                simp [results, Tryz.results39, go_sem]
              · have hb2 := beqS_no hyn
                have HQ2 : Hid (∀ j, j < q + 1 → tk N j ≠ nm) := Lib.hid (fun j hj => by
                  by_cases e : j = q
                  · subst e; rw [HY.out]; exact hyn
                  · exact HQ.out j (by omega))
                clear hyn
                go_wp2_with (fail)
                go_quiet (fail)
                go_wp2_with (fail)
                go_roundw
                case rel => exact ⟨q + 1, _, by omega, by go_num, HQ2, rfl⟩
                case measure => simp [intOf]; omega
            · have HSY : Hid (symsOf V N t = ([], 4)) := Lib.hid (symsOf_un HTK.out HSB.out (nameAt_none (fun j hj => HQ.out j (by have := HNL.out; omega))))
              obtain ⟨wz, hwz⟩ : ∃ wz, wi.drewN nq0 = wz := ⟨_, rfl⟩
              rw [hwz] at HBQ ⊢
              clear hwz
              go_wp2_with (fail)
              refine bodyPost_ret (v := .tuple #[.slice (some ⟨wz.heap.size, 0, none⟩) 0 0, .int .i64 4]) ?_ rfl ⟨⟨_, by rw [HSY.out], by rw [HSY.out]; exact Own.mono (own_made0 wz) (Nat.le_trans HB0.out.size HBQ.out.size)⟩, (HB0.out.trans (HBQ.out.mono HB0.out.size)).alloc (Nat.le_trans HB0.out.size HBQ.out.size) _⟩
              simp [results, Tryz.results39, go_sem]
        · have hbid : (id != t) = true := by simpa using hid
          have hbid2 : (id == t) = false := by simpa using hid
          have HK2 : Hid (∀ j, j < k + 1 → (sp V.specials j).id ≠ t) := Lib.hid (fun j hj => by
            by_cases e : j = k
            · subst e; rw [HSK.out]; exact hid
            · exact HK.out j (by omega))
          clear hid
          go_wp2_with (fail)
          go_roundw
          case rel => exact ⟨k + 1, by omega, by go_num, HK2, HB.out⟩
          case measure => simp [intOf]; omega
      · have HSY : Hid (symsOf V N t = ([], 3)) := Lib.hid (symsOf_none HTK.out (spBy_miss (fun j hj => HK.out j (by have := HCS.out; omega))))
        go_wp2_with (fail)
        refine bodyPost_ret (v := .tuple #[.slice (some ⟨wr.heap.size, 0, none⟩) 0 0, .int .i64 3]) ?_ rfl ⟨⟨_, by rw [HSY.out], by rw [HSY.out]; exact Own.mono (own_made0 wr) (Nat.le_trans HB0.out.size HB.out.size)⟩, (HB0.out.trans (HB.out.mono HB0.out.size)).alloc (Nat.le_trans HB0.out.size HB.out.size) _⟩
        simp [results, Tryz.results39, go_sem]
  · obtain ⟨q0, rfl⟩ := Int.eq_ofNat_of_zero_le (Int.not_lt.1 h0)
    by_cases hq0 : q0 < tn
    · obtain ⟨b, o, hao, hc⟩ := HV.out.tok.cell (tk_eq (T := V.tokens) (i := q0) (by have := HCT.out; omega))
      simp only at hao
      subst hao
      have HF := Lib.hid (isTk_at (T := V.tokens) (k := q0) (by have := HCT.out; omega))
      have hq0i : (q0 : Int) < (tn : Int) := by omega
      by_cases hz : (tk V.tokens q0).size = 0
      · obtain ⟨e1, e2, e3⟩ := strE_yes hz
        have HTK : Hid (isTk V.tokens (q0 : Int) = false) := Lib.hid (by rw [HF.out]; simp [hz])
        clear hz
        rw [← HW0.out] at hc
        go_enter Tryz.func39, Tryz.ntmps39
        go_wp2_with (fail)
        rw [HW0.out]
        clear e1 e2 e3 hc
        go_wp2_with (fail)
        go_loopw [55] (fun i wr => ∃ k : Nat, k ≤ sn ∧ i = .int .i64 k ∧ Hid (∀ j, j < k → (sp V.specials j).id ≠ (q0 : Int)) ∧ Below w0.heap.size w0 wr) (fun i _ => sn - (intOf i).toNat)
        case atStart => exact ⟨0, Nat.zero_le _, rfl, Lib.hid (fun j h => by omega), Below.refl _ _⟩
        case round =>
          obtain ⟨k, hk, rfl, HK, hb⟩ := hrel
          have HB := Lib.hid hb
          obtain ⟨b0, b1, b2, b3, b4, b5, bf⟩ := box6 ((hb.block w.heap.size HSZ1.out).trans HX0.out)
          clear hb
          by_cases hlt : k < sn
          · have hkS : k < V.specials.length := by have := HCS.out; omega
            obtain ⟨b, of, hao, hce⟩ := (HV.out.below HB.out).spc.elem Sp.enc_len (by omega) (sp_eq hkS)
            simp only at hao
            subst hao
            obtain ⟨⟨nm, id⟩, hseq⟩ : ∃ m, sp V.specials k = m := ⟨_, rfl⟩
            rw [hseq] at hce
            have d0 := hce 0 _ rfl
            have d1 := hce 1 _ rfl
            rw [Nat.add_zero] at d0
            simp only at d0 d1
            have HSK := Lib.hid hseq
            have gk : (k : Int) < (sn : Int) := by omega
            clear hce hseq
            by_cases hid : id = (q0 : Int)
            · have hbid : (id != (q0 : Int)) = false := by simpa using hid
              have hbid2 : (id == (q0 : Int)) = true := by simpa using hid
              have HSB : Hid (spBy V.specials (q0 : Int) = some ⟨nm, id⟩) := Lib.hid (by rw [← HSK.out]; exact spBy_hit hkS (by rw [HSK.out]; exact hid) HK.out)
              clear hid
              obtain ⟨wi, rfl⟩ : ∃ wi : World, wi = wr := ⟨_, rfl⟩
              go_wp2_with (fail)
              go_loopw [70] (fun i wr => ∃ q nq : Nat, q ≤ nn ∧ i = .int .i64 q ∧ Hid (∀ j, j < q → tk N j ≠ nm) ∧ wr = wi.drewN nq) (fun i _ => nn - (intOf i).toNat)
              case atStart => exact ⟨0, 0, Nat.zero_le _, rfl, Lib.hid (fun j h => by omega), rfl⟩
              case round =>
                obtain ⟨q, nq0, hq, rfl, HQ, rfl⟩ := hrel
                have HBQ : Hid (Below w0.heap.size w0 (wi.drewN nq0)) := Lib.hid (below_drewN HB.out _)
                by_cases hltq : q < nn
                · have hqN : q < N.length := by have := HNL.out; omega
                  obtain ⟨b', of', hao, hc⟩ := SlS.cell (Sl.below HN.out HB.out) (tk_eq hqN)
                  subst hao
                  obtain ⟨y, hy⟩ : ∃ y, tk N q = y := ⟨_, rfl⟩
                  rw [hy] at hc
                  have HY := Lib.hid hy
                  have gq : (q : Int) < (nn : Int) := by omega
                  have HQN := Lib.hid hqN
                  clear hy hqN
                  by_cases hyn : y = nm
                  · have hb2 := beqS_yes hyn
                    have HSY : Hid (symsOf V N (q0 : Int) = ([256 + (q : Int)], 0)) := Lib.hid (symsOf_at HTK.out HSB.out (nameAt_some HQN.out (by rw [HY.out]; exact hyn) HQ.out))
                    have hq16 : q < 1048576 := by have := HNB.out; omega
                    have hwr : IntKind.i64.wrap (256 + (q : Int)) = 256 + (q : Int) := by rw [IntKind.wrap_i64]; omega
                    clear hyn
                    go_wp2_with (fail)
                    go_quiet (fail)
                    obtain ⟨wz, hwz⟩ : ∃ wz, (wi.drewN nq0).drewN nq = wz := ⟨_, rfl⟩
                    have HBZ : Hid (Below w0.heap.size w0 wz) := Lib.hid (by rw [← hwz]; exact below_drewN HBQ.out _)
                    rw [hwz]
                    clear hwz
                    go_wp2_with (fail)
                    refine bodyPost_ret (v := .tuple #[.slice (some ⟨wz.heap.size, 0, none⟩) 1 1, .int .i64 0]) ?_ rfl ⟨⟨_, by rw [HSY.out], by rw [HSY.out]; exact Own.mono (own_one wz _) (Nat.le_trans HB0.out.size HBZ.out.size)⟩, (HB0.out.trans (HBZ.out.mono HB0.out.size)).alloc (Nat.le_trans HB0.out.size HBZ.out.size) _⟩
                    simp [results, Tryz.results39, go_sem]
                  · have hb2 := beqS_no hyn
                    have HQ2 : Hid (∀ j, j < q + 1 → tk N j ≠ nm) := Lib.hid (fun j hj => by
                      by_cases e : j = q
                      · subst e; rw [HY.out]; exact hyn
                      · exact HQ.out j (by omega))
                    clear hyn
                    go_wp2_with (fail)
                    go_quiet (fail)
                    go_wp2_with (fail)
                    go_roundw
                    case rel => exact ⟨q + 1, _, by omega, by go_num, HQ2, rfl⟩
                    case measure => simp [intOf]; omega
                · have HSY : Hid (symsOf V N (q0 : Int) = ([], 4)) := Lib.hid (symsOf_un HTK.out HSB.out (nameAt_none (fun j hj => HQ.out j (by have := HNL.out; omega))))
                  obtain ⟨wz, hwz⟩ : ∃ wz, wi.drewN nq0 = wz := ⟨_, rfl⟩
                  rw [hwz] at HBQ ⊢
                  clear hwz
                  go_wp2_with (fail)
                  refine bodyPost_ret (v := .tuple #[.slice (some ⟨wz.heap.size, 0, none⟩) 0 0, .int .i64 4]) ?_ rfl ⟨⟨_, by rw [HSY.out], by rw [HSY.out]; exact Own.mono (own_made0 wz) (Nat.le_trans HB0.out.size HBQ.out.size)⟩, (HB0.out.trans (HBQ.out.mono HB0.out.size)).alloc (Nat.le_trans HB0.out.size HBQ.out.size) _⟩
                  simp [results, Tryz.results39, go_sem]
            · have hbid : (id != (q0 : Int)) = true := by simpa using hid
              have hbid2 : (id == (q0 : Int)) = false := by simpa using hid
              have HK2 : Hid (∀ j, j < k + 1 → (sp V.specials j).id ≠ (q0 : Int)) := Lib.hid (fun j hj => by
                by_cases e : j = k
                · subst e; rw [HSK.out]; exact hid
                · exact HK.out j (by omega))
              clear hid
              go_wp2_with (fail)
              go_roundw
              case rel => exact ⟨k + 1, by omega, by go_num, HK2, HB.out⟩
              case measure => simp [intOf]; omega
          · have HSY : Hid (symsOf V N (q0 : Int) = ([], 3)) := Lib.hid (symsOf_none HTK.out (spBy_miss (fun j hj => HK.out j (by have := HCS.out; omega))))
            go_wp2_with (fail)
            refine bodyPost_ret (v := .tuple #[.slice (some ⟨wr.heap.size, 0, none⟩) 0 0, .int .i64 3]) ?_ rfl ⟨⟨_, by rw [HSY.out], by rw [HSY.out]; exact Own.mono (own_made0 wr) (Nat.le_trans HB0.out.size HB.out.size)⟩, (HB0.out.trans (HB.out.mono HB0.out.size)).alloc (Nat.le_trans HB0.out.size HB.out.size) _⟩
            simp [results, Tryz.results39, go_sem]
      · obtain ⟨e1, e2, e3⟩ := strE_no hz
        obtain ⟨s, hs⟩ : ∃ s, tk V.tokens q0 = s := ⟨_, rfl⟩
        have HSY : Hid (symsOf V N (q0 : Int) = (bytesI s, 0)) := Lib.hid (by rw [← hs]; exact symsOf_yes (by rw [HF.out]; simp [hz]))
        have hs64 : s.size ≤ 64 := by rw [← hs]; exact HT.out _ (tk_mem (by have := HCT.out; omega))
        rw [hs] at hc e1 e2 e3
        clear hz hs
        go_enter Tryz.func39, Tryz.ntmps39
        obtain ⟨wm, hwm⟩ : ∃ wm, w0.alloc (.cells #[] 3) = wm := ⟨_, rfl⟩
        have HWM := Lib.hid hwm
        have HBM : Hid (Below w.heap.size w wm) := Lib.hid (by rw [← hwm]; exact HB0.out.alloc HB0.out.size _)
        have HOM : Hid (Own wm w.heap.size (.slice (some ⟨w.heap.size + 1, 0, none⟩) 0 0) []) := Lib.hid (by
          have e : w.heap.size + 1 = w0.heap.size := by rw [← HW0.out]; simp
          rw [e, ← hwm]; exact Own.mono (own_made0 w0) HB0.out.size)
        have hc' := cell_below (below_alloc w0 (.cells #[] 3)) _ _ hc
        have b0' := cell_below (below_alloc w0 (.cells #[] 3)) _ _ b0
        rw [← HW0.out] at hc hc' b0'
        clear hwm
        go_wp2_with (fail)
        rw [HW0.out, HWM.out]
        clear e1 e2 e3 hc hc' b0' b0 b1 b2 b3 b4 b5 bf
        go_loopw [6, 8] (fun v i wr => ∃ k : Nat, k ≤ s.size ∧ i = .int .i64 k ∧ Own wr w.heap.size v ((bytesI s).take k) ∧ Below w.heap.size w wr) (fun _ i _ => s.size - (intOf i).toNat)
        case atStart => exact ⟨0, Nat.zero_le _, rfl, by simpa using HOM.out, HBM.out⟩
        case round =>
          obtain ⟨k, hk, rfl, ho, hb⟩ := hrel
          have HO := Lib.hid ho
          have HB := Lib.hid hb
          clear ho hb
          by_cases hlt : k < s.size
          · have HK := Lib.hid (bytesI_succ hlt)
            have HL : Hid (((bytesI s).take k).length = k) := Lib.hid (by rw [List.length_take, bytesI_len]; omega)
            obtain ⟨x, hxx⟩ : ∃ x : Int, (s[k].toNat : Int) = x := ⟨_, rfl⟩
            have HS1 : Hid (SlI (wr.alloc (.cells #[.int .i64 x] 3)) (some ⟨wr.heap.size, 0, none⟩) 1 1 [x]) := Lib.hid (SlI.one wr x _)
            have HO1 : Hid (Own (wr.alloc (.cells #[.int .i64 x] 3)) w.heap.size u6 ((bytesI s).take k)) := Lib.hid (HO.out.alloc _)
            have HSZ : Hid (w.heap.size ≤ wr.heap.size) := Lib.hid HB.out.size
            rw [hxx] at HK
            have hx8 := s[k].toNat_lt
            have hwx : wrap64 x = x := by rw [← hxx]; unfold wrap64; omega
            go_wp2_with (at_builtin; go_loud (refine wpList_int_app rfl _ _ 43 rfl i0 Tryz.underlying43 hi hz0 hz1 hz2 rfl HO1.out rfl HS1.out (by have := HL.out; omega) (by have := HSZ.out; simp; omega) ?_))
            intro v1 w2 ho2 hg2 hb2
            rw [← HK.out] at ho2
            have HO2 := Lib.hid ho2
            have HB2 := Lib.hid ((HB.out.alloc HB.out.size _).trans hb2)
            clear ho2 hg2 hb2
            go_wp2_with (fail)
            go_roundw
            case rel => exact ⟨k + 1, by omega, by go_num, HO2.out, HB2.out⟩
            case measure => simp [intOf]; omega
          · obtain rfl : k = s.size := by omega
            have HO2 := HO.out
            rw [List.take_of_length_le (by rw [bytesI_len]; exact Nat.le_refl _)] at HO2
            have HO3 := Lib.hid HO2
            clear HO2
            go_wp2_with (fail)
            refine bodyPost_ret (v := .tuple #[u6, .int .i64 0]) ?_ rfl ⟨⟨u6, by rw [HSY.out], by rw [HSY.out]; exact HO3.out⟩, HB.out⟩
            simp [results, Tryz.results39, go_sem]
    · have HTK : Hid (isTk V.tokens (q0 : Int) = false) := Lib.hid (isTk_out (by have := HCT.out; omega))
      go_enter Tryz.func39, Tryz.ntmps39
      go_wp2_with (fail)
      rw [HW0.out]
      go_wp2_with (fail)
      go_loopw [55] (fun i wr => ∃ k : Nat, k ≤ sn ∧ i = .int .i64 k ∧ Hid (∀ j, j < k → (sp V.specials j).id ≠ (q0 : Int)) ∧ Below w0.heap.size w0 wr) (fun i _ => sn - (intOf i).toNat)
      case atStart => exact ⟨0, Nat.zero_le _, rfl, Lib.hid (fun j h => by omega), Below.refl _ _⟩
      case round =>
        obtain ⟨k, hk, rfl, HK, hb⟩ := hrel
        have HB := Lib.hid hb
        obtain ⟨b0, b1, b2, b3, b4, b5, bf⟩ := box6 ((hb.block w.heap.size HSZ1.out).trans HX0.out)
        clear hb
        by_cases hlt : k < sn
        · have hkS : k < V.specials.length := by have := HCS.out; omega
          obtain ⟨b, of, hao, hce⟩ := (HV.out.below HB.out).spc.elem Sp.enc_len (by omega) (sp_eq hkS)
          simp only at hao
          subst hao
          obtain ⟨⟨nm, id⟩, hseq⟩ : ∃ m, sp V.specials k = m := ⟨_, rfl⟩
          rw [hseq] at hce
          have d0 := hce 0 _ rfl
          have d1 := hce 1 _ rfl
          rw [Nat.add_zero] at d0
          simp only at d0 d1
          have HSK := Lib.hid hseq
          have gk : (k : Int) < (sn : Int) := by omega
          clear hce hseq
          by_cases hid : id = (q0 : Int)
          · have hbid : (id != (q0 : Int)) = false := by simpa using hid
            have hbid2 : (id == (q0 : Int)) = true := by simpa using hid
            have HSB : Hid (spBy V.specials (q0 : Int) = some ⟨nm, id⟩) := Lib.hid (by rw [← HSK.out]; exact spBy_hit hkS (by rw [HSK.out]; exact hid) HK.out)
            clear hid
            obtain ⟨wi, rfl⟩ : ∃ wi : World, wi = wr := ⟨_, rfl⟩
            go_wp2_with (fail)
            go_loopw [70] (fun i wr => ∃ q nq : Nat, q ≤ nn ∧ i = .int .i64 q ∧ Hid (∀ j, j < q → tk N j ≠ nm) ∧ wr = wi.drewN nq) (fun i _ => nn - (intOf i).toNat)
            case atStart => exact ⟨0, 0, Nat.zero_le _, rfl, Lib.hid (fun j h => by omega), rfl⟩
            case round =>
              obtain ⟨q, nq0, hq, rfl, HQ, rfl⟩ := hrel
              have HBQ : Hid (Below w0.heap.size w0 (wi.drewN nq0)) := Lib.hid (below_drewN HB.out _)
              by_cases hltq : q < nn
              · have hqN : q < N.length := by have := HNL.out; omega
                obtain ⟨b', of', hao, hc⟩ := SlS.cell (Sl.below HN.out HB.out) (tk_eq hqN)
                subst hao
                obtain ⟨y, hy⟩ : ∃ y, tk N q = y := ⟨_, rfl⟩
                rw [hy] at hc
                have HY := Lib.hid hy
                have gq : (q : Int) < (nn : Int) := by omega
                have HQN := Lib.hid hqN
                clear hy hqN
                by_cases hyn : y = nm
                · have hb2 := beqS_yes hyn
                  have HSY : Hid (symsOf V N (q0 : Int) = ([256 + (q : Int)], 0)) := Lib.hid (symsOf_at HTK.out HSB.out (nameAt_some HQN.out (by rw [HY.out]; exact hyn) HQ.out))
                  have hq16 : q < 1048576 := by have := HNB.out; omega
                  have hwr : IntKind.i64.wrap (256 + (q : Int)) = 256 + (q : Int) := by rw [IntKind.wrap_i64]; omega
                  clear hyn
                  go_wp2_with (fail)
                  go_quiet (fail)
                  obtain ⟨wz, hwz⟩ : ∃ wz, (wi.drewN nq0).drewN nq = wz := ⟨_, rfl⟩
                  have HBZ : Hid (Below w0.heap.size w0 wz) := Lib.hid (by rw [← hwz]; exact below_drewN HBQ.out _)
                  rw [hwz]
                  clear hwz
                  go_wp2_with (fail)
                  refine bodyPost_ret (v := .tuple #[.slice (some ⟨wz.heap.size, 0, none⟩) 1 1, .int .i64 0]) ?_ rfl ⟨⟨_, by rw [HSY.out], by rw [HSY.out]; exact Own.mono (own_one wz _) (Nat.le_trans HB0.out.size HBZ.out.size)⟩, (HB0.out.trans (HBZ.out.mono HB0.out.size)).alloc (Nat.le_trans HB0.out.size HBZ.out.size) _⟩
                  simp [results, Tryz.results39, go_sem]
                · have hb2 := beqS_no hyn
                  have HQ2 : Hid (∀ j, j < q + 1 → tk N j ≠ nm) := Lib.hid (fun j hj => by
                    by_cases e : j = q
                    · subst e; rw [HY.out]; exact hyn
                    · exact HQ.out j (by omega))
                  clear hyn
                  go_wp2_with (fail)
                  go_quiet (fail)
                  go_wp2_with (fail)
                  go_roundw
                  case rel => exact ⟨q + 1, _, by omega, by go_num, HQ2, rfl⟩
                  case measure => simp [intOf]; omega
              · have HSY : Hid (symsOf V N (q0 : Int) = ([], 4)) := Lib.hid (symsOf_un HTK.out HSB.out (nameAt_none (fun j hj => HQ.out j (by have := HNL.out; omega))))
                obtain ⟨wz, hwz⟩ : ∃ wz, wi.drewN nq0 = wz := ⟨_, rfl⟩
                rw [hwz] at HBQ ⊢
                clear hwz
                go_wp2_with (fail)
                refine bodyPost_ret (v := .tuple #[.slice (some ⟨wz.heap.size, 0, none⟩) 0 0, .int .i64 4]) ?_ rfl ⟨⟨_, by rw [HSY.out], by rw [HSY.out]; exact Own.mono (own_made0 wz) (Nat.le_trans HB0.out.size HBQ.out.size)⟩, (HB0.out.trans (HBQ.out.mono HB0.out.size)).alloc (Nat.le_trans HB0.out.size HBQ.out.size) _⟩
                simp [results, Tryz.results39, go_sem]
          · have hbid : (id != (q0 : Int)) = true := by simpa using hid
            have hbid2 : (id == (q0 : Int)) = false := by simpa using hid
            have HK2 : Hid (∀ j, j < k + 1 → (sp V.specials j).id ≠ (q0 : Int)) := Lib.hid (fun j hj => by
              by_cases e : j = k
              · subst e; rw [HSK.out]; exact hid
              · exact HK.out j (by omega))
            clear hid
            go_wp2_with (fail)
            go_roundw
            case rel => exact ⟨k + 1, by omega, by go_num, HK2, HB.out⟩
            case measure => simp [intOf]; omega
        · have HSY : Hid (symsOf V N (q0 : Int) = ([], 3)) := Lib.hid (symsOf_none HTK.out (spBy_miss (fun j hj => HK.out j (by have := HCS.out; omega))))
          go_wp2_with (fail)
          refine bodyPost_ret (v := .tuple #[.slice (some ⟨wr.heap.size, 0, none⟩) 0 0, .int .i64 3]) ?_ rfl ⟨⟨_, by rw [HSY.out], by rw [HSY.out]; exact Own.mono (own_made0 wr) (Nat.le_trans HB0.out.size HB.out.size)⟩, (HB0.out.trans (HB.out.mono HB0.out.size)).alloc (Nat.le_trans HB0.out.size HB.out.size) _⟩
          simp [results, Tryz.results39, go_sem]

end Go.Proofs.YtimkkkdabmhedaaGreatDoor

namespace Go.Proofs.YtimkkkdabmhedaaGreatDoor
open Go.RowKit
set_option linter.unusedVariables false

def cVal (dd : Vd) (no : Option Addr) (nn nc : Nat) (kind : Int) (to_ : Option Addr) (tn tc : Nat) : Value :=
  .agg #[.slice dd.ta dd.tn dd.tc, .slice dd.ma dd.mn dd.mc, .slice dd.sa dd.sn dd.sc, .slice no nn nc, .int .i64 kind, .slice to_ tn tc]
theorem rsym_c {V : Vc} {N : List ByteArray} {dd : Vd} {no to_ : Option Addr} {nn nc tn' tc' : Nat} {kind : Int} (t : Int) (w : World) (h : CR w dd no nn nc V N) :
    Calls Tryz.prog 39 #[cVal dd no nn nc kind to_ tn' tc', .int .i64 t] w (SymPost V N t w) :=
  rsymbols_calls t w h.voc h.names h.t64 h.n16 h.sp h.tk

end Go.Proofs.YtimkkkdabmhedaaGreatDoor

namespace Go.Proofs.YtimkkkdabmhedaaGreatDoor
open Go.RowKit
set_option linter.unusedVariables false

def MadePost (V : Vc) (N : List ByteArray) (kind : Int) (T : List Rg) (room : Int) (w : World) (e : Ending) (w' : World) : Prop :=
  (e = .returned (.tuple #[.pointer none, noC, .bool false]) ∨
    (May V ∧ OkKit N kind T room ∧ ¬ GreatK V N T ∧ ∃ g cb dd no nn nc to_ tn tc, e = .returned (.tuple #[.pointer (some ⟨g, 0, none⟩), cVal dd no nn nc kind to_ tn tc, .bool true]) ∧ (∀ w'', Below w'.heap.size w' w'' → TCod w'' w.heap.size g V N kind (tabOf T) cb) ∧ CR w' dd no nn nc V N)) ∧ Below w.heap.size w w'
theorem below_set6 {w w4 : World} {n k : Nat} (h : Below n w w4) (hn : n ≤ k) (a b c d e f : Value) :
    Below n w ((((((w4.setCell ⟨k, 0, none⟩ a).setCell ⟨k, 1, none⟩ b).setCell ⟨k, 2, none⟩ c).setCell ⟨k, 3, none⟩ d).setCell ⟨k, 4, none⟩ e).setCell ⟨k, 5, none⟩ f).drew :=
  have h1 := h.setCell (p := ⟨k, 0, none⟩) hn a
  have h2 := h1.setCell (p := ⟨k, 1, none⟩) hn b
  have h3 := h2.setCell (p := ⟨k, 2, none⟩) hn c
  have h4 := h3.setCell (p := ⟨k, 3, none⟩) hn d
  have h5 := h4.setCell (p := ⟨k, 4, none⟩) hn e
  have h6 := h5.setCell (p := ⟨k, 5, none⟩) hn f
  h6.drew
theorem heap_set6 {w4 : World} {k q : Nat} (hn : q ≠ k) (a b c d e f : Value) :
    ((((((w4.setCell ⟨k, 0, none⟩ a).setCell ⟨k, 1, none⟩ b).setCell ⟨k, 2, none⟩ c).setCell ⟨k, 3, none⟩ d).setCell ⟨k, 4, none⟩ e).setCell ⟨k, 5, none⟩ f).drew.heap[q]? = w4.heap[q]? := by
  have e0 : ∀ X : World, X.drew.heap = X.heap := fun _ => rfl
  rw [e0]
  exact (Below.heap_setCell _ _ _ _ hn).trans ((Below.heap_setCell _ _ _ _ hn).trans ((Below.heap_setCell _ _ _ _ hn).trans ((Below.heap_setCell _ _ _ _ hn).trans ((Below.heap_setCell _ _ _ _ hn).trans (Below.heap_setCell _ _ _ _ hn)))))
set_option maxHeartbeats 2000000 in
set_option maxRecDepth 100000 in
theorem made_calls {V : Vc} {dd : Vd} {N : List ByteArray} {kind : Int} {T : List Rg} {room : Int} {no to_ : Option Addr} {nn nc tn tc : Nat} (w : World) (hV : VocR w dd V) (hok : (∀ s ∈ V.tokens, s.size ≤ maxLen) ∧ Sized V.specials) (hN : SlS w no nn nc N) (hNs : ∀ s ∈ N, s.size ≤ maxLen)
    (hT : SlF 3 w to_ tn tc (flat Rg.enc T)) (hU : Usu w) :
    Calls Tryz.prog 16 #[.agg #[.slice dd.ta dd.tn dd.tc, .slice dd.ma dd.mn dd.mc, .slice dd.sa dd.sn dd.sc, .slice no nn nc, .int .i64 kind, .slice to_ tn tc, .int .i64 room]] w (MadePost V N kind T room w) := by
  obtain ⟨ta, tn', tc', ma, mn, mc, sa, sn, sc⟩ := dd
  obtain ⟨w0, hw0⟩ : ∃ w0, (w.alloc (.cells #[.slice ta tn' tc', .slice ma mn mc, .slice sa sn sc, .slice no nn nc, .int .i64 kind, .slice to_ tn tc, .int .i64 room] 29)).alloc (.cells #[.slice none 0 0, .slice none 0 0, .slice none 0 0, .slice none 0 0, .int .i64 0, .slice none 0 0] 37) = w0 := ⟨_, rfl⟩
  have hb0 : Below w.heap.size w w0 := hw0 ▸ (below_alloc w _).alloc (by simp) _
  have hx0 : w0.heap[w.heap.size]? = some (.cells #[.slice ta tn' tc', .slice ma mn mc, .slice sa sn sc, .slice no nn nc, .int .i64 kind, .slice to_ tn tc, .int .i64 room] 29) := by rw [← hw0]; exact (Below.heap_alloc _ _ _ (by simp)).trans (heap_alloc_new w _)
  have hx1 : w0.heap[w.heap.size + 1]? = some (.cells #[.slice none 0 0, .slice none 0 0, .slice none 0 0, .slice none 0 0, .int .i64 0, .slice none 0 0] 37) := by
    rw [← hw0]
    have := heap_alloc_new (w.alloc (.cells #[.slice ta tn' tc', .slice ma mn mc, .slice sa sn sc, .slice no nn nc, .int .i64 kind, .slice to_ tn tc, .int .i64 room] 29)) (.cells #[.slice none 0 0, .slice none 0 0, .slice none 0 0, .slice none 0 0, .int .i64 0, .slice none 0 0] 37)
    simpa using this
  have HSZ1 : Hid (w.heap.size < w0.heap.size) := Lib.hid (by rw [← hw0]; simp; omega)
  have HSZ2 : Hid (w.heap.size + 1 < w0.heap.size) := Lib.hid (by rw [← hw0]; simp)
  have hgr := great16_calls (dd := ⟨ta, tn', tc', ma, mn, mc, sa, sn, sc⟩) w0 (hV.below hb0) hok (Sl.below hN hb0) hNs (hT.below hb0)
  have HBC : Hid (w.heap.size ≤ w.heap.size + 1) := Lib.hid (by omega)
  have HV := Lib.hid hV
  have HN := Lib.hid hN
  have HT := Lib.hid hT
  have HU := Lib.hid hU
  have HB0 := Lib.hid hb0
  have HX0 := Lib.hid hx0
  have HX1 := Lib.hid hx1
  have HNS := Lib.hid hNs
  have HOK := Lib.hid hok
  have HW0 := Lib.hid hw0
  obtain ⟨c0, c1, c2, c3, c4, c5, c6⟩ := box7 hx0
  rw [← HW0.out] at c0 c1 c2 c3 c4 c5 c6
  clear hV hN hT hNs hU hb0 hx0 hx1 hw0 hok
  go_enter Tryz.func16, Tryz.ntmps16
  go_wp2_with (fail)
  rw [HW0.out]
  clear c0 c1 c2 c3 c4 c5 c6
  refine hgr.mono ?_
  rintro e w1 ⟨⟨b, rfl, hbg⟩, hb1⟩
  have HB1 := Lib.hid hb1
  have HBG := Lib.hid hbg
  clear hgr hbg hb1
  obtain ⟨c0, c1, c2, c3, c4, c5, c6⟩ := box7 ((HB1.out.block w.heap.size HSZ1.out).trans HX0.out)
  obtain ⟨b0, b1, b2, b3, b4, b5, bf⟩ := box6 ((HB1.out.block (w.heap.size + 1) HSZ2.out).trans HX1.out)
  cases b with
  | true =>
    go_wp2_with (fail)
    refine bodyPost_ret (v := .tuple #[.pointer none, noC, .bool false]) ?_ rfl ⟨.inl rfl, ?_⟩
    · simp [results, Tryz.results16, go_sem, noC, b0, b1, b2, b3, b4, b5]
    · exact (((((((HB0.out.trans (HB1.out.mono HB0.out.size))).setCell HBC.out _).setCell HBC.out _).setCell HBC.out _).setCell HBC.out _).setCell HBC.out _).setCell HBC.out _
  | false =>
  have hng : ¬ GreatK V N T := fun h => by have := HBG.out.2 h; cases this
  have hvok : VOk V := ⟨HOK.out.1, HOK.out.2, by
    rcases Nat.lt_or_ge 20 V.specials.length with h | h
    · exact absurd (.inl (.inr (.inr (.inl h)))) hng
    · omega⟩
  have HNG := Lib.hid hng
  have HVOK := Lib.hid hvok
  have HBW1 : Hid (Below w.heap.size w w1) := Lib.hid (HB0.out.trans (HB1.out.mono HB0.out.size))
  have hrn := rnew16_calls (dd := ⟨ta, tn', tc', ma, mn, mc, sa, sn, sc⟩) (kind := kind) (room := room) w1 (HV.out.below HBW1.out) hvok (Sl.below HN.out HBW1.out) HNS.out (HT.out.below HBW1.out)
  clear hng hvok
  go_wp2_with (fail)
  refine hrn.mono ?_
  rintro e w2 ⟨hpost, hb2⟩
  have HBW2 : Hid (Below w.heap.size w w2) := Lib.hid (HBW1.out.trans (hb2.mono HBW1.out.size))
  have HSZ3 : Hid (w.heap.size + 1 < w2.heap.size) := Lib.hid (by have := hb2.size; have := HB1.out.size; have := HSZ2.out; omega)
  have HX02 : Hid (w2.heap[w.heap.size]? = some (.cells #[.slice ta tn' tc', .slice ma mn mc, .slice sa sn sc, .slice no nn nc, .int .i64 kind, .slice to_ tn tc, .int .i64 room] 29)) := Lib.hid ((hb2.block w.heap.size (by have := HB1.out.size; have := HSZ1.out; omega)).trans ((HB1.out.block w.heap.size HSZ1.out).trans HX0.out))
  have HX12 : Hid (w2.heap[w.heap.size + 1]? = some (.cells #[.slice none 0 0, .slice none 0 0, .slice none 0 0, .slice none 0 0, .int .i64 0, .slice none 0 0] 37)) := Lib.hid ((hb2.block (w.heap.size + 1) (by have := HB1.out.size; have := HSZ2.out; omega)).trans ((HB1.out.block (w.heap.size + 1) HSZ2.out).trans HX1.out))
  clear hb2 hrn c0 c1 c2 c3 c4 c5 c6 b0 b1 b2 b3 b4 b5 bf
  rcases hpost with ⟨_, rfl⟩ | ⟨_, _, rfl⟩ | ⟨hM, hOK, uo, un, uc, rfl, hU2⟩
  iterate 2 (
    · obtain ⟨b0, b1, b2, b3, b4, b5, bf⟩ := box6 ((Below.heap_alloc _ _ _ HSZ3.out : (w2.alloc (.cells #[.slice none 0 0, .slice none 0 0, .slice none 0 0, .slice none 0 0, .int .i64 0, .slice none 0 0] 37)).heap[w.heap.size + 1]? = _).trans HX12.out)
      unfold noC
      go_wp2_with (fail)
      refine bodyPost_ret (v := .tuple #[.pointer none, noC, .bool false]) ?_ rfl ⟨.inl rfl, ?_⟩
      · simp [results, Tryz.results16, go_sem, noC, b0, b1, b2, b3, b4, b5]
      · exact ((((((HBW2.out.alloc HBW2.out.size _).setCell HBC.out _).setCell HBC.out _).setCell HBC.out _).setCell HBC.out _).setCell HBC.out _).setCell HBC.out _)
  obtain ⟨w3, hw3⟩ : ∃ w3, w2.alloc (.cells #[.slice ta tn' tc', .slice ma mn mc, .slice sa sn sc, .slice no nn nc, .int .i64 kind, .slice uo un uc] 37) = w3 := ⟨_, rfl⟩
  have hb3 : Below w2.heap.size w2 w3 := hw3 ▸ below_alloc w2 _
  have HBW3 : Hid (Below w.heap.size w w3) := Lib.hid (HBW2.out.trans (hb3.mono HBW2.out.size))
  have HX3 : Hid (w3.heap[w2.heap.size]? = some (.cells #[.slice ta tn' tc', .slice ma mn mc, .slice sa sn sc, .slice no nn nc, .int .i64 kind, .slice uo un uc] 37)) := Lib.hid (by rw [← hw3]; exact heap_alloc_new w2 _)
  have HX03 := Lib.hid ((hb3.block w.heap.size (by have := HSZ3.out; omega)).trans HX02.out)
  have HX13 := Lib.hid ((hb3.block (w.heap.size + 1) HSZ3.out).trans HX12.out)
  have HSZ4 : Hid (w2.heap.size < w3.heap.size) := Lib.hid (by rw [← hw3]; simp)
  have hnn : nn ≤ 1048576 := by
    have := HN.out.count
    rcases Nat.lt_or_ge 20 N.length with h | h
    · exact absurd (.inr (.inl h)) HNG.out
    · omega
  have htn : tn ≤ 1048576 := by
    have := HT.out.count Rg.enc_len (by omega)
    rcases Nat.lt_or_ge 80 T.length with h | h
    · exact absurd (.inr (.inr (.inl h))) HNG.out
    · omega
  have htx := textNew_calls (dd := ⟨ta, tn', tc', ma, mn, mc, sa, sn, sc⟩) (kind := kind) (room := room) w3 (HV.out.below HBW3.out) HVOK.out (Sl.below HN.out HBW3.out) HNS.out hnn (HT.out.below HBW3.out) htn (HU.out.below HBW3.out)
  have HM := Lib.hid hM
  have HOK2 := Lib.hid hOK
  have HU3 := Lib.hid (hU2.below hb3)
  have HW3 := Lib.hid hw3
  obtain ⟨c0, c1, c2, c3, c4, c5, c6⟩ := box7 HX03.out
  rw [← HW3.out] at c0 c1 c2 c3 c4 c5 c6
  clear hb3 hw3 hM hOK hU2 hnn htn
  go_wp2_with (fail)
  rw [HW3.out]
  refine htx.mono ?_
  rintro e w4 ⟨hpost, hb4⟩
  rcases hpost with ⟨h, _⟩ | ⟨_, h, _⟩ | ⟨_, _, g, cb, mb, rfl, hcod⟩
  · exact absurd HM.out h
  · exact absurd HOK2.out h
  have HB4 := Lib.hid hb4
  have HCOD := Lib.hid hcod
  have hx4 := (HB4.out.block w2.heap.size HSZ4.out).trans HX3.out
  have hx14 := (HB4.out.block (w.heap.size + 1) (by have := HSZ3.out; have := HSZ4.out; omega)).trans HX13.out
  have HX14 := Lib.hid hx14
  obtain ⟨d0, d1, d2, d3, d4, d5, df⟩ := box6 hx4
  obtain ⟨b0, b1, b2, b3, b4, b5, bf⟩ := box6 hx14
  clear hx4 hx14 hb4 hcod htx c0 c1 c2 c3 c4 c5 c6
  go_wp2_with (fail)
  go_region
  all_goals (
    go_wp2_with (fail)
    refine bodyPost_ret (v := .tuple #[.pointer (some ⟨g, 0, none⟩), cVal ⟨ta, tn', tc', ma, mn, mc, sa, sn, sc⟩ no nn nc kind uo un uc, .bool true]) ?_ rfl ⟨.inr ⟨HM.out, HOK2.out, HNG.out, g, cb, ⟨ta, tn', tc', ma, mn, mc, sa, sn, sc⟩, no, nn, nc, uo, un, uc, rfl, ?_, ?_⟩, ?_⟩
    · simp [results, Tryz.results16, go_sem, cVal, b0, b1, b2, b3, b4, b5]
    · refine CodR.hold HCOD.out (fun q h1 h2 => ?_) (by simp) HBW3.out.size
      have hne : q ≠ w.heap.size + 1 := by have := HSZ3.out; have := HSZ4.out; omega
      exact heap_set6 hne _ _ _ _ _ _
    · have hbf := below_set6 (HBW3.out.trans (HB4.out.mono HBW3.out.size)) HBC.out (.slice ta tn' tc') (.slice ma mn mc) (.slice sa sn sc) (.slice no nn nc) (.int .i64 kind) (.slice uo un uc)
      exact ⟨HV.out.below hbf, Sl.below HN.out hbf, HM.out.1.2.1, by have := HN.out.count; have := HOK2.out.1.1; omega, HVOK.out.2.2, by have := HM.out.1.1; omega⟩
    · exact below_set6 (HBW3.out.trans (HB4.out.mono HBW3.out.size)) HBC.out _ _ _ _ _ _)

end Go.Proofs.YtimkkkdabmhedaaGreatDoor

namespace Go.Proofs.YtimkkkdabmhedaaGreatDoor
open Go
set_option linter.unusedVariables false

theorem decTo_cons (V : Vc) (N : List ByteArray) (t : Int) (l : List Int) : decTo V N (t :: l) = if (symsOf V N t).2 = 0 then (if (decTo V N l).2 = 0 then ((symsOf V N t).1 ++ (decTo V N l).1, 0) else ([], (decTo V N l).2)) else ([], (symsOf V N t).2) := rfl
theorem decTo_app {V : Vc} {N : List ByteArray} : ∀ {L R : List Int}, (decTo V N L).2 = 0 → decTo V N (L ++ R) = if (decTo V N R).2 = 0 then ((decTo V N L).1 ++ (decTo V N R).1, 0) else ([], (decTo V N R).2)
  | [], R, _ => by
    show decTo V N R = _
    by_cases h : (decTo V N R).2 = 0
    · rw [if_pos h]; simp only [decTo, List.nil_append]
      rw [← h]
    · rw [if_neg h]
      exact decTo_bad h
  | t :: L, R, h => by
    rw [decTo_cons] at h
    by_cases h1 : (symsOf V N t).2 = 0
    · rw [if_pos h1] at h
      by_cases h2 : (decTo V N L).2 = 0
      · rw [List.cons_append, decTo_cons, decTo_app h2, if_pos h1, decTo_cons V N t L, if_pos h1, if_pos h2]
        by_cases h3 : (decTo V N R).2 = 0
        · simp [h3]
        · simp [h3]
      · rw [if_neg h2] at h; exact absurd h h2
    · rw [if_neg h1] at h; exact absurd h h1
where
  decTo_bad {V : Vc} {N : List ByteArray} : ∀ {R : List Int}, (decTo V N R).2 ≠ 0 → decTo V N R = ([], (decTo V N R).2)
  | [], h => absurd rfl h
  | t :: L, h => by
    rw [decTo_cons] at h ⊢
    by_cases h1 : (symsOf V N t).2 = 0
    · rw [if_pos h1] at h ⊢
      by_cases h2 : (decTo V N L).2 = 0
      · rw [if_pos h2] at h; exact absurd rfl h
      · rw [if_neg h2]
    · rw [if_neg h1]
/-- The symbols of the first k tokens, all of which have some. -/
structure DecK (V : Vc) (N : List ByteArray) (A : List Int) (k : Nat) (out : List Int) : Prop where
  ok : (decTo V N (A.take k)).2 = 0
  out : (decTo V N (A.take k)).1 = out
theorem DecK.zero (V : Vc) (N : List ByteArray) (A : List Int) : DecK V N A 0 [] := ⟨rfl, rfl⟩
theorem decTo_one (V : Vc) (N : List ByteArray) (t : Int) : (decTo V N [t]).2 = (symsOf V N t).2 ∧ ((symsOf V N t).2 = 0 → (decTo V N [t]).1 = (symsOf V N t).1) := by
  rw [decTo_cons]
  by_cases h : (symsOf V N t).2 = 0
  · rw [if_pos h]; simp [decTo, h]
  · rw [if_neg h]; exact ⟨rfl, fun h2 => absurd h2 h⟩
theorem DecK.next {V : Vc} {N : List ByteArray} {A : List Int} {k : Nat} {out : List Int} (h : DecK V N A k out) (hk : k < A.length) (he : (symsOf V N (ix A k)).2 = 0) : DecK V N A (k + 1) (out ++ (symsOf V N (ix A k)).1) := by
  obtain ⟨h1, h2⟩ := decTo_one V N (ix A k)
  have h3 : (decTo V N [ix A k]).2 = 0 := by rw [h1]; exact he
  have h4 := decTo_app (R := [ix A k]) h.ok
  rw [if_pos h3, take_snoc hk] at h4
  exact ⟨by rw [h4], by rw [h4, h.out, h2 he]⟩
theorem DecK.bad {V : Vc} {N : List ByteArray} {A : List Int} {k : Nat} {out : List Int} (h : DecK V N A k out) (hk : k < A.length) (he : (symsOf V N (ix A k)).2 ≠ 0) : decTo V N A = ([], (symsOf V N (ix A k)).2) := by
  have e1 : A = A.take k ++ (ix A k :: A.drop (k + 1)) := by
    have e2 := List.take_append_drop k A
    rw [List.drop_eq_getElem_cons hk] at e2
    have e3 : A[k] = ix A k := by simp [ix, List.getD, hk]
    rw [e3] at e2
    exact e2.symm
  have h3 : decTo V N (ix A k :: A.drop (k + 1)) = ([], (symsOf V N (ix A k)).2) := by rw [decTo_cons, if_neg he]
  have h4 := decTo_app (R := ix A k :: A.drop (k + 1)) h.ok
  rw [h3] at h4
  simp only at h4
  rw [if_neg he, ← e1] at h4
  exact h4
theorem DecK.all {V : Vc} {N : List ByteArray} {A : List Int} {k : Nat} {out : List Int} (h : DecK V N A k out) (hk : A.length = k) : decTo V N A = (out, 0) := by
  obtain ⟨h1, h2⟩ := h
  rw [← hk, List.take_length] at h1 h2
  rw [← h1, ← h2]

end Go.Proofs.YtimkkkdabmhedaaGreatDoor

namespace Go.Proofs.YtimkkkdabmhedaaGreatDoor
open Go.RowKit
set_option linter.unusedVariables false

set_option maxHeartbeats 1000000 in
set_option maxRecDepth 100000 in
theorem join_calls {base q rn rc : Nat} {A R : List Int} {v : Value} {ro : Option Addr} (w : World) (ho : Own w base v A) (hR : SlI w ro rn rc R) (hq : w.cell? ⟨q, 0, none⟩ = some (.slice ro rn rc)) (hlen : A.length + rn ≤ 100000) (hb : base ≤ w.heap.size) :
    Calls Tryz.prog 72 #[v, .slice (some ⟨q, 0, none⟩) 1 1] w fun e w' => ∃ v', e = .returned v' ∧ Own w' base v' (A ++ R) ∧ Below base w w' := by
  obtain ⟨i0, hi, hz0, hz1, hz2⟩ := info_parts infoInt3
  have HO := Lib.hid ho
  have HR := Lib.hid hR
  have HLN := Lib.hid hlen
  have HB := Lib.hid hb
  clear ho hR hlen hb
  go_enter Tryz.func72, Tryz.ntmps72
  go_wp2_with (fail)
  refine wp_loop_rounds 2 ?_
  rw [rounds_succ]
  go_wp2_with (at_builtin; refine wpList_int_app rfl _ _ 43 rfl i0 Tryz.underlying43 hi hz0 hz1 hz2 rfl HO.out rfl HR.out (by have := HLN.out; omega) HB.out ?_; intro v' w2 ho2 hg2 hb2; have HO2 := Lib.hid ho2; have HB2 := Lib.hid hb2; clear ho2 hg2 hb2)
  rw [rounds_succ]
  go_wp2_with (fail)
  go_ret
  exact ⟨v', rfl, HO2.out, HB2.out⟩

theorem symsOf_le64 {V : Vc} {N : List ByteArray} (hT : ∀ s ∈ V.tokens, s.size ≤ 64) (t : Int) : (symsOf V N t).1.length ≤ 64 := by
  unfold symsOf
  split
  · next h =>
    obtain ⟨a1, a2, _⟩ := isTk_iff.1 h
    rw [bytesI_len]
    exact hT _ (tk_mem (by omega))
  · split
    · simp
    · split <;> simp

/-- What Decode answers. -/
def DecPost (V : Vc) (N : List ByteArray) (A : List Int) (w : World) (e : Ending) (w' : World) : Prop :=
  (∃ v, e = .returned (.tuple #[v, .int .i64 (decTo V N A).2]) ∧ Own w' w.heap.size v (decTo V N A).1) ∧ Below w.heap.size w w'

set_option maxHeartbeats 1000000 in
set_option maxRecDepth 100000 in
theorem tdecode_calls {V : Vc} {N : List ByteArray} {kind : Int} {T : List Rg} {base g cb : Nat} {A : List Int} {ao : Option Addr} {n c : Nat} (w : World) (hC : TCod w base g V N kind T cb) (hT : ∀ s ∈ V.tokens, s.size ≤ 64) (hN : MayNames N) (hA : SlI w ao n c A) (hn : n ≤ 100) :
    Calls Tryz.prog 34 #[.pointer (some ⟨g, 0, none⟩), .slice ao n c] w (DecPost V N A w) := by
  have HC := Lib.hid hC
  have HT := Lib.hid hT
  have HN := Lib.hid hN
  have HA := Lib.hid hA
  have HAL := Lib.hid hA.len
  clear hC hT hN hA
  go_enter Tryz.func34, Tryz.ntmps34
  go_wp2_with (fail)
  go_loopw [6, 15] (fun o i wr => ∃ (k : Nat) (O : List Int), k ≤ n ∧ i = .int .i64 k ∧ Hid (DecK V N A k O) ∧ Hid (O.length ≤ 64 * k) ∧ Hid (Own wr w.heap.size o O) ∧ Hid (Below w.heap.size w wr)) (fun _ i _ => n - (intOf i).toNat)
  case atStart => exact ⟨0, [], Nat.zero_le _, rfl, Lib.hid (DecK.zero V N A), Lib.hid (Nat.le_refl _), Lib.hid (Own.nil _ _), Lib.hid (Below.refl _ _)⟩
  case round =>
    obtain ⟨k, O, hk, rfl, HK, HOL, HO, HB⟩ := hrel
    by_cases hlt : k < n
    · obtain ⟨b, o', hao, hc⟩ := (SlI.below HA.out HB.out).at_ hlt
      subst hao
      have hkA : k < A.length := by have := HAL.out; omega
      have HSY := Lib.hid (symbols_calls (ix A k) wr (HC.out.below HB.out) HT.out HN.out)
      have HL64 := Lib.hid (symsOf_le64 (N := N) HT.out (ix A k))
      by_cases he : (symsOf V N (ix A k)).2 = 0
      · have HKN := Lib.hid (HK.out.next hkA he)
        unfold SymPost at HSY
        rw [he] at HSY
        obtain ⟨R, hR⟩ : ∃ R, (symsOf V N (ix A k)).1 = R := ⟨_, rfl⟩
        rw [hR] at HSY HKN HL64
        obtain ⟨s, hs⟩ : ∃ s, ix A k = s := ⟨_, rfl⟩
        rw [hs] at hc HSY
        clear he hR hs
        go_wp2_with (fail)
        go_at_call 23
        refine HSY.out.mono ?_
        rintro e w2 ⟨⟨vs, rfl, hos⟩, hb2⟩
        obtain ⟨ro, rc, rfl, hsl⟩ := hos.sl
        have hb3 := below_alloc w2 (.cells #[.slice ro R.length rc] 43)
        have hq : (w2.alloc (.cells #[.slice ro R.length rc] 43)).cell? ⟨w2.heap.size, 0, none⟩ = some (.slice ro R.length rc) := by simp
        have HJ := Lib.hid (join_calls _ ((HO.out.below hb2).below hb3) (SlI.below hsl hb3) hq (by have := HOL.out; have := HL64.out; omega) (Nat.le_trans HB.out.size (Nat.le_trans hb2.size hb3.size)))
        have HB3 : Hid (Below w.heap.size w (w2.alloc (.cells #[.slice ro R.length rc] 43))) := Lib.hid ((HB.out.trans (hb2.mono HB.out.size)).trans (hb3.mono (Nat.le_trans HB.out.size hb2.size)))
        clear hos hb2 hsl hb3 hq
        go_wp2_with (fail)
        go_at_call 72
        refine HJ.out.mono ?_
        rintro e w4 ⟨v4, rfl, ho4, hb4⟩
        have HO4 := Lib.hid ho4
        have HB4 := Lib.hid (HB3.out.trans hb4)
        clear ho4 hb4
        go_wp2_with (fail)
        go_roundw
        case rel => exact ⟨k + 1, _, by omega, by go_num, HKN, Lib.hid (by rw [List.length_append]; have := HOL.out; have := HL64.out; omega), HO4, HB4⟩
        case measure => simp [intOf]; omega
      · have HD := Lib.hid (HK.out.bad hkA he)
        unfold SymPost at HSY
        obtain ⟨er, her⟩ : ∃ er, (symsOf V N (ix A k)).2 = er := ⟨_, rfl⟩
        rw [her] at HSY HD he
        have hbe : (er == 0) = false := by simpa using he
        obtain ⟨s, hs⟩ : ∃ s, ix A k = s := ⟨_, rfl⟩
        rw [hs] at hc HSY
        clear her hs he
        go_wp2_with (fail)
        go_at_call 23
        refine HSY.out.mono ?_
        rintro e w2 ⟨⟨vs, rfl, hos⟩, hb2⟩
        have HB2 := Lib.hid (HB.out.trans (hb2.mono HB.out.size))
        clear hos hb2
        go_wp2_with (fail)
        refine bodyPost_ret (v := .tuple #[.slice none 0 0, .int .i64 er]) ?_ rfl ⟨⟨_, by rw [HD.out], by rw [HD.out]; exact Own.nil _ _⟩, HB2.out⟩
        simp [results, Tryz.results34, go_sem]
    · obtain rfl : k = n := by omega
      have HD := Lib.hid (HK.out.all HAL.out)
      go_wp2_with (fail)
      refine bodyPost_ret (v := .tuple #[u6, .int .i64 0]) ?_ rfl ⟨⟨_, by rw [HD.out], by rw [HD.out]; exact HO.out⟩, HB.out⟩
      simp [results, Tryz.results34, go_sem]

end Go.Proofs.YtimkkkdabmhedaaGreatDoor

namespace Go.Proofs.YtimkkkdabmhedaaGreatDoor
open Go.RowKit
set_option linter.unusedVariables false

theorem own_zero16 (w : World) : Own (w.alloc (.cells #[] 3)) w.heap.size (.slice (some ⟨w.heap.size, 0, none⟩) 0 0) [] := World.ownsRow_made w #[] 0 (Nat.le_refl _) (by unfold maxLen; omega) (by simp)
set_option maxHeartbeats 1000000 in
set_option maxRecDepth 100000 in
theorem rdecode_calls {V : Vc} {N : List ByteArray} {dd : Vd} {no to_ : Option Addr} {nn nc tn' tc' : Nat} {kind : Int} {A : List Int} {ao : Option Addr} {n c : Nat} (w : World) (hC : CR w dd no nn nc V N) (hA : SlI w ao n c A) (hn : n ≤ 100) :
    Calls Tryz.prog 38 #[cVal dd no nn nc kind to_ tn' tc', .slice ao n c] w (DecPost V N A w) := by
  obtain ⟨ta, tn, tc, ma, mn, mc, sa, sn, sc⟩ := dd
  obtain ⟨i0, hi, hz0, hz1, hz2⟩ := info_parts infoInt3
  obtain ⟨w0, hw0⟩ : ∃ w0, w.alloc (.cells #[.slice ta tn tc, .slice ma mn mc, .slice sa sn sc, .slice no nn nc, .int .i64 kind, .slice to_ tn' tc'] 37) = w0 := ⟨_, rfl⟩
  obtain ⟨w1, hw1⟩ : ∃ w1, w0.alloc (.cells #[] 3) = w1 := ⟨_, rfl⟩
  have hb0 : Below w.heap.size w w0 := hw0 ▸ below_alloc w _
  have hb1 : Below w0.heap.size w0 w1 := hw1 ▸ below_alloc w0 _
  have hx0 : w0.heap[w.heap.size]? = some (.cells #[.slice ta tn tc, .slice ma mn mc, .slice sa sn sc, .slice no nn nc, .int .i64 kind, .slice to_ tn' tc'] 37) := by rw [← hw0]; exact heap_alloc_new w _
  have hz : w.heap.size < w0.heap.size := by rw [← hw0]; simp
  have ho1 : Own w1 (w.heap.size + 1) (.slice (some ⟨w0.heap.size, 0, none⟩) 0 0) [] := hw1 ▸ (own_zero16 w0).mono hz
  have hsym := fun (t : Int) (w : World) => rsym_c (V := V) (N := N) (kind := kind) (to_ := to_) (tn' := tn') (tc' := tc') (dd := ⟨ta, tn, tc, ma, mn, mc, sa, sn, sc⟩) (no := no) (nn := nn) (nc := nc) t w
  unfold cVal at *
  simp only at hsym ⊢
  have HSY := Lib.hid hsym
  have HC := Lib.hid hC
  have HA := Lib.hid hA
  have HAL := Lib.hid hA.len
  have HB1 : Hid (Below w.heap.size w w1) := Lib.hid (hb0.trans (hb1.mono hb0.size))
  have HX1 : Hid (w1.heap[w.heap.size]? = some (.cells #[.slice ta tn tc, .slice ma mn mc, .slice sa sn sc, .slice no nn nc, .int .i64 kind, .slice to_ tn' tc'] 37)) := Lib.hid ((hb1.block _ hz).trans hx0)
  have HZ1 : Hid (w.heap.size < w1.heap.size) := Lib.hid (Nat.lt_of_lt_of_le hz hb1.size)
  have HO1 := Lib.hid ho1
  have HS0 : Hid (w0.heap.size = w.heap.size + 1) := Lib.hid (by rw [← hw0]; simp)
  have HW0 := Lib.hid hw0
  have HW1 := Lib.hid hw1
  have HT64 := Lib.hid hC.t64
  clear hC hA hsym hb0 hb1 hx0 hz ho1 hw0 hw1
  go_enter Tryz.func38, Tryz.ntmps38
  go_wp2_with (fail)
  rw [HW0.out, ← HS0.out, HW1.out]
  go_loopw [6, 13] (fun o i wr => ∃ (k : Nat) (O : List Int), k ≤ n ∧ i = .int .i64 k ∧ Hid (DecK V N A k O) ∧ Hid (O.length ≤ 64 * k) ∧ Hid (Own wr (w.heap.size + 1) o O) ∧ Hid (Below (w.heap.size + 1) w1 wr) ∧ Hid (Below w.heap.size w wr)) (fun _ i _ => n - (intOf i).toNat)
  case atStart => exact ⟨0, [], Nat.zero_le _, rfl, Lib.hid (DecK.zero V N A), Lib.hid (Nat.le_refl _), HO1, Lib.hid (Below.refl _ _), HB1⟩
  case round =>
    obtain ⟨k, O, hk, rfl, HK, HOL, HO, HB, HBW⟩ := hrel
    by_cases hlt : k < n
    · obtain ⟨b, o', hao, hc⟩ := (SlI.below HA.out HBW.out).at_ hlt
      subst hao
      have hkA : k < A.length := by have := HAL.out; omega
      obtain ⟨b0, b1, b2, b3, b4, b5, bf⟩ := box6 ((HB.out.block _ (Nat.lt_succ_self _)).trans HX1.out)
      have HL64 := Lib.hid (symsOf_le64 (N := N) HT64.out (ix A k))
      have HSQ : Hid (∀ W, Ge wr W → Calls Tryz.prog 39 #[.agg #[.slice ta tn tc, .slice ma mn mc, .slice sa sn sc, .slice no nn nc, .int .i64 kind, .slice to_ tn' tc'], .int .i64 (ix A k)] W fun e w' => (∃ ro rc, e = .returned (.tuple #[.slice ro (symsOf V N (ix A k)).1.length rc, .int .i64 (symsOf V N (ix A k)).2]) ∧ SlI w' ro (symsOf V N (ix A k)).1.length rc (symsOf V N (ix A k)).1) ∧ Below wr.heap.size wr w') := Lib.hid (fun W hW => (HSY.out (ix A k) W ((HC.out.below HBW.out).below hW)).mono (by
        rintro e w' ⟨⟨v, rfl, ho⟩, hb⟩
        obtain ⟨ro, rc, rfl, hs⟩ := ho.sl
        exact ⟨⟨ro, rc, rfl, hs⟩, hW.below hb⟩))
      by_cases he : (symsOf V N (ix A k)).2 = 0
      · have HKN := Lib.hid (HK.out.next hkA he)
        rw [he] at HSQ
        obtain ⟨R, hR⟩ : ∃ R, (symsOf V N (ix A k)).1 = R := ⟨_, rfl⟩
        rw [hR] at HSQ HKN HL64
        obtain ⟨s, hs⟩ : ∃ s, ix A k = s := ⟨_, rfl⟩
        rw [hs] at hc HSQ
        clear he hR hs
        go_wp2_with (fail)
        go_region_with (go_at_call 39; refine (HSQ.out _ (by exact below_drewN (Below.refl _ _) _)).mono ?_; rintro e w9 ⟨⟨ro, rc, rfl, hs9⟩, hb9⟩; have HS9 := Lib.hid hs9; have HB9 := Lib.hid hb9; clear hs9 hb9)
        all_goals (
          go_wp2_with (at_builtin; refine wpList_int_app rfl _ _ 43 rfl i0 Tryz.underlying43 hi hz0 hz1 hz2 rfl (HO.out.below HB9.out) rfl HS9.out (by have := HOL.out; have := HL64.out; omega) (Nat.le_trans (Nat.le_trans HZ1.out HB.out.size) HB9.out.size) ?_; intro v4 w4 ho4 hg4 hb4; have HO4 := Lib.hid ho4; have HW4 : Hid (Below (w.heap.size + 1) w1 w4) := Lib.hid (Below.grown (HB.out.trans (HB9.out.mono (Nat.le_trans HZ1.out HB.out.size))) hg4 (Nat.le_trans (Nat.le_trans HZ1.out HB.out.size) HB9.out.size) (fun q hq => (World.ownsRow.lt HO.out q hq).1)); have HB4 : Hid (Below w.heap.size w w4) := Lib.hid ((HBW.out.trans (HB9.out.mono HBW.out.size)).trans (hb4.mono (Nat.le_succ _))); clear ho4 hg4 hb4)
          go_roundw
          case rel => exact ⟨k + 1, _, by omega, by go_num, HKN, Lib.hid (by rw [List.length_append]; have := HOL.out; have := HL64.out; omega), HO4, HW4, HB4⟩
          case measure => simp [intOf]; omega)
      · have HD := Lib.hid (HK.out.bad hkA he)
        obtain ⟨er, her⟩ : ∃ er, (symsOf V N (ix A k)).2 = er := ⟨_, rfl⟩
        rw [her] at HSQ HD he
        have hbe : (er == 0) = false := by simpa using he
        obtain ⟨s, hs⟩ : ∃ s, ix A k = s := ⟨_, rfl⟩
        rw [hs] at hc HSQ
        clear her hs he
        go_wp2_with (fail)
        go_region_with (go_at_call 39; refine (HSQ.out _ (by exact below_drewN (Below.refl _ _) _)).mono ?_; rintro e w9 ⟨⟨ro, rc, rfl, hs9⟩, hb9⟩; have HB9 := Lib.hid hb9; clear hs9 hb9)
        all_goals (
          have HE9 : Hid (Below w.heap.size w (w9.alloc (.cells #[] 3))) := Lib.hid ((HBW.out.trans (HB9.out.mono HBW.out.size)).alloc (Nat.le_trans HBW.out.size HB9.out.size) _)
          go_wp2_with (fail)
          refine bodyPost_ret (v := .tuple #[.slice (some ⟨w9.heap.size, 0, none⟩) 0 0, .int .i64 er]) ?_ rfl ⟨⟨_, by rw [HD.out], by rw [HD.out]; exact (own_zero16 w9).mono (Nat.le_trans HBW.out.size HB9.out.size)⟩, HE9.out⟩
          simp [results, Tryz.results38, go_sem])
    · obtain rfl : k = n := by omega
      have HD := Lib.hid (HK.out.all HAL.out)
      go_wp2_with (fail)
      refine bodyPost_ret (v := .tuple #[u6, .int .i64 0]) ?_ rfl ⟨⟨_, by rw [HD.out], by rw [HD.out]; exact HO.out.mono (Nat.le_succ _)⟩, HBW.out⟩
      simp [results, Tryz.results38, go_sem]

end Go.Proofs.YtimkkkdabmhedaaGreatDoor

namespace Go.Proofs.YtimkkkdabmhedaaGreatDoor
open Go.RowKit
set_option linter.unusedVariables false

set_option maxHeartbeats 2000000 in
set_option maxRecDepth 100000 in
theorem textDecodes_walk {V : Vc} {dd : Vd} {N : List ByteArray} {kind : Int} {T : List Rg} {room : Int} {no to_ so : Option Addr} {nn nc tn tc sl sc : Nat} {S : List Int} (one_ : Int) (w : World) (hV : VocR w dd V) (hok : (∀ s ∈ V.tokens, s.size ≤ maxLen) ∧ Sized V.specials) (hN : SlS w no nn nc N) (hNs : ∀ s ∈ N, s.size ≤ maxLen)
    (hT : SlF 3 w to_ tn tc (flat Rg.enc T)) (hS : SlI w so sl sc S) (hU : Usu w) :
    Frame.Law Tryz.prog 8 #[.agg #[.slice dd.ta dd.tn dd.tc, .slice dd.ma dd.mn dd.mc, .slice dd.sa dd.sn dd.sc, .slice no nn nc, .int .i64 kind, .slice to_ tn tc, .int .i64 room], .slice so sl sc, .int .i64 one_] w := by
  unfold Frame.Law
  obtain ⟨ta, tn', tc', ma, mn, mc, sa, sn, sc'⟩ := dd
  obtain ⟨w0, hw0⟩ : ∃ w0, w.alloc (.cells #[.slice ta tn' tc', .slice ma mn mc, .slice sa sn sc', .slice no nn nc, .int .i64 kind, .slice to_ tn tc, .int .i64 room] 29) = w0 := ⟨_, rfl⟩
  have hb0 : Below w.heap.size w w0 := hw0 ▸ below_alloc w _
  have hx0 : w0.heap[w.heap.size]? = some (.cells #[.slice ta tn' tc', .slice ma mn mc, .slice sa sn sc', .slice no nn nc, .int .i64 kind, .slice to_ tn tc, .int .i64 room] 29) := by rw [← hw0]; exact heap_alloc_new w _
  have hmade := made_calls (dd := ⟨ta, tn', tc', ma, mn, mc, sa, sn, sc'⟩) (kind := kind) (room := room) w0 (hV.below hb0) hok (Sl.below hN hb0) hNs (hT.below hb0) (hU.below hb0)
  have HS := Lib.hid hS
  have hmx := Sl.max hS
  have hlx := Sl.le hS
  unfold maxLen at hmx
  have HU := Lib.hid hU
  have HB0 := Lib.hid hb0
  have HW0 := Lib.hid hw0
  obtain ⟨c0, c1, c2, c3, c4, c5, c6⟩ := box7 hx0
  rw [← HW0.out] at c0 c1 c2 c3 c4 c5 c6
  clear hV hok hN hNs hT hU hb0 hw0 hx0 hS
  go_enter Tryz.func8, Tryz.ntmps8
  go_wp2_with (fail)
  rw [HW0.out]
  clear c0 c1 c2 c3 c4 c5 c6
  refine hmade.mono ?_
  rintro e w1 ⟨hpost, hb1⟩
  have HB1 : Hid (Below w.heap.size w w1) := Lib.hid (HB0.out.trans (hb1.mono HB0.out.size))
  clear hb1 hmade
  rcases hpost with rfl | ⟨hM, hOK, hG, g, cb, dd2, no2, nn2, nc2, to2, tn2, tc2, rfl, hTC, hCR⟩
  · unfold noC
    have hb2 := HB1.out.alloc HB1.out.size (.cells #[.slice none 0 0, .slice none 0 0, .slice none 0 0, .slice none 0 0, .int .i64 0, .slice none 0 0] 37)
    have HB2 := Lib.hid hb2
    clear hb2
    go_wp2_with (fail)
    refine (fixed16_calls _ (HU.out.below HB2.out)).mono ?_
    rintro e w3 ⟨rfl, hb3⟩
    have HB3 := Lib.hid (HB2.out.trans (hb3.mono HB2.out.size))
    clear hb3
    go_wp2_with (fail)
    go_ret
    exact ⟨rfl, HB3.out⟩
  obtain ⟨ta2, tn2', tc2', ma2, mn2, mc2, sa2, sn2, sc2⟩ := dd2
  obtain ⟨w2, hw2⟩ : ∃ w2, w1.alloc (.cells #[.slice ta2 tn2' tc2', .slice ma2 mn2 mc2, .slice sa2 sn2 sc2, .slice no2 nn2 nc2, .int .i64 kind, .slice to2 tn2 tc2] 37) = w2 := ⟨_, rfl⟩
  have hb2 : Below w1.heap.size w1 w2 := hw2 ▸ below_alloc w1 _
  have hx2 : w2.heap[w1.heap.size]? = some (.cells #[.slice ta2 tn2' tc2', .slice ma2 mn2 mc2, .slice sa2 sn2 sc2, .slice no2 nn2 nc2, .int .i64 kind, .slice to2 tn2 tc2] 37) := by rw [← hw2]; exact heap_alloc_new w1 _
  have hz2 : w1.heap.size < w2.heap.size := by rw [← hw2]; simp
  have HB2 : Hid (Below w.heap.size w w2) := Lib.hid (HB1.out.trans (hb2.mono HB1.out.size))
  have HTC : Hid (TCod w2 w0.heap.size g V N kind (tabOf T) cb) := Lib.hid (hTC w2 hb2)
  have HCR := Lib.hid (hCR.below hb2)
  have HM := Lib.hid hM
  have HOK := Lib.hid hOK
  have HX2 := Lib.hid hx2
  have HZ2 := Lib.hid hz2
  have HW2 := Lib.hid hw2
  clear hb2 hx2 hz2 hw2 hTC hCR hM hOK hG
  unfold cVal
  by_cases hl : 100 < sl
  · have hl1 : (100 : Int) < (sl : Int) := by omega
    go_wp2_with (fail)
    rw [HW2.out]
    refine (fixed16_calls _ (HU.out.below HB2.out)).mono ?_
    rintro e w3 ⟨rfl, hb3⟩
    have HB3 := Lib.hid (HB2.out.trans (hb3.mono HB2.out.size))
    clear hb3
    go_wp2_with (fail)
    go_ret
    exact ⟨rfl, HB3.out⟩
  · have hl1 : ¬ (100 : Int) < (sl : Int) := by omega
    have hl2 : decide ((100 : Int) < (sl : Int)) = false := by simpa using hl1
    have HD := Lib.hid (tdecode_calls w2 HTC.out HM.out.1.2.1 HOK.out.1 (SlI.below HS.out HB2.out) (by omega))
    unfold DecPost at HD
    obtain ⟨D, hD⟩ : ∃ D, decTo V N S = D := ⟨_, rfl⟩
    rw [hD] at HD
    obtain ⟨O, er⟩ := D
    have HDD := Lib.hid hD
    clear hD
    simp only at HD
    go_wp2_with (fail)
    rw [HW2.out]
    go_at_call 34
    refine HD.out.mono ?_
    rintro e w3 ⟨⟨v3, rfl, ho3⟩, hb3⟩
    obtain ⟨a3, k3, rfl, hs3⟩ := ho3.sl
    have HB3 := Lib.hid hb3
    have HS3 := Lib.hid hs3
    obtain ⟨c0, c1, c2, c3, c4, c5, cf⟩ := box6 ((hb3.block _ HZ2.out).trans HX2.out)
    have HR := Lib.hid (rdecode_calls (dd := ⟨ta2, tn2', tc2', ma2, mn2, mc2, sa2, sn2, sc2⟩) (kind := kind) (to_ := to2) (tn' := tn2) (tc' := tc2) w3 (HCR.out.below hb3) (SlI.below (SlI.below HS.out HB2.out) hb3) (by omega))
    unfold DecPost cVal at HR
    rw [HDD.out] at HR
    simp only at HR
    clear ho3 hb3 hs3
    go_wp2_with (fail)
    go_at_call 38
    refine HR.out.mono ?_
    rintro e w4 ⟨⟨v4, rfl, ho4⟩, hb4⟩
    obtain ⟨a4, k4, rfl, hs4⟩ := ho4.sl
    have HB4 : Hid (Below w2.heap.size w2 w4) := Lib.hid (HB3.out.trans (hb4.mono HB3.out.size))
    have HS34 := Lib.hid (SlI.below HS3.out hb4)
    have HS4 := Lib.hid hs4
    clear ho4 hb4 hs4 c0 c1 c2 c3 c4 c5 cf
    obtain ⟨c0, c1, c2, c3, c4, c5, cf⟩ := box6 ((HB4.out.block _ HZ2.out).trans HX2.out)
    have HY := Lib.hid (symbols_calls one_ w4 (HTC.out.below HB4.out) HM.out.1.2.1 HOK.out.1)
    unfold SymPost at HY
    obtain ⟨Q, hQ⟩ : ∃ Q, symsOf V N one_ = Q := ⟨_, rfl⟩
    rw [hQ] at HY
    obtain ⟨P, ep⟩ := Q
    have HQ := Lib.hid hQ
    clear hQ
    simp only at HY
    go_wp2_with (fail)
    go_at_call 23
    refine HY.out.mono ?_
    rintro e w5 ⟨⟨v5, rfl, ho5⟩, hb5⟩
    obtain ⟨a5, k5, rfl, hs5⟩ := ho5.sl
    have HB5 : Hid (Below w2.heap.size w2 w5) := Lib.hid (HB4.out.trans (hb5.mono HB4.out.size))
    have HS35 := Lib.hid (SlI.below HS34.out hb5)
    have HS45 := Lib.hid (SlI.below HS4.out hb5)
    have HS5 := Lib.hid hs5
    clear ho5 hb5 hs5 c0 c1 c2 c3 c4 c5 cf
    obtain ⟨c0, c1, c2, c3, c4, c5, cf⟩ := box6 ((HB5.out.block _ HZ2.out).trans HX2.out)
    have HZ := Lib.hid (rsym_c (dd := ⟨ta2, tn2', tc2', ma2, mn2, mc2, sa2, sn2, sc2⟩) (kind := kind) (to_ := to2) (tn' := tn2) (tc' := tc2) one_ w5 (HCR.out.below HB5.out))
    unfold SymPost cVal at HZ
    rw [HQ.out] at HZ
    simp only at HZ
    go_wp2_with (fail)
    go_at_call 39
    refine HZ.out.mono ?_
    rintro e w6 ⟨⟨v6, rfl, ho6⟩, hb6⟩
    obtain ⟨a6, k6, rfl, hs6⟩ := ho6.sl
    have HB6 : Hid (Below w.heap.size w w6) := Lib.hid (HB2.out.trans ((HB5.out.trans (hb6.mono HB5.out.size)).mono HB2.out.size))
    have HS36 := Lib.hid (SlI.below HS35.out hb6)
    have HS46 := Lib.hid (SlI.below HS45.out hb6)
    have HS56 := Lib.hid (SlI.below HS5.out hb6)
    have HS6 := Lib.hid hs6
    clear ho6 hb6 hs6 c0 c1 c2 c3 c4 c5 cf
    go_wp2_with (fail)
    refine (fixed16_calls w6 (HU.out.below HB6.out)).mono ?_
    rintro e w7 ⟨rfl, hb7⟩
    have HS37 := Lib.hid (SlI.below HS36.out hb7)
    have HS47 := Lib.hid (SlI.below HS46.out hb7)
    have HS57 := Lib.hid (SlI.below HS56.out hb7)
    have HS67 := Lib.hid (SlI.below HS6.out hb7)
    have HB7 := Lib.hid (HB6.out.trans (hb7.mono HB6.out.size))
    clear hb7
    go_wp2_with (fail)
    refine (same10 w7 HS37.out HS47.out).mono ?_
    rintro e w8 ⟨q8, rfl, rfl⟩
    rw [eqB_true rfl]
    go_wp2_with (fail)
    refine (same10 (w7.drewN q8) (HS57.out.drewN q8) (HS67.out.drewN q8)).mono ?_
    rintro e w9 ⟨q9, rfl, rfl⟩
    rw [eqB_true rfl]
    go_wp2_with (fail)
    go_ret
    exact ⟨rfl, below_drewN HB7.out (q8 + q9)⟩

end Go.Proofs.YtimkkkdabmhedaaGreatDoor
