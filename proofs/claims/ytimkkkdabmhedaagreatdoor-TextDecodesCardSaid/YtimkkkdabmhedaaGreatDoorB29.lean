/- The frame for laws that read the table that the program lays: from what is laid to its cells; the law's lift. -/
import Derived.Test.YtimkkkdabmhedaaGreatDoorB27
import Derived.Test.YtimkkkdabmhedaaGreatDoorB28
import Derived.LaidMore
import Derived.Stop.Joined
import Derived.ProofKit
import Derived.Test.YtimkkkdabmhedaaGreatDoorB8
import Derived.Test.YtimkkkdabmhedaaGreatDoorB1
namespace Go.Proofs.YtimkkkdabmhedaaGreatDoor
open Go.ChangeShapes Go.WideShapes Go.ChangeAt Go.RowKit Go.Joins Go.Deep
set_option linter.unusedVariables false

/-- The usual table, as the program lays it. -/
def usR : List Rg := [⟨9, 9, 3⟩, ⟨10, 10, 4⟩, ⟨11, 12, 3⟩, ⟨13, 13, 4⟩, ⟨32, 32, 3⟩, ⟨48, 57, 2⟩, ⟨65, 90, 1⟩, ⟨97, 122, 1⟩, ⟨133, 133, 3⟩, ⟨160, 160, 3⟩, ⟨170, 170, 1⟩, ⟨178, 179, 2⟩, ⟨181, 181, 1⟩, ⟨185, 185, 2⟩, ⟨186, 186, 1⟩, ⟨188, 190, 2⟩, ⟨192, 214, 1⟩, ⟨216, 246, 1⟩, ⟨248, 705, 1⟩, ⟨880, 883, 1⟩, ⟨886, 887, 1⟩, ⟨891, 893, 1⟩, ⟨895, 895, 1⟩, ⟨902, 902, 1⟩, ⟨904, 1013, 1⟩, ⟨1015, 1153, 1⟩, ⟨1162, 1327, 1⟩, ⟨1329, 1366, 1⟩, ⟨1377, 1415, 1⟩, ⟨1488, 1514, 1⟩, ⟨1568, 1610, 1⟩, ⟨1632, 1641, 2⟩, ⟨2308, 2361, 1⟩, ⟨2406, 2415, 2⟩, ⟨3585, 3632, 1⟩, ⟨4256, 4351, 1⟩, ⟨4352, 4680, 1⟩, ⟨5760, 5760, 3⟩, ⟨7680, 8124, 1⟩, ⟨8192, 8202, 3⟩, ⟨8232, 8233, 3⟩, ⟨8239, 8239, 3⟩, ⟨8287, 8287, 3⟩, ⟨8544, 8584, 2⟩, ⟨12288, 12288, 3⟩, ⟨12353, 12438, 1⟩, ⟨12449, 12538, 1⟩, ⟨19968, 40959, 1⟩, ⟨44032, 55203, 1⟩, ⟨65296, 65305, 2⟩, ⟨131072, 173791, 1⟩]
def Rg.datum {H : Type} (r : Rg) : DataW H := .agg [.lit (.int .i64 r.lo), .lit (.int .i64 r.hi), .lit (.int .i64 r.cls)]
/-- The table that a coder goes by. -/
def tabOf (T : List Rg) : List Rg := if T = [] then usR else T
theorem usR_datum : (Rows.laid_footbridge_class_usual : DataW Unit) = .agg (usR.map Rg.datum) := rfl
def laidU : List (String × DataW Unit) := [("footbridge/class.usual", Rows.laid_footbridge_class_usual)]
theorem gUsual : Tryz.prog.globalNamed "footbridge/class.usual" = some 0 := by kernel_rfl
theorem tUsual : (Tryz.prog.globals[0]?).map (·.type) = some 136 := by kernel_rfl
theorem usR_len : usR.length = 51 := rfl

/-- The usual table's cells. -/
def Usu (w : World) : Prop := SlF 3 w (some ⟨0, 0, none⟩) 51 51 (flat Rg.enc usR)
theorem Usu.below {w w' : World} (h : Usu w) (hb : Below w.heap.size w w') : Usu w' := SlF.below h hb

theorem cell_take {l : List Value} {b j : Nat} {v : Value} (h : ((((l.drop b).take 3).drop j).take 1) = [v]) (hj : j < 3) : l[b + j]? = some v := by
  have := congrArg (·[0]?) h
  simp only [List.getElem?_take, List.getElem?_drop, List.getElem?_cons_zero] at this
  simpa [hj] using this

set_option maxRecDepth 100000 in
theorem of_laid {W : World} (h : laidMetH Tryz.prog laidU W) : Usu W := by
  rw [MakeChecks.laidMetH_plain _ _ _ (by kernel_rfl)] at h
  obtain ⟨ps, ⟨g0, t0, cs0, f0, p0, q0, hg0, ht0, hv0, hd0, _, _⟩, _, _⟩ := h
  obtain rfl := Option.some.inj (gUsual.symm.trans hg0)
  obtain rfl := Option.some.inj (tUsual.symm.trans ht0)
  obtain ⟨f0, f1, f2, hu, e0, e1, e2, hone⟩ := rgStruct
  obtain ⟨xs, m1, rfl, hx1, hlen, hn, hel⟩ := DataW.trod_array Tryz.underlying136 hd0
  rw [cellsRg] at hel
  simp only [Prod.mk.injEq] at hx1
  have hx2 : usR.map Rg.datum = xs.map (·.1) := by
    have := hx1.1
    rw [usR_datum] at this
    simpa using this
  have hc : ∀ i, W.cell? ⟨0, i, none⟩ = cs0[i]? := fun i => World.var?_cell gUsual hv0 i
  refine ⟨rfl, Nat.le_refl _, by unfold maxLen; omega, by simp, fun i u hi => ⟨_, _, rfl, ?_⟩⟩
  have hi1 := (List.getElem?_eq_some_iff.1 hi).1
  rw [flat_len Rg.enc_len, usR_len] at hi1
  rw [Nat.zero_add, hc]
  have hq : i / 3 < 51 := by omega
  have hr : usR[i / 3]? = some (rg usR (i / 3)) := rg_eq (by rw [usR_len]; exact hq)
  have hu2 : (Rg.enc (rg usR (i / 3)))[i % 3]? = some u := by
    rw [← flat_at Rg.enc_len hr (Nat.mod_lt _ (by omega)), Nat.div_add_mod' i 3]
    exact hi
  have hxi : xs[i / 3]? = some (xs[i / 3]'(by omega)) := List.getElem?_eq_getElem _
  have hd : (xs[i / 3]'(by omega)).1 = Rg.datum (rg usR (i / 3)) := by
    have := congrArg (·[i / 3]?) hx2
    simp only [List.getElem?_map, hr, hxi, Option.map_some, Option.some.injEq] at this
    exact this.symm
  have ht := hel (i / 3) hq
  rw [hxi] at ht
  obtain ⟨ys, n, _, hy, hyl, hysz, hfs⟩ := DataW.trod_struct hu ht
  rw [hy] at hd
  match ys, hysz, hfs, hd with
  | [y0, y1, y2], _, hfs, hd =>
    simp only [Rg.datum, List.map_cons, List.map_nil, DataW.agg.injEq, List.cons.injEq, and_true] at hd
    obtain ⟨d0, d1, d2⟩ := hd
    have r0 := hfs 0 f0 rfl
    have r1 := hfs 1 f1 rfl
    have r2 := hfs 2 f2 rfl
    obtain ⟨o0, n0⟩ := hone_of hone 0 f0 rfl
    obtain ⟨o1, n1⟩ := hone_of hone 1 f1 rfl
    obtain ⟨o2, n2⟩ := hone_of hone 2 f2 rfl
    rw [o0, n0, e0] at r0
    rw [o1, n1, e1] at r1
    rw [o2, n2, e2] at r2
    obtain ⟨k0, q0, rfl, _⟩ := DataW.trod_int Tryz.underlying3 (show DataW.trod _ _ _ _ _ _ _ _ _ = some y0 from r0)
    obtain ⟨k1, q1, rfl, _⟩ := DataW.trod_int Tryz.underlying3 (show DataW.trod _ _ _ _ _ _ _ _ _ = some y1 from r1)
    obtain ⟨k2, q2, rfl, _⟩ := DataW.trod_int Tryz.underlying3 (show DataW.trod _ _ _ _ _ _ _ _ _ = some y2 from r2)
    simp only [DataW.lit.injEq, Lit.int.injEq, true_and] at d0 d1 d2
    subst d0 d1 d2
    have s0 := cell_take q0
    have s1 := cell_take q1
    have s2 := cell_take q2
    have hi3 : i = i / 3 * 3 + i % 3 := (Nat.div_add_mod' i 3).symm
    have hm3 : i % 3 < 3 := Nat.mod_lt _ (by omega)
    rw [hi3]
    generalize i % 3 = j at *
    match j, hm3, hu2 with
    | 0, _, hu2 => simp [Rg.enc] at hu2; subst hu2; rw [← Array.getElem?_toList]; exact s0 (by omega)
    | 1, _, hu2 => simp [Rg.enc] at hu2; subst hu2; rw [← Array.getElem?_toList]; exact s1 (by omega)
    | 2, _, hu2 => simp [Rg.enc] at hu2; subst hu2; rw [← Array.getElem?_toList]; exact s2 (by omega)

theorem door_met (os : Os) (args : Array Value) : laidMetH Tryz.prog laidU ((World.doorLaid Tryz.prog 400 os).forCall (fun _ _ => 0) ⟨#[], args, []⟩).memory :=
  laidMetH_of_parts3 (fuel := 8) (laidMet_of_run' 8 (by kernel_rfl) (by kernel_rfl)) (by kernel_rfl) (by kernel_rfl)

section
variable {H : Type} {enc : TypeId × Value → H}
/-- A law that reads the laid table: its lift. -/
theorem law_laid {C : Checked} {os : Os} {f : FuncId} {fn : Func} {s : ChangeSpec} {tb : TypeId} {L : List (String × DataW Unit)} (own : ownKnob C.prog.godebug = none) (started : os.Started)
    (noInit : C.prog.inits.idxOf? f = none) (hfn : C.prog.funcs[f]? = some fn) (hl : laidOutB C.prog = true) (hp : ∀ t ∈ fn.params.toList, C.prog.readableRec t = true ∧ t < C.prog.types.size)
    (hr : fn.resultTypes = #[tb]) (hb : C.prog.underlying tb = some .bool) (hv : s.vars = [])
    (hs : ∀ ds : List (DataW H), ds.length = fn.params.size → s.fn H ds = { results := [.lit (.bool true)], args := ds })
    (witness : ∃ (w : World) (tape : Tape) (i : Input), w.os = os ∧ (w.forCall tape i).Shaped C.prog ∧ i.vars = [] ∧ Input.okWide C.prog (w.forCall tape i) .any w.heap.size f i ∧
      ((s.pre enc C.prog fn [] false (w.forCall tape i).memory i.args ∧ laidMetH C.prog L (w.forCall tape i).memory) ∧ sizedMet enc C.prog fn (OpenSpec.ofChange s) false (w.forCall tape i).memory i.args) ∧ ({} : Assume).holds C.prog (lone (Frame.enter C.prog f i.args .normal) [] (w.forCall tape i)))
    (walk : ∀ (W : World) (base : Nat) (args : Array Value) (ds : List (DataW H)) (p : List MemPlace), (∀ (j : Nat) t v, fn.params[j]? = some t → args[j]? = some v → Value.okWide C.prog W .any base t v) →
      DataW.TrodAll enc C.prog W 0 (fun _ => true) true fn.params.toList args.toList ds p → laidMetH C.prog L W → Frame.Law C.prog f args W) :
    ReturnsInHanded {} C os f .any (fun w args => (s.pre enc C.prog fn [] false w args ∧ laidMetH C.prog L w) ∧ sizedMet enc C.prog fn (OpenSpec.ofChange s) false w args) (s.post enc C.prog fn false true false false) := by
  refine returnsInHanded_of_change_and (C := C) (X := fun w _ => laidMetH C.prog L w) (fun _ _ _ hh h => h.of_heap hh) own started noInit hfn witness ?_
  intro W base args ds gs before hval hW _ _ hL _
  exact Frame.law_post hl hp hr hb hv hs hW (walk W base args ds _ hval hW.choose_spec.choose_spec.1 hL)
end

end Go.Proofs.YtimkkkdabmhedaaGreatDoor

/- Walks: vocab.Bytes, vocab.Name, vocab.ID. (Printed by gLook.py.) -/
namespace Go.Proofs.YtimkkkdabmhedaaGreatDoor
open Go.RowKit
set_option linter.unusedVariables false

def ixOf : Option Nat → Int
  | some i => i
  | none => -1
theorem ix_hit {S : List Sp} {p : Sp → Bool} {k : Nat} (hk : k < S.length) (hp : p (sp S k) = true) (hno : ∀ j, j < k → p (sp S j) = false) : S.findIdx? p = some k := by
  rw [List.findIdx?_eq_some_iff_getElem]
  exact ⟨hk, by rw [sp_get hk]; exact hp, fun j hj => by rw [sp_get (by omega), hno j hj]; simp⟩
theorem ix_miss {S : List Sp} {p : Sp → Bool} (hno : ∀ j, j < S.length → p (sp S j) = false) : S.findIdx? p = none := by
  rw [List.findIdx?_eq_none_iff]
  intro x hx
  obtain ⟨j, hj, rfl⟩ := List.getElem_of_mem hx
  rw [sp_get hj]; exact hno j hj
theorem find_cases (S : List Sp) (p : Sp → Bool) : (S.findIdx? p = none ∧ S.find? p = none) ∨ ∃ i, i < S.length ∧ S.findIdx? p = some i ∧ S.find? p = some (sp S i) := by
  cases h : S.findIdx? p with
  | none =>
    left
    rw [List.findIdx?_eq_none_iff] at h
    exact ⟨rfl, by rw [List.find?_eq_none]; intro x hx; rw [h x hx]; simp⟩
  | some i =>
    right
    obtain ⟨h1, h2, h3⟩ := List.findIdx?_eq_some_iff_getElem.1 h
    refine ⟨i, h1, rfl, ?_⟩
    rw [List.find?_eq_some_iff_getElem]
    exact ⟨by rw [sp_get h1] at h2; exact h2, i, h1, sp_get h1, fun j hj => by simpa using h3 j hj⟩

set_option maxHeartbeats 400000 in
theorem idF_calls (x : Sp) {g : Nat} {nm : ByteArray} (w : World) (hg : w.cell? ⟨g, 0, none⟩ = some (.string nm)) :
    Calls Tryz.prog 81 #[.agg #[.string x.name, .int .i64 x.id], .pointer (some ⟨g, 0, none⟩)] w fun e w' => e = .returned (.bool (decide (x.name = nm))) ∧ Below w.heap.size w w' := by
  have hc := cell_below (below_alloc w (.cells #[.string x.name, .int .i64 x.id] 58)) _ _ hg
  by_cases h : x.name = nm
  · have HF : Hid (decide (x.name = nm) = true) := Lib.hid (by simp [h])
    have he := beqS_yes h
    clear h
    go_enter Tryz.func81, Tryz.ntmps81
    go_wp2
    go_ret
    exact ⟨by rw [HF.out]; rfl, below_alloc w _⟩
  · have HF : Hid (decide (x.name = nm) = false) := Lib.hid (by simp [h])
    have he := beqS_no h
    clear h
    go_enter Tryz.func81, Tryz.ntmps81
    go_wp2
    go_ret
    exact ⟨by rw [HF.out]; rfl, below_alloc w _⟩

set_option maxHeartbeats 1000000 in
theorem idI_calls {S : List Sp} {so : Option Addr} {sn sc g : Nat} {nm : ByteArray} (w : World) (hS : SlF 2 w so sn sc (flat Sp.enc S)) (hg : w.cell? ⟨g, 0, none⟩ = some (.string nm)) :
    Calls Tryz.prog 80 #[.slice so sn sc, .func (.func 81) #[] #[.pointer (some ⟨g, 0, none⟩)]] w fun e w' => e = .returned (.int .i64 (ixOf (S.findIdx? (fun x => decide (x.name = nm))))) ∧ Below w.heap.size w w' := by
  have hm := Nat.le_trans hS.le hS.max
  unfold maxLen at hm
  have HLS := Lib.hid (hS.count Sp.enc_len (by omega))
  have HS := Lib.hid hS
  have HG := Lib.hid hg
  clear hS hg
  go_enter Tryz.func80, Tryz.ntmps80
  go_wp2_with (fail)
  go_loopw [5, 8] (fun _ i wr => ∃ k : Nat, k ≤ sn ∧ i = .int .i64 k ∧ Hid (∀ j, j < k → (fun x : Sp => decide (x.name = nm)) (sp S j) = false) ∧ Below w.heap.size w wr) (fun _ i _ => sn - (intOf i).toNat)
  case atStart => exact ⟨0, Nat.zero_le _, rfl, Lib.hid (fun j h => by omega), Below.refl _ _⟩
  case round =>
    obtain ⟨k, hk, rfl, HK, hb⟩ := hrel
    have HB := Lib.hid hb
    clear hb
    by_cases hlt : k < sn
    · have hkS : k < S.length := by have := HLS.out; omega
      obtain ⟨b, of, rfl, hce⟩ := (HS.out.below HB.out).elem Sp.enc_len (by omega) (sp_eq hkS)
      have d0 := hce 0 _ rfl
      have d1 := hce 1 _ rfl
      rw [Nat.add_zero] at d0
      clear hce
      have hcl := idF_calls (sp S k) (nm := nm) wr (cell_below HB.out _ _ HG.out)
      obtain ⟨bv, hbv⟩ : ∃ bv, (fun x : Sp => decide (x.name = nm)) (sp S k) = bv := ⟨_, rfl⟩
      have hbv' := hbv
      simp only at hbv'
      rw [hbv'] at hcl
      clear hbv'
      go_wp2_with (fail)
      refine hcl.mono ?_
      rintro e w2 ⟨rfl, hb2⟩
      have HB2 := Lib.hid (HB.out.trans (hb2.mono HB.out.size))
      cases bv with
      | true =>
        have HF := Lib.hid (ix_hit (p := fun x => decide (x.name = nm)) hkS hbv HK.out)
        clear hbv
        go_wp2_with (fail)
        go_ret
        exact ⟨by rw [HF.out]; rfl, HB2.out⟩
      | false =>
        have HK2 : Hid (∀ j, j < k + 1 → (fun x : Sp => decide (x.name = nm)) (sp S j) = false) := Lib.hid (fun j hj => by
          by_cases e : j = k
          · subst e; exact hbv
          · exact HK.out j (by omega))
        clear hbv
        go_wp2_with (fail)
        go_roundw
        case rel => exact ⟨k + 1, by omega, by go_num, HK2, HB2.out⟩
        case measure => simp [intOf]; omega
    · have HF := Lib.hid (ix_miss (p := fun x => decide (x.name = nm)) (S := S) (fun j hj => HK.out j (by have := HLS.out; omega)))
      go_wp2_with (fail)
      go_ret
      exact ⟨by rw [HF.out]; rfl, HB.out⟩

set_option maxHeartbeats 1000000 in
theorem id_calls {V : Vc} {dd : Vd} (nm : ByteArray) (w : World) (hV : VocR w dd V) :
    Calls Tryz.prog 54 #[dd.val, .string nm] w fun e w' => e = .returned (.int .i64 (idOf (spNamed V.specials nm))) ∧ Below w.heap.size w w' := by
  obtain ⟨ta, tn, tc, ma, mn, mc, sa, sn, sc⟩ := dd
  obtain ⟨w0, hw0⟩ : ∃ w0, (w.alloc (.cells #[.slice ta tn tc, .slice ma mn mc, .slice sa sn sc] 26)).alloc (.cells #[.string nm] 9) = w0 := ⟨_, rfl⟩
  have hb0 : Below w.heap.size w w0 := hw0 ▸ (below_alloc w _).alloc (by simp) _
  have hs0 : w0.heap.size = w.heap.size + 2 := by rw [← hw0]; simp
  have hx0 : w0.heap[w.heap.size]? = some (.cells #[.slice ta tn tc, .slice ma mn mc, .slice sa sn sc] 26) := by rw [← hw0, (below_alloc _ _).block _ (by simp)]; exact heap_alloc_new w _
  have hx1 : w0.heap[w.heap.size + 1]? = some (.cells #[.string nm] 9) := by
    rw [← hw0]
    have := heap_alloc_new (w.alloc (.cells #[.slice ta tn tc, .slice ma mn mc, .slice sa sn sc] 26)) (.cells #[.string nm] 9)
    simpa using this
  obtain ⟨c0, c1, c2⟩ := box3v hx0
  have HV := Lib.hid (hV.below hb0)
  have HB0 := Lib.hid hb0
  have HW0 := Lib.hid hw0
  have HX0 := Lib.hid hx0
  have hnl := hV.spc.count Sp.enc_len (by omega)
  simp only at hnl
  have HNL := Lib.hid hnl
  have hm := Nat.le_trans hV.spc.le hV.spc.max
  simp only at hm
  unfold maxLen at hm
  have hI := idI_calls (nm := nm) (g := w.heap.size + 1) w0 HV.out.spc (by simp [World.cell?, hx1])
  clear hV hb0 hx0 hx1 hw0 hnl
  go_enter Tryz.func54, Tryz.ntmps54
  go_wp2_with (fail)
  rw [HW0.out]
  refine hI.mono ?_
  rintro e w1 ⟨rfl, hb1⟩
  have HB1 := Lib.hid (HB0.out.trans (hb1.mono HB0.out.size))
  have HV1 := Lib.hid (HV.out.below hb1)
  clear c0 c1 c2
  obtain ⟨c0, c1, c2⟩ := box3v ((hb1.block w.heap.size (by omega)).trans HX0.out)
  clear hb1 hI
  rcases find_cases V.specials (fun x => decide (x.name = nm)) with ⟨e1, e2⟩ | ⟨i, hi, e1, e2⟩
  · rw [e1]
    simp only [ixOf]
    have HE : Hid (spNamed V.specials nm = none) := Lib.hid e2
    clear e1 e2
    go_wp2
    (go_ret; exact ⟨by rw [HE.out]; rfl, HB1.out⟩)
  · rw [e1]
    simp only [ixOf]
    have HE : Hid (spNamed V.specials nm = some (sp V.specials i)) := Lib.hid e2
    have hin : i < sn := by have := HNL.out; omega
    obtain ⟨b, of, hao, hce⟩ := HV1.out.spc.elem Sp.enc_len (by omega) (sp_eq hi)
    simp only at hao
    subst hao
    have d0 := hce 0 _ rfl
    have d1 := hce 1 _ rfl
    rw [Nat.add_zero] at d0
    have hng : ¬ (i : Int) < 0 := by omega
    clear e1 e2 hce hi
    go_wp2
    (go_ret; exact ⟨by rw [HE.out]; rfl, HB1.out⟩)

end Go.Proofs.YtimkkkdabmhedaaGreatDoor

/- The cache in memory: its seven fields, its nodes; what stores do to them. Plain lemmas. -/
namespace Go.Proofs.YtimkkkdabmhedaaGreatDoor
open Go.RowKit
set_option linter.unusedVariables false
set_option linter.unusedSimpArgs false

/-- A node: a key, a row of numbers (where it lies), the places of the elder and the younger one. -/
structure Nd where
  key : ByteArray
  ro : Option Addr
  rn : Nat
  rc : Nat
  el : Int
  yo : Int

def ndCells (n : Nd) : List Value := [.string n.key, .slice n.ro n.rn n.rc, .int .i64 n.el, .int .i64 n.yo]

/-- m nodes at the head of block nb, with room for cap. -/
structure Nds (w : World) (nb m cap : Nat) (N : Nat → Nd) : Prop where
  le : m ≤ cap
  max : cap ≤ maxLen
  blk : ∃ cur : List Value, w.heap[nb]? = some (.cells cur.toArray 208 (0, 0)) ∧ cur.length = cap * 4 ∧ ∀ i, i < m → ∀ j, j < 4 → cur[i * 4 + j]? = (ndCells (N i))[j]?

theorem Nds.cell {w : World} {nb m cap : Nat} {N : Nat → Nd} (h : Nds w nb m cap N) {i : Nat} (hi : i < m) {j : Nat} (hj : j < 4) : w.cell? ⟨nb, i * 4 + j, none⟩ = (ndCells (N i))[j]? := by
  obtain ⟨cur, hb, hl, hc⟩ := h.blk
  simp only [World.cell?, hb]
  simpa using hc i hi j hj

theorem Nds.free {w : World} {nb m cap : Nat} {N : Nat → Nd} (h : Nds w nb m cap N) (o : Nat) : w.frozen? ⟨nb, o, none⟩ = false := by
  obtain ⟨cur, hb, _⟩ := h.blk
  simp only [World.frozen?, hb]
  simp

theorem Nds.lt {w : World} {nb m cap : Nat} {N : Nat → Nd} (h : Nds w nb m cap N) : nb < w.heap.size := by
  obtain ⟨cur, hb, _⟩ := h.blk
  rcases Nat.lt_or_ge nb w.heap.size with h' | h'
  · exact h'
  · rw [Array.getElem?_eq_none h'] at hb; cases hb

theorem Nds.stay {w w' : World} {nb m cap : Nat} {N : Nat → Nd} (h : Nds w nb m cap N) (hb : w'.heap[nb]? = w.heap[nb]?) : Nds w' nb m cap N := by
  obtain ⟨cur, h1, h2, h3⟩ := h.blk
  exact ⟨h.le, h.max, cur, hb.trans h1, h2, h3⟩

/-- Node i is another one now. -/
def upd {α : Type} (N : Nat → α) (i : Nat) (x : α) : Nat → α := fun k => if k = i then x else N k
theorem upd_same {α : Type} (N : Nat → α) (i : Nat) (x : α) : upd N i x i = x := by simp [upd]
theorem upd_other {α : Type} (N : Nat → α) (i k : Nat) (x : α) (h : k ≠ i) : upd N i x k = N k := by simp [upd, h]

/-- A store into cell j of node i. -/
theorem Nds.store {w : World} {nb m cap : Nat} {N : Nat → Nd} (h : Nds w nb m cap N) {i : Nat} (hi : i < m) {j : Nat} (hj : j < 4) (v : Value) (n' : Nd) (hn : ndCells n' = (ndCells (N i)).set j v) :
    Nds (w.setCell ⟨nb, i * 4 + j, none⟩ v) nb m cap (upd N i n') := by
  obtain ⟨cur, hb, hl, hc⟩ := h.blk
  refine ⟨h.le, h.max, cur.set (i * 4 + j) v, ?_, by simpa using hl, ?_⟩
  · rw [heap_setCell_same w nb _ cur.toArray _ v hb]
    simp
  · intro i' hi' j' hj'
    by_cases e : i' = i
    · subst e
      rw [upd_same, hn]
      by_cases ej : j' = j
      · subst ej
        have h4 : j' < (ndCells (N i')).length := by simp [ndCells]; omega
        have hl' := h.le
        have h5 : i' * 4 + j' < cur.length := by rw [hl]; omega
        simp [h4, h5]
      · rw [List.getElem?_set, List.getElem?_set, if_neg (by omega), if_neg (fun e => ej e.symm)]
        exact hc i' hi' j' hj'
    · rw [upd_other _ _ _ _ e, List.getElem?_set, if_neg (by omega)]
      exact hc i' hi' j' hj'

/-- The cache's own seven fields. -/
structure Flds (w : World) (cb : Nat) (nodes : Value) (mb : Nat) (e y room hits misses : Int) : Prop where
  f0 : w.cell? ⟨cb, 0, none⟩ = some nodes
  f1 : w.cell? ⟨cb, 1, none⟩ = some (.map (some mb))
  f2 : w.cell? ⟨cb, 2, none⟩ = some (.int .i64 e)
  f3 : w.cell? ⟨cb, 3, none⟩ = some (.int .i64 y)
  f4 : w.cell? ⟨cb, 4, none⟩ = some (.int .i64 room)
  f5 : w.cell? ⟨cb, 5, none⟩ = some (.int .i64 hits)
  f6 : w.cell? ⟨cb, 6, none⟩ = some (.int .i64 misses)
  ff : ∀ o, w.frozen? ⟨cb, o, none⟩ = false

theorem Flds.stay {w w' : World} {cb : Nat} {nodes : Value} {mb : Nat} {e y room hits misses : Int} (h : Flds w cb nodes mb e y room hits misses) (hb : w'.heap[cb]? = w.heap[cb]?) : Flds w' cb nodes mb e y room hits misses := by
  have hc : ∀ o, w'.cell? ⟨cb, o, none⟩ = w.cell? ⟨cb, o, none⟩ := fun o => World.cell?_of_block (w := w) hb
  have hf : ∀ o, w'.frozen? ⟨cb, o, none⟩ = w.frozen? ⟨cb, o, none⟩ := fun o => World.frozen?_of_block (w := w) hb
  exact ⟨(hc 0).trans h.f0, (hc 1).trans h.f1, (hc 2).trans h.f2, (hc 3).trans h.f3, (hc 4).trans h.f4, (hc 5).trans h.f5, (hc 6).trans h.f6, fun o => (hf o).trans (h.ff o)⟩

theorem cell_set_same {w : World} {b o : Nat} {u v : Value} (h : w.cell? ⟨b, o, none⟩ = some u) : (w.setCell ⟨b, o, none⟩ v).cell? ⟨b, o, none⟩ = some v := by
  simp [go_sem, h]
theorem cell_set_off {w : World} {b o o' : Nat} {v : Value} (h : o' ≠ o) : (w.setCell ⟨b, o, none⟩ v).cell? ⟨b, o', none⟩ = w.cell? ⟨b, o', none⟩ := by
  simp [go_sem, h]
theorem heap_set_other {w : World} {b o : Nat} {v : Value} {k : Nat} (h : k ≠ b) : (w.setCell ⟨b, o, none⟩ v).heap[k]? = w.heap[k]? := Below.heap_setCell _ _ _ _ h
theorem frozen_set {w : World} {a p : Addr} {v : Value} : (w.setCell a v).frozen? p = w.frozen? p := by simp

section
variable {w : World} {cb : Nat} {nodes : Value} {mb : Nat} {e y room hits misses : Int}
theorem Flds.set0 (h : Flds w cb nodes mb e y room hits misses) (v : Value) : Flds (w.setCell ⟨cb, 0, none⟩ v) cb v mb e y room hits misses :=
  ⟨cell_set_same h.f0, (cell_set_off (by omega)).trans h.f1, (cell_set_off (by omega)).trans h.f2, (cell_set_off (by omega)).trans h.f3, (cell_set_off (by omega)).trans h.f4, (cell_set_off (by omega)).trans h.f5, (cell_set_off (by omega)).trans h.f6, fun o => frozen_set.trans (h.ff o)⟩
theorem Flds.set2 (h : Flds w cb nodes mb e y room hits misses) (x : Int) : Flds (w.setCell ⟨cb, 2, none⟩ (.int .i64 x)) cb nodes mb x y room hits misses :=
  ⟨(cell_set_off (by omega)).trans h.f0, (cell_set_off (by omega)).trans h.f1, cell_set_same h.f2, (cell_set_off (by omega)).trans h.f3, (cell_set_off (by omega)).trans h.f4, (cell_set_off (by omega)).trans h.f5, (cell_set_off (by omega)).trans h.f6, fun o => frozen_set.trans (h.ff o)⟩
theorem Flds.set3 (h : Flds w cb nodes mb e y room hits misses) (x : Int) : Flds (w.setCell ⟨cb, 3, none⟩ (.int .i64 x)) cb nodes mb e x room hits misses :=
  ⟨(cell_set_off (by omega)).trans h.f0, (cell_set_off (by omega)).trans h.f1, (cell_set_off (by omega)).trans h.f2, cell_set_same h.f3, (cell_set_off (by omega)).trans h.f4, (cell_set_off (by omega)).trans h.f5, (cell_set_off (by omega)).trans h.f6, fun o => frozen_set.trans (h.ff o)⟩
theorem Flds.set5 (h : Flds w cb nodes mb e y room hits misses) (x : Int) : Flds (w.setCell ⟨cb, 5, none⟩ (.int .i64 x)) cb nodes mb e y room x misses :=
  ⟨(cell_set_off (by omega)).trans h.f0, (cell_set_off (by omega)).trans h.f1, (cell_set_off (by omega)).trans h.f2, (cell_set_off (by omega)).trans h.f3, (cell_set_off (by omega)).trans h.f4, cell_set_same h.f5, (cell_set_off (by omega)).trans h.f6, fun o => frozen_set.trans (h.ff o)⟩
theorem Flds.set6 (h : Flds w cb nodes mb e y room hits misses) (x : Int) : Flds (w.setCell ⟨cb, 6, none⟩ (.int .i64 x)) cb nodes mb e y room hits x :=
  ⟨(cell_set_off (by omega)).trans h.f0, (cell_set_off (by omega)).trans h.f1, (cell_set_off (by omega)).trans h.f2, (cell_set_off (by omega)).trans h.f3, (cell_set_off (by omega)).trans h.f4, (cell_set_off (by omega)).trans h.f5, cell_set_same h.f6, fun o => frozen_set.trans (h.ff o)⟩
end

/-- Of what was there, only blocks of S have been written. -/
structure Keeps (S : Nat → Prop) (w w' : World) : Prop where
  os : w'.os = w.os
  tape : w'.tape = w.tape
  output : w'.output = w.output
  size : w.heap.size ≤ w'.heap.size
  block : ∀ k, k < w.heap.size → ¬ S k → w'.heap[k]? = w.heap[k]?

theorem Keeps.refl (S : Nat → Prop) (w : World) : Keeps S w w := ⟨rfl, rfl, rfl, Nat.le_refl _, fun _ _ _ => rfl⟩
theorem Keeps.trans {S : Nat → Prop} {a b c : World} (h : Keeps S a b) (k : Keeps S b c) : Keeps S a c :=
  ⟨k.os.trans h.os, k.tape.trans h.tape, k.output.trans h.output, Nat.le_trans h.size k.size, fun i hi hs => (k.block i (Nat.lt_of_lt_of_le hi h.size) hs).trans (h.block i hi hs)⟩
theorem Keeps.mono {S T : Nat → Prop} {a b : World} (h : Keeps S a b) (hst : ∀ k, k < a.heap.size → S k → T k) : Keeps T a b := ⟨h.os, h.tape, h.output, h.size, fun i hi hs => h.block i hi fun hi' => hs (hst i hi hi')⟩
theorem Keeps.set {S : Nat → Prop} {a w : World} (h : Keeps S a w) {p : Addr} (hp : S p.block) (v : Value) : Keeps S a (w.setCell p v) :=
  h.trans ⟨rfl, rfl, rfl, by simp [World.setCell], fun k hk hs => Below.heap_setCell _ _ _ _ (fun e => hs (e ▸ hp))⟩
theorem Keeps.alloc {S : Nat → Prop} {a w : World} (h : Keeps S a w) (o : Obj) : Keeps S a (w.alloc o) :=
  h.trans ⟨rfl, rfl, rfl, by simp, fun k hk hs => Below.heap_alloc _ _ _ hk⟩
theorem Keeps.drewN {S : Nat → Prop} {a w : World} (h : Keeps S a w) (n : Nat) : Keeps S a (w.drewN n) := ⟨h.os, h.tape, h.output, h.size, h.block⟩
theorem Keeps.drew {S : Nat → Prop} {a w : World} (h : Keeps S a w) : Keeps S a w.drew := ⟨h.os, h.tape, h.output, h.size, h.block⟩
theorem Keeps.of_below {S : Nat → Prop} {w w' : World} (h : Below w.heap.size w w') : Keeps S w w' := ⟨h.os, h.tape, h.output, h.size, fun k hk _ => h.block k hk⟩
theorem Keeps.below {S : Nat → Prop} {w w' : World} {B : Nat} (h : Keeps S w w') (hB : B ≤ w.heap.size) (hs : ∀ k, S k → B ≤ k) : Below B w w' :=
  ⟨h.os, h.tape, h.output, h.size, fun k hk => h.block k (by omega) fun hk' => by have := hs k hk'; omega⟩

end Go.Proofs.YtimkkkdabmhedaaGreatDoor
