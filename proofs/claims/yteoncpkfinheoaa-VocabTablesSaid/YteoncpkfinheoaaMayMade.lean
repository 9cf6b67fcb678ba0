/- Walks: is each long token made by a merge? By the program and by the document. -/
import Derived.Test.YteoncpkfinheoaaMayM
import Derived.Test.YteoncpkfinheoaaMayR
namespace Go.Proofs.Yteoncpkfinheoaa
open Go.RowKit
set_option linter.unusedVariables false

noncomputable abbrev VI : KeyView Try.prog 3 Int := intView Try.underlying3
abbrev MapI (w : World) (mb sz : Nat) (f : Int → Option Int) : Prop := MapK VI 3 w mb sz f

section
variable {w : World} {ops : Array Oper} {rest : List Oper} {o : Oper} {a : Act} {Q : Exit → Act → World → Prop}
theorem wpList_mi_get (hg : o.guard = none) (m x : Operand) (hop : o.op = Op.lookup 102 m x false) {mb sz : Nat} {f : Int → Option Int} (hm : a.eval m = .map (some mb)) (h : MapI w mb sz f)
    {s : Int} (hx : a.eval x = .int .i64 s) (hs : (Lit.int .i64 s).wf = true)
    (hK : wpList Try.prog ops Q rest (a.put o.dst (.int .i64 ((f s).getD 0))) w) : wpList Try.prog ops Q (o :: rest) a w :=
  wpList_mk_get (V := VI) Try.underlying102 Try.underlying3 zeroInt hg m x hop hm h (s := s) hx hs hK
theorem wpList_mi_put (hg : o.guard = none) (m x v : Operand) (hop : o.op = Op.mapUpdate 102 m x v) {mb sz : Nat} {f : Int → Option Int} (hm : a.eval m = .map (some mb)) (h : MapI w mb sz f)
    {s : Int} (hx : a.eval x = .int .i64 s) (hs : (Lit.int .i64 s).wf = true) {c : Int} (hv : a.eval v = .int .i64 c) (hc : (Lit.int .i64 c).wf = true) (hn : sz < maxLen)
    (hK : ∀ w' sz', sz' ≤ sz + 1 → MapI w' mb sz' (fun t => if t = s then some c else f t) → w.grownBy w' (some mb) → wpList Try.prog ops Q rest (a.put o.dst undef) w') : wpList Try.prog ops Q (o :: rest) a w :=
  wpList_mk_put (V := VI) Try.underlying102 Try.underlying3 hg m x v hop hm h (s := s) hx hs hv hc hn fun w' h1 h2 => hK w' _ (by split <;> omega) h1 h2
end

/-- How often tokens are made by the first k merges. -/
def MadeR (M : List Mg) (k : Nat) (f : Int → Option Int) : Prop := ∀ i, ((f i).isSome = true ↔ ∃ j, j < k ∧ (mg M j).out = i) ∧ ∀ c, f i = some c → 1 ≤ c ∧ c ≤ k
theorem MadeR.zero (M : List Mg) : MadeR M 0 (fun _ => none) := fun i => ⟨⟨(fun h => by cases h), fun ⟨j, hj, _⟩ => by omega⟩, fun c hc => by cases hc⟩
theorem MadeR.get {M : List Mg} {k : Nat} {f : Int → Option Int} (h : MadeR M k f) (i : Int) : 0 ≤ (f i).getD 0 ∧ (f i).getD 0 ≤ k ∧ ((f i).getD 0 = 0 ↔ ¬ ∃ j, j < k ∧ (mg M j).out = i) := by
  cases hf : f i with
  | none =>
    have := (h i).1
    rw [hf] at this
    simp at this ⊢
    exact this
  | some c =>
    have h1 := (h i).2 c hf
    have := (h i).1
    rw [hf] at this
    simp at this ⊢
    refine ⟨by omega, by omega, ?_⟩
    obtain ⟨j, hj, e⟩ := this
    constructor
    · intro hc; omega
    · intro h2; exact absurd e (h2 j hj)
theorem MadeR.next {M : List Mg} {k : Nat} {f : Int → Option Int} (h : MadeR M k f) : MadeR M (k + 1) (fun t => if t = (mg M k).out then some ((f (mg M k).out).getD 0 + 1) else f t) := fun i => by
  have hg := h.get (mg M k).out
  by_cases e : i = (mg M k).out
  · subst e
    simp only [if_true, Option.isSome_some, true_iff, Option.some.injEq]
    refine ⟨⟨k, by omega, rfl⟩, fun c hc => by omega⟩
  · simp only [e, if_false]
    refine ⟨?_, fun c hc => by have := (h i).2 c hc; omega⟩
    rw [(h i).1]
    constructor
    · rintro ⟨j, hj, he⟩; exact ⟨j, by omega, he⟩
    · rintro ⟨j, hj, he⟩
      have : j ≠ k := fun ej => e (by rw [← he, ej])
      exact ⟨j, by omega, he⟩

def MayMadePost (T : List ByteArray) (M : List Mg) (w : World) (e : Ending) (w' : World) : Prop := (∃ b, e = .returned (.bool b) ∧ (b = true ↔ MayMade T M)) ∧ Below w.heap.size w w'
theorem notMade {T : List ByteArray} {M : List Mg} {i : Nat} (hi : i < T.length) (h1 : 1 < (tk T i).size) (h2 : ¬ ∃ j, j < M.length ∧ (mg M j).out = (i : Int)) : (false = true ↔ MayMade T M) :=
  ⟨(fun h => by cases h), fun h => by
    obtain ⟨m, hm, e⟩ := h i hi h1
    obtain ⟨j, hj, rfl⟩ := List.getElem_of_mem hm
    exact absurd ⟨j, hj, by rw [← mg_get hj]; exact e⟩ h2⟩
def MadeTo (T : List ByteArray) (M : List Mg) (k : Nat) : Prop := ∀ i, i < k → 1 < (tk T i).size → ∃ j, j < M.length ∧ (mg M j).out = (i : Int)
theorem MadeTo.zero (T : List ByteArray) (M : List Mg) : MadeTo T M 0 := fun i h => by omega
theorem MadeTo.next {T : List ByteArray} {M : List Mg} {k : Nat} (h : MadeTo T M k) (h1 : 1 < (tk T k).size → ∃ j, j < M.length ∧ (mg M j).out = (k : Int)) : MadeTo T M (k + 1) := fun i hi hs => by
  by_cases e : i = k
  · subst e; exact h1 hs
  · exact h i (by omega) hs
theorem MadeTo.all {T : List ByteArray} {M : List Mg} {k n : Nat} (h : MadeTo T M k) (hl : T.length = n) (hk2 : ¬ k < n) : MayMade T M := fun i hi hs => by
  obtain ⟨j, hj, e⟩ := h i (by omega) hs
  exact ⟨mg M j, by rw [← mg_get hj]; exact List.getElem_mem _, e⟩

set_option maxHeartbeats 2000000 in
set_option maxRecDepth 100000 in
theorem mayMade_calls {V : Vc} {dd : Vd} (w : World) (hV : VocR w dd V) (hmay : MayTok V.tokens) (hmg : MayMg V.tokens V.merges) :
    Calls Try.prog 45 #[dd.val] w (MayMadePost V.tokens V.merges w) := by
  obtain ⟨T, M, S⟩ := V
  obtain ⟨ta, tn, tc, ma, mn, mc, sa, sn, sc⟩ := dd
  obtain ⟨hT, hM, _⟩ := hV
  simp only at hT hM hmay hmg ⊢
  have hm := Nat.le_trans (Sl.le hT) (Sl.max hT)
  have hmm := Nat.le_trans hM.le hM.max
  unfold maxLen at hm hmm
  have hlen := Lib.hid hT.count
  have hlenM := Lib.hid (hM.count Mg.enc_len (by omega))
  have hmk := @run_makeMap Try.prog
  obtain ⟨w0, hw0⟩ : ∃ w0, w.alloc (.cells #[.slice ta tn tc, .slice ma mn mc, .slice sa sn sc] 31) = w0 := ⟨_, rfl⟩
  have hb0 : Below w.heap.size w w0 := hw0 ▸ below_alloc w _
  have hx0 : w0.heap[w.heap.size]? = some (.cells #[.slice ta tn tc, .slice ma mn mc, .slice sa sn sc] 31) := by rw [← hw0]; exact heap_alloc_new w _
  have hs0 : w.heap.size < w0.heap.size := by rw [← hw0]; simp
  obtain ⟨c0, c1, c2⟩ := box3v hx0
  have HT := Lib.hid (Sl.below hT hb0)
  have HM := Lib.hid (hM.below hb0)
  have HX0 := Lib.hid hx0
  have HB0 := Lib.hid hb0
  have HMay := Lib.hid hmay
  have HMg := Lib.hid hmg
  have HW0 := Lib.hid hw0
  have hmn : mn ≤ 16384 := by have := hmg.1; have := hlenM.out; omega
  have H0 := Lib.hid (MapK.new VI 3 w0)
  have HB00 := Lib.hid (below_alloc w0 (.map #[] 0))
  have hs00 : w.heap.size + 1 = w0.heap.size := by rw [← hw0]; simp
  have HS00 := Lib.hid hs00
  clear hT hM hmay hmg hb0 hx0 hw0 hs00
  go_enter Try.func45, Try.ntmps45
  go_wp2_with (fail)
  rw [HW0.out]
  go_loopw [5, 12] (fun _ i wr => ∃ (k sz : Nat) (f : Int → Option Int), k ≤ mn ∧ i = .int .i64 k ∧ sz ≤ k ∧ MapI wr (w.heap.size + 1) sz f ∧ Hid (MadeR M k f) ∧ Below w0.heap.size w0 wr) (fun _ i _ => mn - (intOf i).toNat)
  case atStart => exact ⟨0, 0, _, Nat.zero_le _, rfl, Nat.le_refl _, by rw [HS00.out]; exact H0.out, Lib.hid (MadeR.zero M), HB00.out⟩
  case round =>
    obtain ⟨k, sz, f, hk, rfl, hsz, hmap, HMd, hb⟩ := hrel
    have HB := Lib.hid hb
    have HMp := Lib.hid hmap
    clear c0 c1 c2
    obtain ⟨c0, c1, c2⟩ := box3v ((hb.block w.heap.size hs0).trans HX0.out)
    have hlt0 : w.heap.size < wr.heap.size := Nat.lt_of_lt_of_le hs0 hb.size
    clear hb hmap
    by_cases hlt : k < mn
    · have hkM : k < M.length := by have := hlenM.out; omega
      obtain ⟨b, of, rfl, hce⟩ := (HM.out.below HB.out).elem Mg.enc_len (by omega) (mg_eq hkM)
      have hok := HMg.out.ok hkM
      obtain ⟨⟨l, r, o, d⟩, hmeq⟩ : ∃ m, mg M k = m := ⟨_, rfl⟩
      rw [hmeq] at hce hok
      have d0 := hce 0 _ rfl
      have d1 := hce 1 _ rfl
      have d2 := hce 2 _ rfl
      have d3 := hce 3 _ rfl
      rw [Nat.add_zero] at d0
      simp only at d0 d1 d2 d3
      have hio := isTk_iff.1 hok.2.2.1
      have hwo : (Lit.int .i64 o).wf = true := by rw [i64_wf]; have := HMay.out.1; have := hio.2.1; have := hio.1; simp only at *; omega
      have HWO := Lib.hid hwo
      have hwb := below_alloc wr (.cells #[.int .i64 l, .int .i64 r, .int .i64 o, .int .i64 d] 51)
      have HB1 := Lib.hid (HB.out.trans (hwb.mono HB.out.size))
      have HM1 := Lib.hid (HMp.out.below hwb)
      have hg := HMd.out.get o
      have hgw : (Lit.int .i64 ((f o).getD 0 + 1)).wf = true := by rw [i64_wf]; omega
      have HGW := Lib.hid hgw
      have hwr : IntKind.i64.wrap ((f o).getD 0 + 1) = (f o).getD 0 + 1 := by rw [IntKind.wrap_i64]; omega
      have HNX : Hid (MadeR M (k + 1) (fun t => if t = o then some ((f o).getD 0 + 1) else f t)) := Lib.hid (by have := HMd.out.next; rw [hmeq] at this; exact this)
      obtain ⟨c, hc⟩ : ∃ c, (f o).getD 0 = c := ⟨_, rfl⟩
      rw [hc] at hg hgw hwr HGW HNX
      have HC := Lib.hid hc
      obtain ⟨hg1, hg2, _⟩ := hg
      clear hce hmeq hok hio hwo hwb hgw hc
      go_wp2_with (first
        | (with_reducible show wpList _ _ _ (⟨_, .lookup _ _ _ _, _, _, _, _⟩ :: _) _ _; refine wpList_mi_get rfl _ _ rfl rfl HM1.out rfl HWO.out ?_; rw [HC.out])
        | (with_reducible show wpList _ _ _ (⟨_, .mapUpdate _ _ _ _, _, _, _, _⟩ :: _) _ _; refine wpList_mi_put rfl _ _ _ rfl rfl HM1.out rfl HWO.out rfl HGW.out (by unfold maxLen; omega) ?_))
      intro w2 sz2 hsz2 hm2 hg2'
      have HM2 := Lib.hid hm2
      have HB2 := Lib.hid (HB1.out.grown hg2' HB1.out.size fun q hq => by simp at hq; have := HS00.out; omega)
      clear hm2 hg2'
      go_wp2_with (fail)
      go_roundw
      case rel => exact ⟨k + 1, sz2, _, by omega, by go_num, by omega, HM2.out, HNX, HB2.out⟩
      case measure => simp [intOf]; omega
    · have hkn : k = mn := by omega
      have HMd2 : Hid (MadeR M M.length f) := Lib.hid (by rw [hlenM.out, ← hkn]; exact HMd.out)
      clear hkn
      go_wp2_with (fail)
      go_loopw [6, 7, 25] (fun _ _ i wq => ∃ q : Nat, q ≤ tn ∧ i = .int .i64 q ∧ Hid (MadeTo T M q) ∧ wq = wr) (fun _ _ i _ => tn - (intOf i).toNat)
      case atStart => exact ⟨0, Nat.zero_le _, rfl, Lib.hid (MadeTo.zero T M), rfl⟩
      case round =>
        obtain ⟨q, hq, rfl, HT2, rfl⟩ := hrel
        by_cases hltq : q < tn
        · have hqT : q < T.length := by have := hlen.out; omega
          obtain ⟨b, o, rfl, hc⟩ := SlS.cell (Sl.below HT.out HB.out) (tk_eq hqT)
          have hks := HMay.out.2.1 _ (tk_mem hqT)
          have hwq : (Lit.int .i64 (q : Int)).wf = true := by rw [i64_wf]; omega
          have HWQ := Lib.hid hwq
          clear hwq
          by_cases h1 : (1 : Int) < (tk T q).size
          · have hg1 : decide ((1 : Int) < (tk T q).size) = true := by simpa using h1
            have hg := HMd2.out.get (q : Int)
            obtain ⟨c, hcc⟩ : ∃ c, (f (q : Int)).getD 0 = c := ⟨_, rfl⟩
            rw [hcc] at hg
            have hlk : (Instr.lookup 102 (.map (some (w.heap.size + 1))) (.int .i64 (q : Int)) false).run Try.prog wr = .ok (.int .i64 c) wr := by
              rw [← hcc]
              exact MapK.get (V := VI) (s := (q : Int)) Try.underlying102 Try.underlying3 zeroInt HMp.out HWQ.out
            clear hcc
            by_cases hz : c = 0
            · subst hz
              have HF := Lib.hid (notMade hqT (by omega) (hg.2.2.1 rfl))
              clear hg
              go_wp2_with (fail)
              go_ret
              exact ⟨⟨_, rfl, HF.out⟩, HB0.out.trans (HB.out.mono HB0.out.size)⟩
            · have hzz : (c == 0) = false := by simpa using hz
              have HTn : Hid (MadeTo T M (q + 1)) := Lib.hid (HT2.out.next (fun _ => Classical.byContradiction fun h => hz (hg.2.2.2 h)))
              clear hg hz
              go_wp2_with (fail)
              go_roundw
              case rel => exact ⟨q + 1, by omega, by go_num, HTn, by first | rfl | trivial⟩
              case measure => simp [intOf]; omega
          · have hg1 : decide ((1 : Int) < (tk T q).size) = false := by simpa using h1
            have HTn : Hid (MadeTo T M (q + 1)) := Lib.hid (HT2.out.next (fun h => by omega))
            go_wp2_with (fail)
            go_roundw
            case rel => exact ⟨q + 1, by omega, by go_num, HTn, by first | rfl | trivial⟩
            case measure => simp [intOf]; omega
        · have HF := Lib.hid (HT2.out.all hlen.out hltq)
          go_wp2_with (fail)
          go_ret
          exact ⟨⟨_, rfl, (fun _ => HF.out), (fun _ => rfl)⟩, HB0.out.trans (HB.out.mono HB0.out.size)⟩

theorem made_iff {T : List ByteArray} {M : List Mg} {i : Nat} (b : Bool) (h : b = true ↔ (tk T i).size < 2 ∨ ∃ j, j < M.length ∧ (mg M j).out = (i : Int)) : (b = true ↔ (1 < (tk T i).size → ∃ j, j < M.length ∧ (mg M j).out = (i : Int))) := by
  rw [h]
  constructor
  · rintro (h1 | h1)
    · intro h2; omega
    · exact fun _ => h1
  · intro h1
    by_cases h2 : 1 < (tk T i).size
    · exact .inr (h1 h2)
    · exact .inl (by omega)

set_option maxHeartbeats 2000000 in
set_option maxRecDepth 100000 in
theorem rmayMade_calls {V : Vc} {dd : Vd} (w : World) (hV : VocR w dd V) (hmay : MayTok V.tokens) :
    Calls Try.prog 35 #[dd.val] w (MayMadePost V.tokens V.merges w) := by
  obtain ⟨T, M, S⟩ := V
  obtain ⟨ta, tn, tc, ma, mn, mc, sa, sn, sc⟩ := dd
  obtain ⟨hT, hM, _⟩ := hV
  simp only at hT hM hmay ⊢
  have hm := Nat.le_trans (Sl.le hT) (Sl.max hT)
  have hmm := Nat.le_trans hM.le hM.max
  unfold maxLen at hm hmm
  have hlen := Lib.hid hT.count
  have hlenM := Lib.hid (hM.count Mg.enc_len (by omega))
  obtain ⟨w0, hw0⟩ : ∃ w0, w.alloc (.cells #[.slice ta tn tc, .slice ma mn mc, .slice sa sn sc] 31) = w0 := ⟨_, rfl⟩
  have hb0 : Below w.heap.size w w0 := hw0 ▸ below_alloc w _
  have hx0 : w0.heap[w.heap.size]? = some (.cells #[.slice ta tn tc, .slice ma mn mc, .slice sa sn sc] 31) := by rw [← hw0]; exact heap_alloc_new w _
  obtain ⟨c0, c1, c2⟩ := box3v hx0
  have HT := Lib.hid (Sl.below hT hb0)
  have HM := Lib.hid (hM.below hb0)
  have HB0 := Lib.hid hb0
  have HMay := Lib.hid hmay
  have HW0 := Lib.hid hw0
  clear hT hM hmay hb0 hx0 hw0
  go_enter Try.func35, Try.ntmps35
  go_wp2_with (fail)
  rw [HW0.out]
  go_loop [3, 4, 5, 9] (fun _ _ _ i => ∃ (k : Nat), k ≤ tn ∧ i = .int .i64 k ∧ Hid (MadeTo T M k)) (fun _ _ _ i => tn - (intOf i).toNat)
  case atStart => exact ⟨0, Nat.zero_le _, rfl, Lib.hid (MadeTo.zero T M)⟩
  case round =>
    obtain ⟨k, hk, rfl, HMt⟩ := hrel
    by_cases hlt : k < tn
    · have hkT : k < T.length := by have := hlen.out; omega
      obtain ⟨b, o, rfl, hc⟩ := SlS.cell HT.out (tk_eq hkT)
      have hks := HMay.out.2.1 _ (tk_mem hkT)
      obtain ⟨b0, hb0⟩ : ∃ b0 : Bool, decide (((tk T k).size : Int) < 2) = b0 := ⟨_, rfl⟩
      have HB00 := Lib.hid hb0
      go_wp2_with (fail)
      clear hb0
      go_loop [4, 5, 22] (fun m _ i => ∃ (q : Nat) (b : Bool), q ≤ mn ∧ i = .int .i64 q ∧ m = .bool b ∧ Hid (b = true ↔ (tk T k).size < 2 ∨ ∃ j, j < q ∧ (mg M j).out = (k : Int))) (fun _ _ i => mn - (intOf i).toNat)
      case atStart => exact ⟨0, b0, Nat.zero_le _, rfl, rfl, Lib.hid (by
        have := HB00.out
        constructor
        · intro h; rw [h] at this; simp at this; left; omega
        · rintro (h | ⟨j, hj, _⟩)
          · rw [← this]; simp; omega
          · omega)⟩
      case round =>
        obtain ⟨q, bb, hq, rfl, rfl, HQ⟩ := hrel
        by_cases hltq : q < mn
        · obtain ⟨bm, om, rfl, hce⟩ := HM.out.elem Mg.enc_len (by omega) (mg_eq (M := M) (i := q) (by have := hlenM.out; omega))
          have d2 := hce 2 _ rfl
          clear hce
          cases bb with
          | true =>
            have HQ2 : Hid (true = true ↔ (tk T k).size < 2 ∨ ∃ j, j < q + 1 ∧ (mg M j).out = (k : Int)) := Lib.hid ⟨fun _ => by
              rcases HQ.out.1 rfl with h | ⟨j, hj, e⟩
              · exact .inl h
              · exact .inr ⟨j, by omega, e⟩, fun _ => rfl⟩
            go_wp2_with (fail)
            go_round
            case rel => exact ⟨q + 1, true, by omega, by go_num, rfl, HQ2⟩
            case measure => simp [intOf]; omega
          | false =>
            obtain ⟨e, he⟩ : ∃ e : Bool, ((mg M q).out == (k : Int)) = e := ⟨_, rfl⟩
            have HQ2 : Hid (e = true ↔ (tk T k).size < 2 ∨ ∃ j, j < q + 1 ∧ (mg M j).out = (k : Int)) := Lib.hid (by
              constructor
              · intro h; rw [h] at he; exact .inr ⟨q, by omega, by simpa using he⟩
              · rintro (h | ⟨j, hj, e2⟩)
                · have := HQ.out.2 (.inl h); cases this
                · by_cases ej : j = q
                  · subst ej; rw [← he]; simpa using e2
                  · have := HQ.out.2 (.inr ⟨j, by omega, e2⟩); cases this)
            go_wp2_with (fail)
            go_round
            case rel => exact ⟨q + 1, e, by omega, by go_num, rfl, HQ2⟩
            case measure => simp [intOf]; omega
        · have HQ3 : Hid (bb = true ↔ (1 < (tk T k).size → ∃ j, j < M.length ∧ (mg M j).out = (k : Int))) := Lib.hid (made_iff bb (by rw [hlenM.out, show mn = q by omega]; exact HQ.out))
          cases bb with
          | true =>
            have HTn : Hid (MadeTo T M (k + 1)) := Lib.hid (HMt.out.next (HQ3.out.1 rfl))
            go_wp2_with (fail)
            go_round
            case rel => exact ⟨k + 1, by omega, by go_num, HTn⟩
            case measure => simp [intOf]; omega
          | false =>
            have HF : Hid (false = true ↔ MayMade T M) := Lib.hid (by
              by_cases h1 : 1 < (tk T k).size
              · exact notMade hkT h1 (fun h => by have := HQ3.out.2 (fun _ => h); cases this)
              · have := HQ3.out.2 (fun h => absurd h h1); cases this)
            go_wp2_with (fail)
            go_ret
            exact ⟨⟨_, rfl, HF.out⟩, HB0.out⟩
    · have HF := Lib.hid (HMt.out.all hlen.out hlt)
      go_wp2_with (fail)
      go_ret
      exact ⟨⟨_, rfl, (fun _ => HF.out), (fun _ => rfl)⟩, HB0.out⟩

end Go.Proofs.Yteoncpkfinheoaa
