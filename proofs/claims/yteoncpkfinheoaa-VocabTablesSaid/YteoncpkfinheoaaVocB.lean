/- Walks: may tokens be? The program's map of their places; the document's search. -/
import Derived.Test.YteoncpkfinheoaaVocA
namespace Go.Proofs.Yteoncpkfinheoaa
open Go.RowKit
set_option linter.unusedVariables false

theorem zeroInt (w : World) : (zeroValue 3).run Try.prog w = .ok (.int .i64 0) w := by kernel_rfl
noncomputable abbrev VS : KeyView Try.prog 9 ByteArray := strView Try.underlying9
abbrev MapS (w : World) (mb sz : Nat) (f : ByteArray → Option Int) : Prop := MapK VS 3 w mb sz f

section
variable {w : World} {ops : Array Oper} {rest : List Oper} {o : Oper} {a : Act} {Q : Exit → Act → World → Prop}
theorem wpList_ms_ok (hg : o.guard = none) (m x : Operand) (hop : o.op = Op.lookup 56 m x true) {mb sz : Nat} {f : ByteArray → Option Int} (hm : a.eval m = .map (some mb)) (h : MapS w mb sz f)
    {s : ByteArray} (hx : a.eval x = .string s) (hs : s.size ≤ maxLen)
    (hK : wpList Try.prog ops Q rest (a.put o.dst (.tuple #[.int .i64 ((f s).getD 0), .bool (f s).isSome])) w) : wpList Try.prog ops Q (o :: rest) a w :=
  wpList_mk_ok (V := VS) Try.underlying56 Try.underlying3 zeroInt hg m x hop hm h (s := s) hx hs hK
theorem wpList_ms_put (hg : o.guard = none) (m x v : Operand) (hop : o.op = Op.mapUpdate 56 m x v) {mb sz : Nat} {f : ByteArray → Option Int} (hm : a.eval m = .map (some mb)) (h : MapS w mb sz f)
    {s : ByteArray} (hx : a.eval x = .string s) (hs : s.size ≤ maxLen) {c : Int} (hv : a.eval v = .int .i64 c) (hc : (Lit.int .i64 c).wf = true) (hn : sz < maxLen)
    (hK : ∀ w', MapS w' mb (if (f s).isSome then sz else sz + 1) (fun t => if t = s then some c else f t) → w.grownBy w' (some mb) → wpList Try.prog ops Q rest (a.put o.dst undef) w') : wpList Try.prog ops Q (o :: rest) a w :=
  wpList_mk_put (V := VS) Try.underlying56 Try.underlying3 hg m x v hop hm h (s := s) hx hs hv hc hn hK
end

/-- The first k tokens' places. -/
def PlaceR (T : List ByteArray) (k : Nat) (f : ByteArray → Option Int) : Prop := ∀ s i, f s = some i ↔ s.size ≠ 0 ∧ ∃ j, j < k ∧ i = ((j : Nat) : Int) ∧ tk T j = s
def UniqTo (T : List ByteArray) (k : Nat) : Prop := ∀ i j, i < j → j < k → tk T i = tk T j → (tk T i).size = 0

theorem PlaceR.zero (T : List ByteArray) : PlaceR T 0 (fun _ => none) := fun s i => ⟨(fun h => by cases h), fun ⟨_, j, hj, _⟩ => by omega⟩
theorem UniqTo.zero (T : List ByteArray) : UniqTo T 0 := fun i j h1 h2 => by omega
theorem PlaceR.skip {T : List ByteArray} {k : Nat} {f : ByteArray → Option Int} (h : PlaceR T k f) (hz : (tk T k).size = 0) : PlaceR T (k + 1) f := fun s i => by
  rw [h s i]
  constructor
  · rintro ⟨h1, j, h2, h3⟩; exact ⟨h1, j, by omega, h3⟩
  · rintro ⟨h1, j, h2, h3, h4⟩
    refine ⟨h1, j, ?_, h3, h4⟩
    have : j ≠ k := fun e => h1 (by rw [← h4, e]; exact hz)
    omega
theorem UniqTo.skip {T : List ByteArray} {k : Nat} (h : UniqTo T k) (hz : (tk T k).size = 0) : UniqTo T (k + 1) := fun i j h1 h2 e => by
  by_cases hj : j = k
  · rw [e, hj]; exact hz
  · exact h i j h1 (by omega) e
theorem PlaceR.put {T : List ByteArray} {k : Nat} {f : ByteArray → Option Int} (h : PlaceR T k f) (hz : (tk T k).size ≠ 0) (hf : f (tk T k) = none) : PlaceR T (k + 1) (fun t => if t = tk T k then some (k : Int) else f t) := fun s i => by
  show (if s = tk T k then some (k : Int) else f s) = some i ↔ _
  by_cases e : s = tk T k
  · rw [if_pos e]
    constructor
    · intro h1; simp at h1; exact ⟨by rw [e]; exact hz, k, by omega, h1.symm, e.symm⟩
    · rintro ⟨h1, j, h2, h3, h4⟩
      by_cases hj : j = k
      · rw [h3, hj]
      · have : f s = some i := (h s i).2 ⟨h1, j, by omega, h3, h4⟩
        rw [e, hf] at this; cases this
  · rw [if_neg e, h s i]
    constructor
    · rintro ⟨h1, j, h2, h3⟩; exact ⟨h1, j, by omega, h3⟩
    · rintro ⟨h1, j, h2, h3, h4⟩
      have : j ≠ k := fun ej => e (by rw [← h4, ej])
      exact ⟨h1, j, by omega, h3, h4⟩
theorem UniqTo.put {T : List ByteArray} {k : Nat} {f : ByteArray → Option Int} (h : UniqTo T k) (hp : PlaceR T k f) (hz : (tk T k).size ≠ 0) (hf : f (tk T k) = none) : UniqTo T (k + 1) := fun i j h1 h2 e => by
  by_cases hj : j = k
  · subst hj
    have : f (tk T j) = some (i : Int) := (hp _ _).2 ⟨hz, i, h1, rfl, e⟩
    rw [hf] at this; cases this
  · exact h i j h1 (by omega) e
theorem PlaceR.twice {T : List ByteArray} {k : Nat} {f : ByteArray → Option Int} (hp : PlaceR T k f) (hk : k < T.length) {i : Int} (hf : f (tk T k) = some i) : ¬ Uniq T := fun hu => by
  obtain ⟨h1, j, h2, h3, h4⟩ := (hp _ _).1 hf
  exact h1 (by rw [← h4]; exact hu j k h2 hk h4)
theorem UniqTo.all {T : List ByteArray} {k n : Nat} (h : UniqTo T k) (hl : T.length = n) (hk : ¬ k < n) : Uniq T := fun i j h1 h2 e => h i j h1 (by omega) e
theorem PlaceR.all {T : List ByteArray} {k n : Nat} {f : ByteArray → Option Int} (h : PlaceR T k f) (hk : k ≤ n) (hk2 : ¬ k < n) : PlaceR T n f := by
  obtain rfl : k = n := by omega
  exact h

theorem PlaceR.of {T : List ByteArray} {n : Nat} {f : ByteArray → Option Int} (h : PlaceR T n f) (hl : T.length = n) (hu : Uniq T) (s : ByteArray) : f s = if 0 ≤ ofT T s then some (ofT T s) else none := by
  rcases ofT_cases T s with ⟨h0, e⟩ | ⟨h0, ⟨i, hi, h1, h2, e⟩⟩ | ⟨h0, h1, e⟩
  · rw [e, if_neg (by omega)]
    cases hf : f s with
    | none => rfl
    | some i => exact absurd h0 ((h s i).1 hf).1
  · rw [e, if_pos (by omega)]
    exact (h s i).2 ⟨h0, i, by omega, rfl, h1⟩
  · rw [e, if_neg (by omega)]
    cases hf : f s with
    | none => rfl
    | some i =>
      obtain ⟨_, j, h2, _, h4⟩ := (h s i).1 hf
      exact absurd h4 (h1 j (by omega))

def PlacesPost (T : List ByteArray) (w : World) (e : Ending) (w' : World) : Prop :=
  ((Uniq T ∧ ∃ mb sz f, e = .returned (.tuple #[.map (some mb), .bool true]) ∧ w.heap.size ≤ mb ∧ MapS w' mb sz f ∧ PlaceR T T.length f) ∨ (¬ Uniq T ∧ e = .returned (.tuple #[.map none, .bool false]))) ∧ Below w.heap.size w w'

set_option maxHeartbeats 1000000 in
set_option maxRecDepth 100000 in
theorem places_calls {T : List ByteArray} {ao : Option Addr} {n c : Nat} (w : World) (hT : SlS w ao n c T) (hsz : ∀ s ∈ T, s.size ≤ maxLen) (hn : n ≤ 1048576) :
    Calls Try.prog 16 #[.slice ao n c] w (PlacesPost T w) := by
  have hm := Nat.le_trans (Sl.le hT) (Sl.max hT)
  unfold maxLen at hm
  have hlen := Lib.hid hT.count
  have hmm := @run_makeMap Try.prog
  have HT := Lib.hid hT
  have HS := Lib.hid hsz
  have H0 := Lib.hid (MapK.new VS 3 w)
  have HB0 := Lib.hid (below_alloc w (.map #[] 0))
  clear hT hsz
  go_enter Try.func16, Try.ntmps16
  go_wp2
  go_loopw [5, 6, 7, 8, 12] (fun _ _ _ _ i wr => ∃ (k sz : Nat) (f : ByteArray → Option Int), k ≤ n ∧ i = .int .i64 k ∧ sz ≤ k ∧ MapS wr w.heap.size sz f ∧ Hid (PlaceR T k f) ∧ Hid (UniqTo T k) ∧ Below w.heap.size w wr) (fun _ _ _ _ i _ => n - (intOf i).toNat)
  case atStart => exact ⟨0, 0, _, Nat.zero_le _, rfl, Nat.le_refl _, H0.out, Lib.hid (PlaceR.zero T), Lib.hid (UniqTo.zero T), HB0.out⟩
  case round =>
    obtain ⟨k, sz, f, hk, rfl, hszk, hmap, HP, HU, hb⟩ := hrel
    have HM := Lib.hid hmap
    have HB := Lib.hid hb
    clear hmap hb
    by_cases hlt : k < n
    · have hkT : k < T.length := by have := hlen.out; omega
      obtain ⟨b, o, rfl, hc⟩ := SlS.cell (Sl.below HT.out HB.out) (tk_eq (T := T) (i := k) hkT)
      have hks := Lib.hid (HS.out _ (tk_mem hkT))
      by_cases hz : (tk T k).size = 0
      · obtain ⟨e1, e2, e3⟩ := strE_yes hz
        have HP2 := Lib.hid (HP.out.skip hz)
        have HU2 := Lib.hid (HU.out.skip hz)
        clear hz
        go_wp2
        go_roundw
        case rel => exact ⟨k + 1, sz, f, by omega, by go_num, by omega, HM.out, HP2, HU2, HB.out⟩
        case measure => simp [intOf]; omega
      · obtain ⟨e1, e2, e3⟩ := strE_no hz
        have HZ := Lib.hid hz
        clear hz
        cases hf : f (tk T k) with
        | some i =>
          have hnu := Lib.hid (HP.out.twice hkT hf)
          go_wp2_with (with_reducible show wpList _ _ _ (⟨_, .lookup _ _ _ _, _, _, _, _⟩ :: _) _ _; refine wpList_ms_ok rfl _ _ rfl rfl HM.out rfl hks.out ?_; rw [hf])
          go_ret2
          exact ⟨.inr ⟨hnu.out, rfl⟩, HB.out⟩
        | none =>
          have HP2 := Lib.hid (HP.out.put HZ.out hf)
          have HU2 := Lib.hid (HU.out.put HP.out HZ.out hf)
          have hwf : (Lit.int .i64 (k : Int)).wf = true := by rw [i64_wf]; omega
          go_wp2_with (first
            | (with_reducible show wpList _ _ _ (⟨_, .lookup _ _ _ _, _, _, _, _⟩ :: _) _ _; refine wpList_ms_ok rfl _ _ rfl rfl HM.out rfl hks.out ?_; rw [hf])
            | (with_reducible show wpList _ _ _ (⟨_, .mapUpdate _ _ _ _, _, _, _, _⟩ :: _) _ _; refine wpList_ms_put rfl _ _ _ rfl rfl HM.out rfl hks.out rfl hwf (by unfold maxLen; omega) ?_))
          intro w2 hm2 hg2
          have HM2 := Lib.hid hm2
          have HB2 := Lib.hid (HB.out.grown hg2 HB.out.size fun q hq => by simp at hq; omega)
          clear hm2 hg2
          go_wp2
          go_roundw
          case rel => exact ⟨k + 1, _, _, by omega, by go_num, by omega, HM2.out, HP2, HU2, HB2.out⟩
          case measure => simp [intOf]; omega
    · have HF := Lib.hid (HU.out.all hlen.out hlt)
      have HP2 := Lib.hid (HP.out.all hk hlt)
      go_wp2
      go_ret2
      exact ⟨.inl ⟨HF.out, _, _, _, rfl, Nat.le_refl _, HM.out, by rw [hlen.out]; exact HP2.out⟩, HB.out⟩

end Go.Proofs.Yteoncpkfinheoaa
