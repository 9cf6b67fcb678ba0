/- Walks: the sorts that the program calls: of merges by their order, of at most 20 specials by their names. -/
import Derived.Test.YteoncpkfinheoaaSort
import Derived.Test.YteoncpkfinheoaaShelf
namespace Go.Proofs.Yteoncpkfinheoaa
open Go.RowKit
open Go.Sort hiding Below
set_option linter.unusedVariables false

theorem Mg.enc_one (x : Mg) : ∀ v ∈ x.enc, v.oneCell' = true := by
  intro v hv
  simp [Mg.enc] at hv
  rcases hv with rfl | rfl | rfl | rfl <;> rfl
theorem Sp.enc_one (x : Sp) : ∀ v ∈ x.enc, v.oneCell' = true := by
  intro v hv
  simp [Sp.enc] at hv
  rcases hv with rfl | rfl <;> rfl

theorem ltM (a b : Mg) : ltOf cmpM a b = ahead a b := by
  unfold ltOf
  cases h : ahead a b with
  | true => simpa using cmpM_lt.2 h
  | false =>
    have : ¬ cmpM a b < 0 := fun h2 => by rw [cmpM_lt.1 h2] at h; cases h
    simpa using this
theorem swoM : SWO (ltOf cmpM) where
  irrefl x := by rw [ltM]; exact ahead_irrefl x
  trans x y z h1 h2 := by rw [ltM] at *; exact ahead_trans h1 h2
  ntrans x y z h1 h2 := by rw [ltM] at *; exact ahead_ntrans h1 h2

theorem cmpLaysM (blk off size : Nat) (w : World) : CmpLays Try.prog 30 #[] Mg.enc 4 cmpM blk off size w :=
  fun _ _ _ _ x y => order_g x y _

def cmpS (a b : ByteArray) : Int := if sless a b = true then -1 else if a.toList == b.toList then 0 else 1

set_option maxHeartbeats 400000 in
theorem compareS_calls (a b : ByteArray) (w : World) : Calls Try.prog 28 #[.string a, .string b] w fun e w' => e = .returned (.int .i64 (cmpS a b)) ∧ w = w' := by
  have ha := bneS_yes (rfl : a = a)
  have hb := bneS_yes (rfl : b = b)
  have ha2 := beqS_yes (rfl : a = a)
  have hb2 := beqS_yes (rfl : b = b)
  cases hl : Op.bytesLess a.toList b.toList with
  | true =>
    have HF : Hid (cmpS a b = -1) := Lib.hid (by unfold cmpS sless; rw [if_pos hl])
    go_enter Try.func28, Try.ntmps28
    go_wp2
    go_ret
    exact ⟨ret_i64 HF.out.symm, rfl⟩
  | false =>
    cases he : (a.toList == b.toList) with
    | true =>
      have HF : Hid (cmpS a b = 0) := Lib.hid (by unfold cmpS sless; rw [if_neg (by rw [hl]; simp), if_pos he])
      go_enter Try.func28, Try.ntmps28
      go_wp2
      go_ret
      exact ⟨ret_i64 HF.out.symm, rfl⟩
    | false =>
      have HF : Hid (cmpS a b = 1) := Lib.hid (by unfold cmpS sless; rw [if_neg (by rw [hl]; simp), if_neg (by rw [he]; simp)])
      go_enter Try.func28, Try.ntmps28
      go_wp2
      go_ret
      exact ⟨ret_i64 HF.out.symm, rfl⟩

def cmpN (a b : Sp) : Int := cmpS a.name b.name
theorem ltN (a b : Sp) : ltOf cmpN a b = sless a.name b.name := by
  unfold ltOf cmpN cmpS
  cases h : sless a.name b.name with
  | true => simp
  | false =>
    cases (a.name.toList == b.name.toList) <;> simp
theorem swoN : SWO (ltOf cmpN) where
  irrefl x := by rw [ltN]; exact sless_irrefl _
  trans x y z h1 h2 := by rw [ltN] at *; exact sless_trans h1 h2
  ntrans x y z h1 h2 := by rw [ltN] at *; exact sless_ntrans h1 h2

set_option maxHeartbeats 1000000 in
theorem byName_calls (a b : Sp) (w : World) :
    Calls Try.prog 27 #[.agg #[.string a.name, .int .i64 a.id], .agg #[.string b.name, .int .i64 b.id]] w fun e w' => e = .returned (.int .i64 (cmpN a b)) ∧ ∃ q os, w' = grow (w.drewN q) os := by
  go_enter Try.func27, Try.ntmps27
  go_wp2_with (fail)
  refine (compareS_calls a.name b.name _).mono ?_
  rintro e w' ⟨rfl, rfl⟩
  go_wp2
  go_ret
  exact ⟨rfl, 0, _, by rw [alloc_eq_grow, alloc_eq_grow, grow_grow]; rfl⟩

theorem cmpLaysN (blk off size : Nat) (w : World) : CmpLays Try.prog 27 #[] Sp.enc 2 cmpN blk off size w :=
  fun _ _ _ _ x y => byName_calls x y _

/-- slices.insertionSortCmpFunc of specials. -/
theorem insS_calls {w : World} {base g n cap : Nat} {S : List Sp} (h : OwnF Sp.enc 2 48 w base (.slice (some ⟨g, 0, none⟩) n cap) S) (hb : base ≤ w.heap.size) (a b : Nat) (hab : a ≤ b) (hbn : b ≤ n) (hsz : n < 4611686018427387904) :
    Calls Try.prog 49 #[.slice (some ⟨g, 0, none⟩) n cap, .int .i64 a, .int .i64 b, .func (.func 27) #[] #[]] w fun e w' => e = .returned (.tuple #[]) ∧
      ∃ S', PermIn a b S.toArray S'.toArray ∧ SortedIn (ltOf cmpN) a b S'.toArray ∧ OwnF Sp.enc 2 48 w' base (.slice (some ⟨g, 0, none⟩) n cap) S' ∧ RowKit.Below base w w' := by
  obtain ⟨hH, hln, hbg, hlt⟩ := holdsK_own Sp.enc_len (by omega) h
  subst hln
  have eg : ∀ args w, (callFunc 27 args).run Try.prog w = .ok (.enter 27 args) w := enters_of Try.func27 (by kernel_rfl) rfl
  have hcon := AnyQ.insertionSortCmpFunc Try.insS 2 Try.isAgg48 Try.sizeOf48 Sp.enc Sp.enc_len Sp.enc_one cmpN 27 #[] g 0 cap a b S.toArray w eg (cmpLaysN g 0 S.toArray.size w) hH hlt hab (by simpa using hbn) (by simpa using hsz)
  change Calls Try.prog 49 _ _ _ at hcon
  refine hcon.mono ?_
  rintro e w' ⟨rfl, m, os, rfl⟩
  have hh := insertionSort_holds (lt := ltOf cmpN) swoN S.toArray a b hab (by simpa using hbn)
  refine ⟨rfl, (Go.Sort.insertionSort (ltOf cmpN) S.toArray a b).toList, by simpa using hh.1, by simpa using hh.2, ?_, below_sortWorldK hbg hb _ _ _⟩
  have h3 : (Go.Sort.insertionSort (ltOf cmpN) S.toArray a b).toList.length = S.length := by simpa using hh.1.1
  have := ownF_sorted Sp.enc_len (by omega) h h3 m os
  simpa using this

set_option maxHeartbeats 1000000 in
theorem insS_none (ao : Option Addr) (cap : Nat) (fv : Value) (w : World) :
    Calls Try.prog 49 #[.slice ao 0 cap, .int .i64 0, .int .i64 0, fv] w fun e w' => e = .returned (.tuple #[]) ∧ w = w' := by
  go_enter Try.func49, Try.ntmps49
  go_wp2_with (fail)
  go_loop [8] (fun i => i = .int .i64 1) (fun _ => 0)
  case atStart => rfl
  case round =>
    subst hrel
    go_wp2_with (fail)
    go_end0
    exact ⟨rfl, rfl⟩

theorem permIn_none {α : Type} [Inhabited α] {a : Nat} {d d' : Array α} (h : Go.Sort.PermIn a a d d') : d' = d := by
  obtain ⟨h1, h2, _⟩ := h
  refine Array.ext h1 (fun i h3 h4 => ?_)
  have := h2 i (by omega)
  rwa [getElem!_pos d' i h3, getElem!_pos d i h4] at this

def ByName (w : World) (base : Nat) (v : Value) (S : List Sp) (e : Ending) (w' : World) : Prop :=
  e = .returned (.tuple #[]) ∧ ∃ S', S'.Perm S ∧ S'.Pairwise (fun a b => sless b.name a.name = false) ∧ OwnF Sp.enc 2 48 w' base v S' ∧ RowKit.Below base w w'

set_option maxHeartbeats 1000000 in
/-- slices.stableCmpFunc of at most 20 specials. -/
theorem stableS_calls {w : World} {base n cap : Nat} {ao : Option Addr} {S : List Sp} (h : OwnF Sp.enc 2 48 w base (.slice ao n cap) S) (hb : base ≤ w.heap.size) (hn : n ≤ 20) :
    Calls Try.prog 38 #[.slice ao n cap, .int .i64 n, .func (.func 27) #[] #[]] w (ByName w base (.slice ao n cap) S) := by
  cases ao with
  | none =>
    have h0 : n = 0 ∧ S = [] := by
      rcases h.2 with ⟨hv, hn⟩ | ⟨g, c2, cur, hv, _⟩
      · simp at hv
        exact ⟨hv.1, List.eq_nil_of_length_eq_zero hn⟩
      · simp at hv
    obtain ⟨rfl, rfl⟩ := h0
    have HF : Hid (ByName w base (.slice none 0 cap) [] (.returned (.tuple #[])) w) := Lib.hid ⟨rfl, [], List.Perm.refl _, List.Pairwise.nil, h, RowKit.Below.refl _ _⟩
    go_enter Try.func38, Try.ntmps38
    go_wp2_with (fail)
    go_loop [7, 8] (fun a b => a = .int .i64 0 ∧ b = .int .i64 20) (fun _ _ => 0)
    case atStart => exact ⟨rfl, rfl⟩
    case round =>
      obtain ⟨rfl, rfl⟩ := hrel
      go_wp2_with (fail)
      refine (insS_none none cap _ w).mono ?_
      rintro e w' ⟨rfl, rfl⟩
      go_wp2_with (fail)
      go_loop [6] (fun a => a = .int .i64 20) (fun _ => 0)
      case atStart => rfl
      case round =>
        subst hrel
        go_wp2_with (fail)
        (go_end0; exact HF.out)
  | some ad =>
    obtain ⟨g, rfl⟩ : ∃ g, ad = ⟨g, 0, none⟩ := by
      rcases h.2 with ⟨hv, _⟩ | ⟨g, c2, cur, hv, _⟩
      · simp at hv
      · simp at hv; exact ⟨g, hv.1⟩
    obtain ⟨_, hln, _, _⟩ := holdsK_own Sp.enc_len (by omega) h
    have HLN : Hid (S.length = n) := Lib.hid hln
    by_cases h20 : n < 20
    · clear hln
      go_enter Try.func38, Try.ntmps38
      go_wp2_with (fail)
      go_loop [7, 8] (fun a b => a = .int .i64 0 ∧ b = .int .i64 20) (fun _ _ => 0)
      case atStart => exact ⟨rfl, rfl⟩
      case round =>
        obtain ⟨rfl, rfl⟩ := hrel
        go_wp2_with (fail)
        refine (insS_calls h hb 0 n (by omega) (by omega) (by omega)).mono ?_
        rintro e w' ⟨rfl, S', hp, hs, ho, hbw⟩
        have HF : Hid (ByName w base (.slice (some ⟨g, 0, none⟩) n cap) S (.returned (.tuple #[])) w') := Lib.hid (by
          have e2 : n = S.toArray.size := by simpa using HLN.out.symm
          rw [e2] at hp hs
          obtain ⟨h1, h2, h3⟩ := perm_sorted hp hs
          exact ⟨rfl, S', by simpa using h1, by simpa [ltN] using h2, ho, hbw⟩)
        clear hp hs
        go_wp2_with (fail)
        go_loop [6] (fun a => a = .int .i64 20) (fun _ => 0)
        case atStart => rfl
        case round =>
          subst hrel
          go_wp2_with (fail)
          (go_end0; exact HF.out)
    · obtain rfl : n = 20 := by omega
      clear hln
      show Calls Try.prog 38 #[.slice (some ⟨g, 0, none⟩) 20 cap, .int .i64 20, .func (.func 27) #[] #[]] w (ByName w base (.slice (some ⟨g, 0, none⟩) 20 cap) S)
      go_enter Try.func38, Try.ntmps38
      go_wp2_with (fail)
      go_loopw [7, 8] (fun a b wr => (a = .int .i64 0 ∧ b = .int .i64 20 ∧ wr = w) ∨ (a = .int .i64 20 ∧ b = .int .i64 40 ∧ Hid (∃ S', PermIn 0 20 S.toArray S'.toArray ∧ SortedIn (ltOf cmpN) 0 20 S'.toArray ∧ OwnF Sp.enc 2 48 wr base (.slice (some ⟨g, 0, none⟩) 20 cap) S' ∧ RowKit.Below base w wr))) (fun a _ _ => 20 - (intOf a).toNat)
      case atStart => exact .inl ⟨rfl, rfl, rfl⟩
      case round =>
        rcases hrel with ⟨rfl, rfl, rfl⟩ | ⟨rfl, rfl, HS⟩
        · go_wp2_with (fail)
          refine (insS_calls h hb 0 20 (by omega) (by omega) (by omega)).mono ?_
          rintro e w' ⟨rfl, S', hp, hs, ho, hbw⟩
          have HS : Hid (∃ S', PermIn 0 20 S.toArray S'.toArray ∧ SortedIn (ltOf cmpN) 0 20 S'.toArray ∧ OwnF Sp.enc 2 48 w' base (.slice (some ⟨g, 0, none⟩) 20 cap) S' ∧ RowKit.Below base wr w') := Lib.hid ⟨S', hp, hs, ho, hbw⟩
          clear hp hs ho hbw
          go_wp2_with (fail)
          go_roundw
          case rel => exact .inr ⟨rfl, rfl, HS⟩
          case measure => simp [intOf]
        · go_wp2_with (fail)
          obtain ⟨S', hp, hs, ho, hbw⟩ := HS.out
          refine (insS_calls ho (Nat.le_trans hb hbw.size) 20 20 (by omega) (by omega) (by omega)).mono ?_
          rintro e w' ⟨rfl, S2, hp2, _, ho2, hbw2⟩
          have HF : Hid (ByName w base (.slice (some ⟨g, 0, none⟩) 20 cap) S (.returned (.tuple #[])) w') := Lib.hid (by
            have e3 := permIn_none hp2
            rw [← e3] at hp hs
            have e2 : 20 = S.toArray.size := by simpa using HLN.out.symm
            rw [e2] at hp hs
            obtain ⟨h1, h2, h3⟩ := perm_sorted hp hs
            exact ⟨rfl, S2, by simpa using h1, by simpa [ltN] using h2, ho2, hbw.trans hbw2⟩)
          clear hp hs ho hbw hp2 ho2 hbw2 HS
          go_wp2_with (fail)
          go_loop [6] (fun a => a = .int .i64 20) (fun _ => 0)
          case atStart => rfl
          case round =>
            subst hrel
            go_wp2_with (fail)
            (go_end0; exact HF.out)

set_option maxHeartbeats 400000 in
/-- slices.SortStableFunc of at most 20 specials. -/
theorem sortS_calls {w : World} {base : Nat} {v : Value} {S : List Sp} (h : OwnF Sp.enc 2 48 w base v S) (hb : base ≤ w.heap.size) (hn : S.length ≤ 20) :
    Calls Try.prog 26 #[v, .func (.func 27) #[] #[]] w (ByName w base v S) := by
  obtain ⟨ao, cap, rfl, _⟩ := h.sl
  have hcon := stableS_calls h hb hn
  generalize S.length = n at *
  go_enter Try.func26, Try.ntmps26
  go_wp2_with (fail)
  refine hcon.mono ?_
  rintro e w' hp
  obtain rfl := hp.1
  go_wp2
  (go_end0; exact hp)

end Go.Proofs.Yteoncpkfinheoaa
