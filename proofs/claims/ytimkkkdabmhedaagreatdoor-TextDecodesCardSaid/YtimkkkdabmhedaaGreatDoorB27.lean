/- The scanners and the pieces of a text, in plain Lean: no program here. -/
import Derived.Test.YtimkkkdabmhedaaGreatDoorB25
import Derived.Test.YtimkkkdabmhedaaGreatDoorB9
import Derived.Test.YtimkkkdabmhedaaGreatDoorB1
import Derived.Test.YtimkkkdabmhedaaGreatDoorB19
namespace Go.Proofs.YtimkkkdabmhedaaGreatDoor
open Go
set_option linter.unusedVariables false

def isSp (p : Pt) : Bool := decide (p.cls = 3) || decide (p.cls = 4)
/-- How many of a class stand in a row from a place on; how many spaces; how many others. -/
def rowN (L : List Pt) (i : Nat) (c : Int) : Nat := ((L.drop i).takeWhile (fun p => decide (p.cls = c))).length
def spN (L : List Pt) (i : Nat) : Nat := ((L.drop i).takeWhile isSp).length
def nsN (L : List Pt) (i : Nat) : Nat := ((L.drop i).takeWhile (fun p => !isSp p)).length
def isC (L : List Pt) (i : Nat) (c : Int) : Bool := match L[i]? with | some p => decide (p.cls = c) | none => false
def spC (L : List Pt) (i : Nat) : Bool := match L[i]? with | some p => isSp p | none => false
def sureC (L : List Pt) (i : Nat) : Bool := match L[i]? with | some p => p.sure | none => false
def cdOf (wide : Bool) (p : Pt) : Int := if wide = true ∧ 65 ≤ p.code ∧ p.code ≤ 90 then p.code + 32 else p.code
def cdC (L : List Pt) (wide : Bool) (i : Nat) : Int := match L[i]? with | some p => cdOf wide p | none => -1
def ptC (L : List Pt) (i : Nat) : Pt := match L[i]? with | some p => p | none => ⟨0, 0, 0, false⟩
def lineN (L : List Pt) : Nat → Nat
  | 0 => 0
  | n + 1 => if isC L n 4 then n + 1 else lineN L n
def oneE (c : Int) : Prop := c = 115 ∨ c = 116 ∨ c = 109 ∨ c = 100
instance (c : Int) : Decidable (oneE c) := by unfold oneE; infer_instance
def fstE (c : Int) : Prop := c = 114 ∨ c = 118 ∨ c = 108
instance (c : Int) : Decidable (fstE c) := by unfold fstE; infer_instance
def twoE (c d : Int) : Prop := (c = 114 ∧ d = 101) ∨ (c = 118 ∧ d = 101) ∨ (c = 108 ∧ d = 108)
instance (c d : Int) : Decidable (twoE c d) := by unfold twoE; infer_instance
/-- An ending's points; zero. -/
def endN (L : List Pt) (wide : Bool) : Nat := if cdC L wide 0 ≠ 39 then 0 else if oneE (cdC L wide 1) then 2 else if twoE (cdC L wide 1) (cdC L wide 2) then 3 else 0
def ledN (L : List Pt) (c : Int) : Nat := if (ptC L 0).code = 32 ∧ isC L 1 c = true then 1 + rowN L 1 c else rowN L 0 c
def spacesF (L : List Pt) : Nat × Nat := if spN L 0 < L.length ∧ 1 < spN L 0 then (spN L 0 - 1, spN L 0 + 1) else (spN L 0, spN L 0 + 1)
def plainF (L : List Pt) : Nat × Nat :=
  if 0 < endN L false then (endN L false, endN L false)
  else if 0 < ledN L 1 then (ledN L 1, ledN L 1 + 1)
  else if 0 < ledN L 2 then (ledN L 2, ledN L 2 + 1)
  else if 0 < ledN L 0 then (ledN L 0, ledN L 0 + 1)
  else spacesF L
def leadsC (L : List Pt) : Bool := decide ((ptC L 0).cls = 0) || decide ((ptC L 0).cls = 3)
def wideF (L : List Pt) : Nat × Nat :=
  if 0 < endN L true then (endN L true, endN L true)
  else if 0 < rowN L 0 1 then (rowN L 0 1, rowN L 0 1 + 1)
  else if leadsC L = true ∧ isC L 1 1 = true then (1 + rowN L 1 1, 1 + rowN L 1 1 + 1)
  else if 0 < rowN L 0 2 then (min (rowN L 0 2) 3, min (min (rowN L 0 2) 3 + 1) 3)
  else if 0 < ledN L 0 then (ledN L 0 + rowN L (ledN L 0) 4, ledN L 0 + rowN L (ledN L 0) 4 + 1)
  else if 0 < lineN L (spN L 0) then (lineN L (spN L 0), spN L 0 + 1)
  else spacesF L
def wordF (L : List Pt) : Nat × Nat := (spN L 0 + nsN L (spN L 0), spN L 0 + nsN L (spN L 0) + 1)
def cutF (kind : Int) (L : List Pt) : Nat × Nat := if kind = 1 then wordF L else if kind = 2 then plainF L else wideF L
/-- May an ending have begun? -/
def pendF (L : List Pt) (wide : Bool) : Prop := cdC L wide 0 = 39 ∧ sureN L < 3 ∧ (sureN L < 2 ∨ fstE (cdC L wide 1))
instance (L : List Pt) (wide : Bool) : Decidable (pendF L wide) := by unfold pendF; infer_instance
/-- The first piece of bytes: how many, whether that is decided. -/
def nextF (kind : Int) (t : List Rg) (b : List Int) (final : Bool) : Int × Bool :=
  if kind = 0 then ((b.length : Int), final)
  else (sumN (pts t b) (cutF kind (pts t b)).1, final || (decide ((cutF kind (pts t b)).2 ≤ sureN (pts t b)) && (decide (kind = 1) || !decide (pendF (pts t b) (decide (kind = 3))))))

theorem takeWhile_len {α : Type} (p : α → Bool) (L : List α) (i : Nat) : i + ((L.drop i).takeWhile p).length ≤ max i L.length := by
  have h1 := List.takeWhile_prefix (l := L.drop i) p
  have := h1.length_le
  rw [List.length_drop] at this
  omega
theorem rowN_le (L : List Pt) (i : Nat) (c : Int) : i + rowN L i c ≤ max i L.length := takeWhile_len _ L i
theorem spN_le (L : List Pt) (i : Nat) : i + spN L i ≤ max i L.length := takeWhile_len _ L i
theorem nsN_le (L : List Pt) (i : Nat) : i + nsN L i ≤ max i L.length := takeWhile_len _ L i
theorem tw_step {α : Type} {p : α → Bool} {L : List α} {i : Nat} {x : α} (h : L[i]? = some x) : ((L.drop i).takeWhile p).length = if p x = true then ((L.drop (i + 1)).takeWhile p).length + 1 else 0 := by
  have hi := (List.getElem?_eq_some_iff.1 h).1
  have e : L.drop i = x :: L.drop (i + 1) := by
    rw [List.drop_eq_getElem_cons hi]
    congr 1
    have := List.getElem?_eq_getElem hi
    rw [h] at this
    simpa using this.symm
  rw [e, List.takeWhile_cons]
  split
  · simp
  · simp
theorem tw_none {α : Type} {p : α → Bool} {L : List α} {i : Nat} (h : L[i]? = none) : ((L.drop i).takeWhile p).length = 0 := by
  rw [List.drop_eq_nil_of_le (by simpa using h)]; rfl
theorem rowN_yes {L : List Pt} {i : Nat} {c : Int} (h : isC L i c = true) : rowN L i c = rowN L (i + 1) c + 1 ∧ i < L.length := by
  unfold isC at h
  cases hp : L[i]? with
  | none => rw [hp] at h; simp at h
  | some p =>
    rw [hp] at h
    unfold rowN
    rw [tw_step hp, if_pos (by simpa using h)]
    exact ⟨rfl, (List.getElem?_eq_some_iff.1 hp).1⟩
theorem rowN_no {L : List Pt} {i : Nat} {c : Int} (h : isC L i c = false) : rowN L i c = 0 := by
  unfold isC at h
  unfold rowN
  cases hp : L[i]? with
  | none => exact tw_none hp
  | some p => rw [hp] at h; rw [tw_step hp, if_neg (by simpa using h)]
theorem spN_yes {L : List Pt} {i : Nat} (h : spC L i = true) : spN L i = spN L (i + 1) + 1 ∧ i < L.length := by
  unfold spC at h
  cases hp : L[i]? with
  | none => rw [hp] at h; simp at h
  | some p =>
    rw [hp] at h
    unfold spN
    rw [tw_step hp, if_pos (by simpa using h)]
    exact ⟨rfl, (List.getElem?_eq_some_iff.1 hp).1⟩
theorem spN_no {L : List Pt} {i : Nat} (h : spC L i = false) : spN L i = 0 := by
  unfold spC at h
  unfold spN
  cases hp : L[i]? with
  | none => exact tw_none hp
  | some p => rw [hp] at h; rw [tw_step hp, if_neg (by simpa using h)]
theorem nsN_yes {L : List Pt} {i : Nat} (hi : i < L.length) (h : spC L i = false) : nsN L i = nsN L (i + 1) + 1 := by
  unfold spC at h
  unfold nsN
  rw [List.getElem?_eq_getElem hi] at h
  rw [tw_step (List.getElem?_eq_getElem hi), if_pos (by simpa using h)]
theorem nsN_no {L : List Pt} {i : Nat} (h : ¬ i < L.length ∨ spC L i = true) : nsN L i = 0 := by
  unfold nsN
  cases hp : L[i]? with
  | none => exact tw_none hp
  | some p =>
    have hi := (List.getElem?_eq_some_iff.1 hp).1
    have h2 : spC L i = true := h.resolve_left (fun g => g hi)
    unfold spC at h2
    rw [hp] at h2
    rw [tw_step hp, if_neg (by simpa using h2)]
theorem lineN_le (L : List Pt) : ∀ n, lineN L n ≤ n
  | 0 => Nat.le_refl _
  | n + 1 => by
    have := lineN_le L n
    simp only [lineN]
    split <;> omega
theorem isC_len {L : List Pt} {i : Nat} {c : Int} (h : isC L i c = true) : i < L.length := (rowN_yes h).2
theorem cdC_len {L : List Pt} {w : Bool} {i : Nat} (h : cdC L w i ≠ -1) : i < L.length := by
  unfold cdC at h
  cases hp : L[i]? with
  | none => rw [hp] at h; simp at h
  | some p => exact (List.getElem?_eq_some_iff.1 hp).1

/-- The first piece has a point at least, and no more than there are; it reaches further than nothing. -/
theorem endN_le (L : List Pt) (w : Bool) : endN L w ≤ L.length := by
  unfold endN
  split
  · omega
  · split
    · next h => have := cdC_len (L := L) (w := w) (i := 1) (by unfold oneE at h; omega); omega
    · split
      · next h => have := cdC_len (L := L) (w := w) (i := 2) (by unfold twoE at h; omega); omega
      · omega
theorem ledN_le (L : List Pt) (c : Int) : ledN L c ≤ L.length := by
  unfold ledN
  split
  · next h => have := rowN_le L 1 c; have := isC_len h.2; omega
  · have := rowN_le L 0 c; omega
theorem spacesF_le (L : List Pt) : (spacesF L).1 ≤ L.length ∧ 1 ≤ (spacesF L).2 := by
  have := spN_le L 0
  unfold spacesF
  split <;> simp <;> omega
theorem spacesF_pos {L : List Pt} (h : 0 < spN L 0) : 1 ≤ (spacesF L).1 := by
  unfold spacesF
  split <;> simp <;> omega
theorem cutF_le (kind : Int) (L : List Pt) : (cutF kind L).1 ≤ L.length ∧ 1 ≤ (cutF kind L).2 := by
  have hs := spacesF_le L
  unfold cutF
  split
  · unfold wordF
    have := spN_le L 0
    have := nsN_le L (spN L 0)
    simp; omega
  · split
    · unfold plainF
      have := endN_le L false
      have := ledN_le L 0
      have := ledN_le L 1
      have := ledN_le L 2
      repeat' split
      all_goals first
        | exact hs
        | (simp only; omega)
    · unfold wideF
      have := endN_le L true
      have := rowN_le L 0 1
      have := rowN_le L 0 2
      have := ledN_le L 0
      have := rowN_le L (ledN L 0) 4
      have := lineN_le L (spN L 0)
      have := spN_le L 0
      repeat' split
      all_goals first
        | exact hs
        | (simp only; omega)
        | (rename_i h _ _ _; have := rowN_le L 1 1; have := isC_len h.2; simp only; omega)
        | (rename_i h; have := rowN_le L 1 1; have := isC_len h.2; simp only; omega)
theorem rowN_pos {L : List Pt} {c : Int} (h : 0 < L.length) (hc : (ptC L 0).cls = c) : 0 < rowN L 0 c := by
  have : isC L 0 c = true := by
    unfold isC ptC at *
    cases hp : L[0]? with
    | none => have := List.getElem?_eq_none_iff.1 hp; omega
    | some p => rw [hp] at hc; simpa using hc
  have := (rowN_yes this).1
  omega
theorem spN_pos {L : List Pt} (h : 0 < L.length) (hc : (ptC L 0).cls = 3 ∨ (ptC L 0).cls = 4) : 0 < spN L 0 := by
  have : spC L 0 = true := by
    unfold spC ptC at *
    cases hp : L[0]? with
    | none => have := List.getElem?_eq_none_iff.1 hp; omega
    | some p => rw [hp] at hc; simpa [isSp] using hc
  have := (spN_yes this).1
  omega
theorem nsN_pos {L : List Pt} (h : 0 < L.length) (hc : spC L 0 = false) : 0 < nsN L 0 := by
  have := nsN_yes h hc
  omega
theorem ledN_pos {L : List Pt} {c : Int} (h : 0 < L.length) (hc : (ptC L 0).cls = c) : 0 < ledN L c := by
  unfold ledN
  split
  · omega
  · exact rowN_pos h hc
theorem cutF_pos {kind : Int} {L : List Pt} (h : 0 < L.length) (hg : ∀ p ∈ L, PtGood p) : 1 ≤ (cutF kind L).1 := by
  have h0 : PtGood (ptC L 0) := by
    unfold ptC
    rw [List.getElem?_eq_getElem h]
    exact hg _ (List.getElem_mem h)
  obtain ⟨_, _, g1, g2⟩ := h0
  unfold cutF
  split
  · unfold wordF
    cases hs : spC L 0 with
    | true => have := (spN_yes hs).1; simp only; omega
    | false =>
      have e := spN_no hs
      rw [e]
      have := nsN_pos h hs
      simp only
      omega
  · split
    · unfold plainF
      repeat' split
      all_goals first
        | (simp only; omega)
        | skip
      next h1 h2 h3 h4 =>
        refine spacesF_pos (spN_pos h ?_)
        have a1 : (ptC L 0).cls ≠ 1 := fun e => h2 (ledN_pos h e)
        have a2 : (ptC L 0).cls ≠ 2 := fun e => h3 (ledN_pos h e)
        have a0 : (ptC L 0).cls ≠ 0 := fun e => h4 (ledN_pos h e)
        omega
    · unfold wideF
      repeat' split
      all_goals first
        | (simp only; omega)
        | skip
      next h1 h2 h3 h4 h5 h6 =>
        refine spacesF_pos (spN_pos h ?_)
        have a1 : (ptC L 0).cls ≠ 1 := fun e => h2 (rowN_pos h e)
        have a2 : (ptC L 0).cls ≠ 2 := fun e => h4 (rowN_pos h e)
        have a0 : (ptC L 0).cls ≠ 0 := fun e => h5 (ledN_pos h e)
        omega
/-- The first piece's bytes: one at least, no more than there are. -/
theorem nextF_le {kind : Int} {t : List Rg} (ht : MayTab t) {b : List Int} (hb : ∀ x ∈ b, 0 ≤ x ∧ x < 256) (h0 : b ≠ []) (final : Bool) : 1 ≤ (nextF kind t b final).1 ∧ (nextF kind t b final).1 ≤ b.length := by
  have hl := List.length_pos_iff.2 h0
  unfold nextF
  split
  · simp only; omega
  · have hp := pts_pos (t := t) h0
    have h1 := cutF_pos (kind := kind) hp (pts_good ht hb)
    have h2 := cutF_le kind (pts t b)
    have h3 := sumN_le (t := t) b (cutF kind (pts t b)).1
    simp only
    omega
theorem nextF_final (kind : Int) (t : List Rg) (b : List Int) : (nextF kind t b true).2 = true := by
  unfold nextF
  split <;> simp
/-- A byte, not a mark. -/
def isB (x : Int) : Bool := decide (0 ≤ x) && decide (x < 256)
theorem isB_iff {x : Int} : isB x = true ↔ 0 ≤ x ∧ x < 256 := by simp [isB]
def runOf (text : List Int) : List Int := text.takeWhile isB
theorem runOf_b {text : List Int} : ∀ x ∈ runOf text, 0 ≤ x ∧ x < 256 := by
  induction text with
  | nil => intro x hx; simp [runOf] at hx
  | cons c l ih =>
    intro x hx
    unfold runOf at hx ih
    rw [List.takeWhile_cons] at hx
    split at hx
    · next hc =>
      rcases List.mem_cons.1 hx with rfl | h
      · exact isB_iff.1 hc
      · exact ih x h
    · simp at hx
/-- The pieces of a text, as the document tells them. -/
def splitGo (kind : Int) (t : List Rg) (final : Bool) : Nat → List Int → Bool → List (Int × Bool)
  | 0, _, _ => []
  | k + 1, text, op => if text = [] then []
    else if runOf text = [] then (1, true) :: splitGo kind t final k (text.drop 1) op
    else ((nextF kind t (runOf text) (final || decide ((runOf text).length < text.length))).1, !(op || !(nextF kind t (runOf text) (final || decide ((runOf text).length < text.length))).2)) ::
      splitGo kind t final k (text.drop (nextF kind t (runOf text) (final || decide ((runOf text).length < text.length))).1.toNat) (op || !(nextF kind t (runOf text) (final || decide ((runOf text).length < text.length))).2)
def splitF (kind : Int) (t : List Rg) (text : List Int) (final : Bool) : List (Int × Bool) := splitGo kind t final text.length text false

section
variable {kind : Int} {t : List Rg} {final : Bool}
theorem splitGo_nil (k : Nat) (op : Bool) : splitGo kind t final k [] op = [] := by cases k <;> simp [splitGo]
theorem splitGo_more (ht : MayTab t) : ∀ {k j : Nat} {text : List Int} {op : Bool}, text.length ≤ k → text.length ≤ j → splitGo kind t final k text op = splitGo kind t final j text op
  | 0, j, text, op, h, _ => by
    have : text = [] := List.eq_nil_of_length_eq_zero (by omega)
    subst this
    rw [splitGo_nil, splitGo_nil]
  | k + 1, 0, text, op, _, h => by
    have : text = [] := List.eq_nil_of_length_eq_zero (by omega)
    subst this
    rw [splitGo_nil, splitGo_nil]
  | k + 1, j + 1, text, op, h1, h2 => by
    simp only [splitGo]
    by_cases h0 : text = []
    · rw [if_pos h0, if_pos h0]
    · have hl := List.length_pos_iff.2 h0
      rw [if_neg h0, if_neg h0]
      by_cases hr : runOf text = []
      · rw [if_pos hr, if_pos hr, splitGo_more ht (k := k) (j := j) (text := text.drop 1) (by simp only [List.length_drop]; omega) (by simp only [List.length_drop]; omega)]
      · rw [if_neg hr, if_neg hr]
        have hn := nextF_le (kind := kind) ht runOf_b hr (final || decide ((runOf text).length < text.length))
        rw [splitGo_more ht (k := k) (j := j) (text := text.drop _) (by simp only [List.length_drop]; omega) (by simp only [List.length_drop]; omega)]
/-- At a mark; at bytes. -/
theorem splitGo_mark {k : Nat} {m : Int} {l : List Int} {op : Bool} (hm : isB m = false) : splitGo kind t final (k + 1) (m :: l) op = (1, true) :: splitGo kind t final k l op := by
  simp only [splitGo]
  rw [if_neg (by simp), if_pos (by simp [runOf, hm])]
  rfl
theorem splitGo_run {k : Nat} {text : List Int} {op : Bool} (hr : runOf text ≠ []) {n : Int} {d : Bool} (hn : nextF kind t (runOf text) (final || decide ((runOf text).length < text.length)) = (n, d)) :
    splitGo kind t final (k + 1) text op = (n, !(op || !d)) :: splitGo kind t final k (text.drop n.toNat) (op || !d) := by
  have h0 : text ≠ [] := fun e => hr (by rw [e]; rfl)
  simp only [splitGo]
  rw [if_neg h0, if_neg hr, hn]

/-- The runs of a text, each with whether a mark stands behind it. -/
def runsGo (run : List Int) : List Int → List (List Int × Bool)
  | [] => [(run, false)]
  | s :: l => if isB s then runsGo (run ++ [s]) l else (run, true) :: runsGo [] l
/-- The pieces of a run, and whether all are sure. -/
def piecesGo (kind : Int) (t : List Rg) (final : Bool) : Nat → List Int → Bool → List (Int × Bool) × Bool
  | 0, _, sure => ([], sure)
  | k + 1, run, sure => if run = [] then ([], sure) else
    (((nextF kind t run final).1, sure && (nextF kind t run final).2) :: (piecesGo kind t final k (run.drop (nextF kind t run final).1.toNat) (sure && (nextF kind t run final).2)).1,
      (piecesGo kind t final k (run.drop (nextF kind t run final).1.toNat) (sure && (nextF kind t run final).2)).2)
def stepRun (kind : Int) (t : List Rg) (final : Bool) (st : List (Int × Bool) × Bool) (r : List Int × Bool) : List (Int × Bool) × Bool :=
  (st.1 ++ (piecesGo kind t (r.2 || final) r.1.length r.1 st.2).1 ++ (if r.2 = true then [(1, (piecesGo kind t (r.2 || final) r.1.length r.1 st.2).2)] else []), (piecesGo kind t (r.2 || final) r.1.length r.1 st.2).2)
theorem runOf_bytes {run : List Int} (h : ∀ x ∈ run, 0 ≤ x ∧ x < 256) : runOf run = run := by
  have := List.takeWhile_append_of_pos (p := isB) (l₁ := run) (l₂ := []) (fun x hx => isB_iff.2 (h x hx))
  simpa [runOf] using this
theorem runOf_mark {run l : List Int} {m : Int} (h : ∀ x ∈ run, 0 ≤ x ∧ x < 256) (hm : isB m = false) : runOf (run ++ m :: l) = run := by
  unfold runOf
  rw [List.takeWhile_append_of_pos (fun x hx => isB_iff.2 (h x hx))]
  simp [hm]
/-- A last run. -/
theorem split_last (ht : MayTab t) : ∀ {k : Nat} {run : List Int} {op : Bool}, run.length ≤ k → (∀ x ∈ run, 0 ≤ x ∧ x < 256) → splitGo kind t final k run op = (piecesGo kind t final k run (!op)).1
  | 0, run, op, h, _ => by simp [splitGo, piecesGo]
  | k + 1, run, op, h, hb => by
    by_cases h0 : run = []
    · subst h0; simp [splitGo, piecesGo]
    · have hr := runOf_bytes hb
      have hn := nextF_le (kind := kind) ht hb h0 final
      rw [splitGo_run (n := (nextF kind t run final).1) (d := (nextF kind t run final).2) (by rw [hr]; exact h0) (by rw [hr]; simp)]
      simp only [piecesGo]
      rw [if_neg h0]
      have ih := split_last ht (k := k) (run := run.drop (nextF kind t run final).1.toNat) (op := op || !(nextF kind t run final).2) (by simp only [List.length_drop]; omega) (fun x hx => hb x (List.mem_of_mem_drop hx))
      rw [ih]
      have e : (!(op || !(nextF kind t run final).2)) = (!op && (nextF kind t run final).2) := by cases op <;> cases (nextF kind t run final).2 <;> rfl
      rw [e]
theorem pieces_final : ∀ {k : Nat} {run : List Int}, (piecesGo kind t true k run true).2 = true
  | 0, run => rfl
  | k + 1, run => by
    simp only [piecesGo]
    split
    · rfl
    · rw [nextF_final]
      exact pieces_final
/-- A run with a mark behind it. -/
theorem split_run (ht : MayTab t) {m : Int} (hm : isB m = false) (l : List Int) : ∀ {k : Nat} {run : List Int}, run.length ≤ k → (∀ x ∈ run, 0 ≤ x ∧ x < 256) →
    splitGo kind t final (k + 1 + l.length) (run ++ m :: l) false = (piecesGo kind t true k run true).1 ++ (1, true) :: splitGo kind t final l.length l false
  | 0, run, h, _ => by
    have : run = [] := List.eq_nil_of_length_eq_zero (by omega)
    subst this
    rw [show 0 + 1 + l.length = l.length + 1 by omega]
    simp only [List.nil_append, piecesGo]
    exact splitGo_mark hm
  | k + 1, run, h, hb => by
    by_cases h0 : run = []
    · subst h0
      simp only [List.nil_append, piecesGo, if_true]
      rw [show k + 1 + 1 + l.length = (k + 1 + l.length) + 1 by omega, splitGo_mark hm, splitGo_more ht (k := k + 1 + l.length) (j := l.length) (by omega) (Nat.le_refl _)]
    · have hr := runOf_mark (l := l) hb hm
      have hn := nextF_le (kind := kind) ht hb h0 true
      have hf := nextF_final kind t run
      have hlt : (decide (run.length < (run ++ m :: l).length)) = true := by simp
      rw [show k + 1 + 1 + l.length = (k + 1 + l.length) + 1 by omega]
      rw [splitGo_run (n := (nextF kind t run true).1) (d := true) (by rw [hr]; exact h0) (by rw [hr, hlt, Bool.or_true]; exact Prod.ext rfl hf)]
      simp only [piecesGo]
      rw [if_neg h0, hf]
      have e : (run ++ m :: l).drop (nextF kind t run true).1.toNat = run.drop (nextF kind t run true).1.toNat ++ m :: l := List.drop_append_of_le_length (by omega)
      have ih := split_run ht hm l (k := k) (run := run.drop (nextF kind t run true).1.toNat) (by simp only [List.length_drop]; omega) (fun x hx => hb x (List.mem_of_mem_drop hx))
      simp only [Bool.or_false, Bool.not_true, Bool.not_false, Bool.and_true, List.cons_append]
      rw [e, ih]
theorem pieces_more (ht : MayTab t) : ∀ {k j : Nat} {run : List Int} {sure : Bool}, run.length ≤ k → run.length ≤ j → (∀ x ∈ run, 0 ≤ x ∧ x < 256) → piecesGo kind t final k run sure = piecesGo kind t final j run sure
  | 0, 0, run, sure, _, _, _ => rfl
  | 0, j + 1, run, sure, h, _, _ => by
    have : run = [] := List.eq_nil_of_length_eq_zero (by omega)
    subst this
    simp [piecesGo]
  | k + 1, 0, run, sure, _, h, _ => by
    have : run = [] := List.eq_nil_of_length_eq_zero (by omega)
    subst this
    simp [piecesGo]
  | k + 1, j + 1, run, sure, h1, h2, hb => by
    simp only [piecesGo]
    by_cases h0 : run = []
    · rw [if_pos h0, if_pos h0]
    · rw [if_neg h0, if_neg h0]
      have hn := nextF_le (kind := kind) ht hb h0 final
      rw [pieces_more ht (k := k) (j := j) (run := run.drop (nextF kind t run final).1.toNat) (by simp only [List.length_drop]; omega) (by simp only [List.length_drop]; omega) (fun x hx => hb x (List.mem_of_mem_drop hx))]
/-- Run by run the pieces are the document's. -/
theorem runs_split (ht : MayTab t) : ∀ {text run : List Int} {acc : List (Int × Bool)}, (∀ x ∈ run, 0 ≤ x ∧ x < 256) →
    ((runsGo run text).foldl (stepRun kind t final) (acc, true)).1 = acc ++ splitF kind t (run ++ text) final
  | [], run, acc, hb => by
    simp only [runsGo, List.foldl_cons, List.foldl_nil, stepRun, Bool.false_or, Bool.false_eq_true, if_false, List.append_nil, splitF]
    rw [split_last ht (Nat.le_refl _) hb]
    simp
  | s :: l, run, acc, hb => by
    simp only [runsGo]
    cases hs : isB s with
    | true =>
      simp only [if_true]
      rw [runs_split ht (text := l) (run := run ++ [s]) (fun x hx => by
        rcases List.mem_append.1 hx with h | h
        · exact hb x h
        · simp at h; subst h; exact isB_iff.1 hs)]
      simp
    | false =>
      simp only [Bool.false_eq_true, if_false, List.foldl_cons]
      have hp := pieces_final (kind := kind) (t := t) (k := run.length) (run := run)
      have e : stepRun kind t final (acc, true) (run, true) = (acc ++ (piecesGo kind t true run.length run true).1 ++ [(1, true)], true) := by
        simp only [stepRun, Bool.true_or, if_true, hp]
      rw [e, runs_split ht (text := l) (run := []) (by simp)]
      have h2 := split_run (kind := kind) (t := t) (final := final) ht hs l (k := run.length) (run := run) (Nat.le_refl _) hb
      unfold splitF
      rw [show (run ++ s :: l).length = run.length + 1 + l.length by simp; omega, h2]
      simp
end

end Go.Proofs.YtimkkkdabmhedaaGreatDoor

/- Plain law: how a text becomes tokens: faults, pieces. No program here. -/
namespace Go.Proofs.YtimkkkdabmhedaaGreatDoor
open Go
set_option linter.unusedVariables false

def markAt (V : Vc) (N : List ByteArray) (s : Int) : Int := ix (marksOf V.specials N) (s - 256).toNat
/-- A symbol's fault. -/
def faultF (V : Vc) (N : List ByteArray) (s : Int) : Int := if s < 0 ∨ 256 + (N.length : Int) ≤ s then 1 else if 256 ≤ s ∧ markAt V N s < 0 then 4 else 0
def checkF (V : Vc) (N : List ByteArray) : List Int → Int
  | [] => 0
  | s :: l => if faultF V N s = 0 then checkF V N l else faultF V N s
theorem checkF_drop {V : Vc} {N : List ByteArray} {A : List Int} {k : Nat} (hk : k < A.length) : checkF V N (A.drop k) = if faultF V N (ix A k) = 0 then checkF V N (A.drop (k + 1)) else faultF V N (ix A k) := by
  rw [List.drop_eq_getElem_cons hk]
  have : A[k] = ix A k := by simp [ix, List.getD, hk]
  rw [this]; rfl
theorem checkF_all {V : Vc} {N : List ByteArray} : ∀ {A : List Int}, checkF V N A = 0 ↔ ∀ s ∈ A, faultF V N s = 0
  | [] => by simp [checkF]
  | s :: l => by
    unfold checkF
    by_cases h : faultF V N s = 0
    · rw [if_pos h, checkF_all]; simp [h]
    · rw [if_neg h]; simp [h]
/-- The tokens of a piece. -/
noncomputable def pieceF (V : Vc) (N : List ByteArray) (A : List Int) : List Int :=
  if checkF V N A ≠ 0 ∨ A = [] then [] else if A.length = 1 ∧ 256 ≤ ix A 0 then [markAt V N (ix A 0)] else if A.all isB = true then encF V A else []
end Go.Proofs.YtimkkkdabmhedaaGreatDoor

/- How a coder's kit comes in. -/
namespace Go.Proofs.YtimkkkdabmhedaaGreatDoor
open Go.ChangeShapes Go.WideShapes Go.ChangeAt Go.RowKit Go.Joins Go.Deep
set_option linter.unusedVariables false

theorem rgStruct : ∃ f0 f1 f2 : Field, Tryz.prog.underlying 93 = some (.struct #[f0, f1, f2]) ∧ f0.type = 3 ∧ f1.type = 3 ∧ f2.type = 3 ∧ oneCellFields Tryz.prog #[f0, f1, f2] = true :=
  ⟨_, _, _, Tryz.underlying93, rfl, rfl, rfl, by kernel_rfl⟩
theorem cellsRg : Tryz.prog.cellsOf 93 = 3 := by kernel_rfl
theorem vocStruct : ∃ f0 f1 f2 : Field, Tryz.prog.underlying 26 = some (.struct #[f0, f1, f2]) ∧ (f0.type = 22 ∧ f0.offset = 0) ∧ (f1.type = 23 ∧ f1.offset = 1) ∧ (f2.type = 24 ∧ f2.offset = 2) :=
  ⟨_, _, _, Tryz.underlying26, ⟨rfl, rfl⟩, ⟨rfl, rfl⟩, ⟨rfl, rfl⟩⟩
theorem kitStruct : ∃ f0 f1 f2 f3 f4 : Field, Tryz.prog.underlying 29 = some (.struct #[f0, f1, f2, f3, f4]) ∧ (f0.type = 26 ∧ f0.offset = 0) ∧ (f1.type = 22 ∧ f1.offset = 3) ∧ (f2.type = 3 ∧ f2.offset = 4) ∧ (f3.type = 27 ∧ f3.offset = 5) ∧ (f4.type = 3 ∧ f4.offset = 6) :=
  ⟨_, _, _, _, _, Tryz.underlying29, ⟨rfl, rfl⟩, ⟨rfl, rfl⟩, ⟨rfl, rfl⟩, ⟨rfl, rfl⟩, ⟨rfl, rfl⟩⟩
theorem cellsKit : Tryz.prog.cellsOf 29 = 7 := by kernel_rfl
theorem cellsSlS : Tryz.prog.cellsOf 22 = 1 := by kernel_rfl
theorem cellsSlM : Tryz.prog.cellsOf 23 = 1 := by kernel_rfl
theorem cellsSlP : Tryz.prog.cellsOf 24 = 1 := by kernel_rfl
theorem cellsSlR : Tryz.prog.cellsOf 27 = 1 := by kernel_rfl
theorem cellsI : Tryz.prog.cellsOf 3 = 1 := by kernel_rfl

section
variable {H : Type} {enc : TypeId × Value → H} {W : World} {held : Bool}

theorem rgs_of_trod {fuel : Nat} {v : Value} {y : DataW H × List MemPlace} (h : DataW.trod enc Tryz.prog W 0 (fun _ => true) held fuel 27 [v] = some y) :
    ∃ ao n c T, v = .slice ao n c ∧ SlF 3 W ao n c (flat Rg.enc T) := by
  obtain ⟨f0, f1, f2, hu, e0, e1, e2, hone⟩ := rgStruct
  rcases open_slice_fields Tryz.underlying27 hu hone (by rw [cellsRg]; rfl) h with ⟨hcs, _⟩ | ⟨a, len, cap, m, D, Pl, hcs, _, hl, hm, hmm, _, hrow⟩
  · simp at hcs
    subst hcs
    exact ⟨_, _, _, [], rfl, SlF.nothing _⟩
  · simp at hcs
    subst hcs
    simp at hmm
    subst hmm
    obtain ⟨M, hM, _⟩ := slF_mk (enc := Rg.enc) (s := 3) (n := len) (cap := m) (w := W) (a := a) (R := fun _ => True) Rg.enc_len (by omega) hl hm (by
      intro i hi
      obtain ⟨ys, n', _, _, _, hf⟩ := hrow i (by omega)
      obtain ⟨u0, y0, c0, _, t0⟩ := hf 0 f0 rfl
      obtain ⟨u1, y1, c1, _, t1⟩ := hf 1 f1 rfl
      obtain ⟨u2, y2, c2, _, t2⟩ := hf 2 f2 rfl
      rw [e0] at t0
      rw [e1] at t1
      rw [e2] at t2
      obtain ⟨z0, ez0, _, _⟩ := DataW.trod_int Tryz.underlying3 t0
      obtain ⟨z1, ez1, _, _⟩ := DataW.trod_int Tryz.underlying3 t1
      obtain ⟨z2, ez2, _, _⟩ := DataW.trod_int Tryz.underlying3 t2
      simp at ez0 ez1 ez2
      subst ez0 ez1 ez2
      refine ⟨⟨z0, z1, z2⟩, fun j u hu => ?_, trivial⟩
      match j, hu with
      | 0, hu => simp [Rg.enc] at hu; subst hu; exact c0
      | 1, hu => simp [Rg.enc] at hu; subst hu; exact c1
      | 2, hu => simp [Rg.enc] at hu; subst hu; exact c2
      | j + 3, hu => simp [Rg.enc] at hu)
    exact ⟨_, _, _, M, rfl, hM⟩

theorem array7 {α : Type} {cs : Array α} (h : cs.size = 7) : ∃ c0 c1 c2 c3 c4 c5 c6, cs = #[c0, c1, c2, c3, c4, c5, c6] := by
  obtain ⟨l⟩ := cs
  match l, h with
  | [c0, c1, c2, c3, c4, c5, c6], _ => exact ⟨c0, c1, c2, c3, c4, c5, c6, rfl⟩

set_option maxRecDepth 100000 in
theorem kit_open {v : Value} {d : DataW H} {p : List MemPlace} {r : Reach} {b0 : Nat}
    (hv : Value.okWide Tryz.prog W r b0 29 v) (h : DataW.Trod enc Tryz.prog W 0 (fun _ => true) held 29 v d p) :
    ∃ (dd : Vd) (V : Vc) (no : Option Addr) (nn nc : Nat) (N : List ByteArray) (kind : Int) (to_ : Option Addr) (tn tc : Nat) (T : List Rg) (room : Int),
      v = .agg #[.slice dd.ta dd.tn dd.tc, .slice dd.ma dd.mn dd.mc, .slice dd.sa dd.sn dd.sc, .slice no nn nc, .int .i64 kind, .slice to_ tn tc, .int .i64 room] ∧
      VocR W dd V ∧ (∀ s ∈ V.tokens, s.size ≤ maxLen) ∧ (∀ s ∈ V.specials, s.name.size ≤ maxLen) ∧ (SlS W no nn nc N ∧ ∀ s ∈ N, s.size ≤ maxLen) ∧ SlF 3 W to_ tn tc (flat Rg.enc T) := by
  obtain ⟨f0, f1, f2, f3, f4, hk, ⟨a0, b0'⟩, ⟨a1, b1⟩, ⟨a2, b2⟩, ⟨a3, b3⟩, ⟨a4, b4⟩⟩ := kitStruct
  obtain ⟨g0, g1, g2, hg, ⟨x0, y0⟩, ⟨x1, y1⟩, ⟨x2, y2⟩⟩ := vocStruct
  obtain ⟨cs, rfl, hsz⟩ := okWide_struct hk hv
  rw [cellsKit] at hsz
  obtain ⟨c0, c1, c2, c3, c4, c5, c6, rfl⟩ := array7 hsz
  obtain ⟨fuel, hf⟩ := h
  have hcells : (Value.cells (.agg #[c0, c1, c2, c3, c4, c5, c6])).toList = [c0, c1, c2, c3, c4, c5, c6] := by simp [Value.cells]
  rw [hcells] at hf
  obtain ⟨xs, n, _, _, _, hxl, hfs⟩ := DataW.trod_struct hk hf
  match xs, hxl, hfs with
  | [z0, z1, z2, z3, z4], _, hfs =>
    have t0 := hfs 0 f0 rfl
    have t1 := hfs 1 f1 rfl
    have t2 := hfs 2 f2 rfl
    have t3 := hfs 3 f3 rfl
    have t4 := hfs 4 f4 rfl
    rw [a0, b0', cellsVoc] at t0
    rw [a1, b1, cellsSlS] at t1
    rw [a2, b2, cellsI] at t2
    rw [a3, b3, cellsSlR] at t3
    rw [a4, b4, cellsI] at t4
    simp only [List.drop_zero, List.take_succ_cons, List.take_zero, List.drop_succ_cons, List.getElem?_cons_zero, List.getElem?_cons_succ] at t0 t1 t2 t3 t4
    obtain ⟨ys, m, _, _, _, hyl, hgs⟩ := DataW.trod_struct hg t0
    match ys, hyl, hgs with
    | [q0, q1, q2], _, hgs =>
      have r0 := hgs 0 g0 rfl
      have r1 := hgs 1 g1 rfl
      have r2 := hgs 2 g2 rfl
      rw [x0, y0, cellsSlS] at r0
      rw [x1, y1, cellsSlM] at r1
      rw [x2, y2, cellsSlP] at r2
      simp only [List.drop_zero, List.take_succ_cons, List.take_zero, List.drop_succ_cons, List.getElem?_cons_zero, List.getElem?_cons_succ] at r0 r1 r2
      obtain ⟨ta, tn', tc', T', rfl, hT, hsT⟩ := sls_of_trod r0
      obtain ⟨ma, mn, mc, M, rfl, hM⟩ := mgs_of_trod r1
      obtain ⟨sa, sn, sc, S, rfl, hS, hsS⟩ := sps_of_trod r2
      obtain ⟨no, nn, nc, N, rfl, hN, hsN⟩ := sls_of_trod t1
      obtain ⟨k, ek, _, _⟩ := DataW.trod_int Tryz.underlying3 t2
      obtain ⟨to_, tn, tc, T, rfl, hR⟩ := rgs_of_trod t3
      obtain ⟨ro, er, _, _⟩ := DataW.trod_int Tryz.underlying3 t4
      simp only [List.cons.injEq, and_true] at ek er
      subst ek er
      exact ⟨⟨ta, tn', tc', ma, mn, mc, sa, sn, sc⟩, ⟨T', M, S⟩, no, nn, nc, N, k, to_, tn, tc, T, ro, rfl, ⟨hT, hM, hS⟩, hsT, hsS, ⟨hN, hsN⟩, hR⟩
end

end Go.Proofs.YtimkkkdabmhedaaGreatDoor
