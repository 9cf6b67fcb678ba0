/- Walks: slices.SortFunc of merges. -/
import Derived.Test.YteoncpkfinheoaaSort2
import Derived.Shelf.SlSortCmp.NoneTotal
namespace Go.Proofs.Yteoncpkfinheoaa
open Go.RowKit
open Go.Sort hiding Below
set_option linter.unusedVariables false

/-- slices.SortFunc of merges. -/
theorem sortM_calls {w : World} {base : Nat} {v : Value} {M : List Mg} (h : OwnF Mg.enc 4 51 w base v M) (hb : base ≤ w.heap.size) (hsz : M.length < 4611686018427387904) :
    Calls Try.prog 29 #[v, .func (.func 30) #[] #[]] w fun e w' => e = .returned (.tuple #[]) ∧
      ∃ M', M'.Perm M ∧ M'.Pairwise (fun a b => ahead b a = false) ∧ OwnF Mg.enc 4 51 w' base v M' ∧ RowKit.Below base w w' ∧ ∀ q, q < w.heap.size → v.ownBlock ≠ some q → w'.heap[q]? = w.heap[q]? := by
  obtain ⟨ao, cap, rfl, _⟩ := h.sl
  cases ao with
  | none =>
    have h0 : M.length = 0 := by
      rcases h.2 with ⟨_, hn⟩ | ⟨g, c2, cur, hv, _⟩
      · exact hn
      · simp at hv
    have hM : M = [] := List.eq_nil_of_length_eq_zero h0
    subst hM
    have hcon := AnyF.slices_SortFunc_none Try.sortM none cap (.func (.func 30) #[] #[]) w
    change Calls Try.prog 29 _ _ _ at hcon
    refine hcon.mono ?_
    rintro e w' ⟨rfl, rfl⟩
    exact ⟨rfl, [], List.Perm.refl _, List.Pairwise.nil, h, RowKit.Below.refl _ _, fun _ _ _ => rfl⟩
  | some ad =>
    obtain ⟨g, hg⟩ : ∃ g, ad = ⟨g, 0, none⟩ := by
      rcases h.2 with ⟨hv, _⟩ | ⟨g, c2, cur, hv, _⟩
      · simp at hv
      · simp at hv; exact ⟨g, hv.1⟩
    subst hg
    obtain ⟨hH, _, hbg, hlt⟩ := holdsK_own Mg.enc_len (by omega) h
    have eg : ∀ args w, (callFunc 30 args).run Try.prog w = .ok (.enter 30 args) w := enters_of Try.func30 (by kernel_rfl) rfl
    have hcon := AnyQ.slices_SortFunc Try.sortM 4 Try.isAgg51 Try.sizeOf51 Mg.enc Mg.enc_len Mg.enc_one cmpM swoM 30 #[] g 0 cap M.toArray w eg (cmpLaysM g 0 M.toArray.size w) hH hlt (by simpa using hsz)
    change Calls Try.prog 29 _ _ _ at hcon
    refine hcon.mono ?_
    rintro e w' ⟨rfl, d', n, os, hp, hs, rfl⟩
    obtain ⟨h1, h2, h3⟩ := perm_sorted hp hs
    refine ⟨rfl, d'.toList, h1, h2.imp (fun {a b} h => by rw [ltM] at h; exact h), ?_, below_sortWorldK hbg hb _ _ _, fun q h5 h6 => heap_sortWorldK_other h5 (fun e => h6 (by rw [e]; rfl)) _ _ _⟩
    exact ownF_sorted Mg.enc_len (by omega) h h3 n os


end Go.Proofs.Yteoncpkfinheoaa
