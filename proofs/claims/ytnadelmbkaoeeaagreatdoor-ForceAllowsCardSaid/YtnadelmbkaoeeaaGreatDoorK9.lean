/- Walk: force.New. -/
import Derived.Test.YtnadelmbkaoeeaaGreatDoorK7
import Derived.Test.YtnadelmbkaoeeaaGreatDoorK8
import Derived.Shelf.SlSortCmp.NoneTotal
import Derived.Test.YtnadelmbkaoeeaaGreatDoorK3
import Derived.Test.YtnadelmbkaoeeaaGreatDoorK5
import Derived.Test.YtnadelmbkaoeeaaGreatDoorK6
import Derived.Test.YtnadelmbkaoeeaaGreatDoorK4
namespace Go.Proofs.YtnadelmbkaoeeaaGreatDoor
open Go.RowKit
open Go.Sort hiding Below
set_option linter.unusedVariables false

section
variable {α : Type} {enc : α → List Value} {s : Nat} {e : TypeId}
/-- append onto a row of the call's own: where the new row lies. -/
theorem wpList_flat_lies {P : Program} {w : World} {ops : Array Oper} {rest : List Oper} {o : Oper} {a : Act} {Q : Exit → Act → World → Prop} (hgd : o.guard = .none) (y x : Operand) (t : TypeId)
    (ho : o.op = .call { callee := .builtin .append, args := #[y, x], argTypes := #[t, t] })
    {base : Nat} (i : TypeInfo) (z : Value) (bytes : Nat) (ht : P.underlying t = some (.slice e)) (hi : P.info? e = some i) (hz : i.zero = some z)
    (hsize : i.size = s) (hby : i.bytes = bytes) (hzs : z.cells.size = s) (hs : ∀ x, (enc x).length = s) (h0 : 0 < s) (hone : ∀ x, ∀ u ∈ enc x, u.oneCell' = true)
    {v : Value} {L M : List α} (hy : a.eval y = v) (hown : OwnF enc s e w base v L)
    {ad : Addr} {m c : Nat} (hx : a.eval x = .slice (some ad) m c) (hl : SlF s w (some ad) m c (flat enc M)) (hm : 0 < m)
    (h63 : L.length + m ≤ maxLen) (hbytes : (L.length + m) * bytes ≤ 140737488355328) (hbase : base ≤ w.heap.size) {H : Nat} (hH : w.heap.size = H)
    (h : ∀ g cap w', OwnF enc s e w' base (.slice (some ⟨g, 0, none⟩) (L.length + m) cap) (L ++ M) → w.grownBy w' v.ownBlock → (v.ownBlock = some g ∨ g = H) → Below base w w' → wpList P ops Q rest (a.put o.dst (.slice (some ⟨g, 0, none⟩) (L.length + m) cap)) w') : wpList P ops Q (o :: rest) a w := by
  have hM := hl.count hs h0
  have hlt := World.ownsRow.lt hown
  refine wpList_append_lies w hgd y x t ho base e i z s bytes ht hi hz hsize hby hzs h0 v L.length _ hy hown ad m c (flat enc M) hx (by rw [flat_len hs, hM]) ?_ ?_ hm h63 hbytes hbase H hH (fun g cap w' h1 h2 h3 h4 => h g cap w' ?_ h2 h3 ?_)
  · intro j u hu
    obtain ⟨b, of, e, hc⟩ := hl.at_ j u hu
    obtain rfl := Option.some.inj e
    rw [Addr.add_lit]; exact hc
  · intro u hu
    obtain ⟨q, _, hq⟩ := List.mem_flatMap.1 hu
    exact hone q u hq
  · unfold OwnF; rw [List.length_append, hM, flat_append]; exact h1
  · exact (Below.refl _ _).grown h2 hbase fun k hk => (hlt k hk).1
end

/-- A row of the index whose slice lies in another block than the index's. -/
def FQ (w : World) (g : Nat) : Type := { p : FP // SlI w p.ao p.n p.c p.syms ∧ ∀ ad, p.ao = some ad → ad.block ≠ g ∧ ad.block < w.heap.size }
instance (w : World) (g : Nat) : Inhabited (FQ w g) := ⟨⟨⟨none, 0, 0, 0, []⟩, Sl.none, fun _ h => by cases h⟩⟩
def FQ.enc {w : World} {g : Nat} (p : FQ w g) : List Value := p.1.enc
def cmpQ {w : World} {g : Nat} (p q : FQ w g) : Int := cmpL p.1.syms q.1.syms
theorem ltQ {w : World} {g : Nat} (p q : FQ w g) : ltOf cmpQ p q = decide (p.1.syms < q.1.syms) := by
  unfold ltOf cmpQ
  apply decide_eq_decide.2
  exact cmpL_lt
theorem swoQ (w : World) (g : Nat) : SWO (ltOf (cmpQ (w := w) (g := g))) where
  irrefl x := by rw [ltQ]; exact decide_eq_false (List.lt_irrefl _)
  trans x y z h1 h2 := by rw [ltQ] at *; exact decide_eq_true (List.lt_trans (of_decide_eq_true h1) (of_decide_eq_true h2))
  ntrans x y z h1 h2 := by
    rw [ltQ] at *
    refine decide_eq_false (List.not_lt.2 ?_)
    exact List.le_trans (List.not_lt.1 (of_decide_eq_false h2)) (List.not_lt.1 (of_decide_eq_false h1))
theorem flat_FQ {w : World} {g : Nat} (L : List (FQ w g)) : flat FQ.enc L = flat FP.enc (L.map (·.1)) := by
  induction L with
  | nil => rfl
  | cons x L ih => rw [flat_cons, List.map_cons, flat_cons, ih]; rfl
theorem slI_other {w w' : World} {ao : Option Addr} {n c : Nat} {A : List Int} (h : SlI w ao n c A) (hk : ∀ ad, ao = some ad → w'.heap[ad.block]? = w.heap[ad.block]?) : SlI w' ao n c A := by
  refine ⟨Sl.len h, Sl.le h, Sl.max h, Sl.nil h, fun i u hi => ?_⟩
  obtain ⟨b, of, e, hc⟩ := Sl.at_ h i u hi
  exact ⟨b, of, e, (World.cell?_of_block (a := ⟨b, of + i, none⟩) (hk ⟨b, of, none⟩ e)).trans hc⟩
theorem cmpLaysQ (w : World) (g size : Nat) : CmpLays Tryz.prog 48 #[] (FQ.enc (w := w) (g := g)) 2 cmpQ g 0 size w := by
  intro m os dk _ x y
  have hx := slI_other (w' := sortWorldK FQ.enc 2 w g 0 m dk os) x.2.1 (fun ad e => heap_sortWorldK_other (x.2.2 ad e).2 (x.2.2 ad e).1 m dk os)
  have hy := slI_other (w' := sortWorldK FQ.enc 2 w g 0 m dk os) y.2.1 (fun ad e => heap_sortWorldK_other (y.2.2 ad e).2 (y.2.2 ad e).1 m dk os)
  exact rowCmp_calls x.1 y.1 _ hx hy

/-- The rows that a call gathers: their slices lie elsewhere. -/
def Apart (w : World) (v : Value) (P : List FP) : Prop := ∀ p ∈ P, SlI w p.ao p.n p.c p.syms ∧ ∀ ad, p.ao = some ad → v.ownBlock ≠ some ad.block ∧ ad.block < w.heap.size
/-- slices.SortFunc of rows. -/
theorem sortF_calls {w : World} {base : Nat} {v : Value} {P : List FP} (h : OwnF FP.enc 2 93 w base v P) (hb : base ≤ w.heap.size) (hP : Apart w v P) (hsz : P.length < 4611686018427387904) :
    Calls Tryz.prog 47 #[v, .func (.func 48) #[] #[]] w fun e w' => e = .returned (.tuple #[]) ∧
      ∃ P', P'.Perm P ∧ SortedF (P'.map FP.fr) ∧ OwnF FP.enc 2 93 w' base v P' ∧ RowKit.Below base w w' ∧ ∀ q, q < w.heap.size → v.ownBlock ≠ some q → w'.heap[q]? = w.heap[q]? := by
  obtain ⟨ao, cap, rfl, _⟩ := h.sl
  cases ao with
  | none =>
    have h0 : P.length = 0 := by
      rcases h.2 with ⟨_, hn⟩ | ⟨g, c2, cur, hv, _⟩
      · exact hn
      · simp at hv
    have hM : P = [] := List.eq_nil_of_length_eq_zero h0
    subst hM
    have hcon := AnyF.slices_SortFunc_none Tryz.sortF none cap (.func (.func 48) #[] #[]) w
    change Calls Tryz.prog 47 _ _ _ at hcon
    refine hcon.mono ?_
    rintro e w' ⟨rfl, rfl⟩
    exact ⟨rfl, [], List.Perm.refl _, List.Pairwise.nil, h, RowKit.Below.refl _ _, fun _ _ _ => rfl⟩
  | some ad =>
    obtain ⟨g, hg⟩ : ∃ g, ad = ⟨g, 0, none⟩ := by
      rcases h.2 with ⟨hv, _⟩ | ⟨g, c2, cur, hv, _⟩
      · simp at hv
      · simp at hv; exact ⟨g, hv.1⟩
    subst hg
    obtain ⟨Q, hQ⟩ : ∃ Q : List (FQ w g), Q.map (·.1) = P := by
      refine ⟨P.attachWith (fun p => SlI w p.ao p.n p.c p.syms ∧ ∀ ad, p.ao = some ad → ad.block ≠ g ∧ ad.block < w.heap.size) (fun p hp => ⟨(hP p hp).1, fun ad e => ?_⟩), ?_⟩
      · have := (hP p hp).2 ad e
        exact ⟨fun e2 => this.1 (by rw [e2]; rfl), this.2⟩
      · exact List.attachWith_map_subtype_val _
    have hlen : Q.length = P.length := by rw [← hQ, List.length_map]
    have hQo : OwnF FQ.enc 2 93 w base (.slice (some ⟨g, 0, none⟩) P.length cap) Q := by
      unfold OwnF at h ⊢
      rw [flat_FQ, hQ, hlen]; exact h
    obtain ⟨hH, hln, hbg, hlt⟩ := holdsK_own (enc := FQ.enc) (fun p => FP.enc_len p.1) (by omega) hQo
    have eg : ∀ args w, (callFunc 48 args).run Tryz.prog w = .ok (.enter 48 args) w := enters_of Tryz.func48 (by kernel_rfl) rfl
    have hcon := AnyQ.slices_SortFunc Tryz.sortF 2 Tryz.isAgg93 Tryz.sizeOf93 FQ.enc (fun p => FP.enc_len p.1) (fun p => FP.enc_one p.1) cmpQ (swoQ w g) 48 #[] g 0 cap Q.toArray w eg (cmpLaysQ w g Q.toArray.size) hH hlt (by simpa [hlen] using hsz)
    change Calls Tryz.prog 47 _ _ _ at hcon
    rw [show Q.toArray.size = P.length by simpa using hlen] at hcon
    refine hcon.mono ?_
    rintro e w' ⟨rfl, d', n, os, hp, hs, rfl⟩
    rw [show P.length = Q.toArray.size by simpa using hlen.symm] at hp hs
    obtain ⟨h1, h2, h3⟩ := perm_sorted hp hs
    refine ⟨rfl, d'.toList.map (·.1), ?_, ?_, ?_, below_sortWorldK hbg hb _ _ _, fun q h5 h6 => heap_sortWorldK_other h5 (fun e => h6 (by rw [e]; rfl)) _ _ _⟩
    · rw [← hQ]; exact h1.map _
    · unfold SortedF
      rw [List.map_map, List.pairwise_map]
      refine h2.imp fun {a b} h => ?_
      rw [ltQ] at h
      exact of_decide_eq_false h
    · have := ownF_sorted (enc := FQ.enc) (fun p => FP.enc_len p.1) (by omega) hQo h3 n os
      unfold OwnF at this ⊢
      rw [flat_FQ] at this
      rw [List.length_map]; exact this

def ForcePost (V : Vc) (N : List ByteArray) (w : World) (e : Ending) (w' : World) : Prop :=
  (∃ x P, e = .returned (.pointer (some ⟨x, 0, none⟩)) ∧ IdxR w' x P ∧ (P.map FP.fr).Perm (rowsF V N) ∧ SortedF (P.map FP.fr)) ∧ Below w.heap.size w w'

set_option maxHeartbeats 2000000 in
set_option maxRecDepth 100000 in
theorem forceNew_calls {V : Vc} {N : List ByteArray} {kind : Int} {T : List Rg} {base g cb : Nat} (w : World) (hC : ∀ w', Below w.heap.size w w' → TCod w' base g V N kind T cb) (hM : May V) (hN : MayNames N) :
    Calls Tryz.prog 19 #[.pointer (some ⟨g, 0, none⟩)] w (ForcePost V N w) := by
  obtain ⟨i0, z0, hi, hz0, hz1, hz2, hz3⟩ := info_row infoRow
  have HC := Lib.hid hC
  have HM := Lib.hid hM
  have HN := Lib.hid hN
  have HT4 : Hid (V.tokens.length ≤ 4096) := Lib.hid hM.1.1
  have H64 : Hid (∀ s ∈ V.tokens, s.size ≤ 64) := Lib.hid hM.1.2.1
  obtain ⟨w0, hw0⟩ : ∃ w0, w.alloc (.cells #[.slice none 0 0] 91) = w0 := ⟨_, rfl⟩
  have HB0 : Hid (Below w.heap.size w w0) := Lib.hid (by rw [← hw0]; exact below_alloc w _)
  have HX0 : Hid (w0.heap[w.heap.size]? = some (.cells #[.slice none 0 0] 91)) := Lib.hid (by rw [← hw0]; exact heap_alloc_new w _)
  have hsz0 : w0.heap.size = w.heap.size + 1 := by rw [← hw0]; simp
  have HW0 := Lib.hid hw0
  clear hC hM hN hw0
  go_enter Tryz.func19, Tryz.ntmps19
  go_wp2_with (fail)
  rw [HW0.out]
  go_loopw [11] (fun i wr => ∃ (k : Nat) (P : List FP) (v : Value), k ≤ 4096 ∧ i = .int .i64 k ∧ wr.heap[w.heap.size]? = some (.cells #[v] 91) ∧ OwnF FP.enc 2 93 wr w0.heap.size v P ∧ Hid (P.map FP.fr = rowsTo V N k) ∧ Hid (∀ p ∈ P, ∀ ad, p.ao = some ad → w0.heap.size ≤ ad.block) ∧ Apart wr v P ∧ Below w.heap.size w wr) (fun i _ => 4096 - (intOf i).toNat)
  case atStart => exact ⟨0, [], _, by omega, rfl, HX0.out, OwnF.nil _ _, Lib.hid rfl, Lib.hid (fun p hp => by simp at hp), fun p hp => by simp at hp, HB0.out⟩
  case round =>
    obtain ⟨k, P, v, hk, rfl, hx, ho, HP, HPB, hap, hb⟩ := hrel
    obtain ⟨ro, rc, rfl, hsl⟩ := ho.sl
    have HPL : Hid (P.length ≤ k) := Lib.hid (by have := congrArg List.length HP.out; rw [List.length_map] at this; rw [this]; exact rowsTo_le V N k)
    obtain ⟨pn, hpn⟩ : ∃ pn, P.length = pn := ⟨_, rfl⟩
    rw [hpn] at hx hsl
    have HO := Lib.hid ho
    rw [hpn] at HO
    have HX := Lib.hid hx
    have HAP := Lib.hid hap
    rw [hpn] at HAP
    have HB := Lib.hid hb
    have HPN := Lib.hid hpn
    have hxw : w.heap.size < wr.heap.size := (Array.getElem?_eq_some_iff.1 hx).1
    by_cases hlt : k < 4096
    · have hsy := symbols_calls (k : Int) wr (HC.out wr hb) H64.out HN.out
      have gk : (k : Int) < 4096 := by omega
      clear hx ho hap hb hsl hpn
      go_wp2_with (fail)
      refine hsy.mono ?_
      rintro e w9 ⟨⟨vs, rfl, hos⟩, hb9⟩
      obtain ⟨so, sc, rfl, hss⟩ := hos.sl
      obtain ⟨c0, cf⟩ := box1 ((hb9.block w.heap.size hxw).trans HX.out)
      by_cases herr : (symsOf V N (k : Int)).2 = 0
      · obtain ⟨SY, hSY⟩ : ∃ SY, (symsOf V N (k : Int)).1 = SY := ⟨_, rfl⟩
        rw [hSY] at hos hss ⊢
        rw [herr]
        have HR : Hid (rowsTo V N (k + 1) = rowsTo V N k ++ [(SY, (k : Int))]) := Lib.hid (by rw [← hSY]; exact rowsTo_yes herr)
        obtain ⟨sn, hsn⟩ : ∃ sn, SY.length = sn := ⟨_, rfl⟩
        rw [hsn] at hss ⊢
        have HSS := Lib.hid hss
        have HOS := Lib.hid hos
        rw [hsn] at HOS
        have HB9 := Lib.hid hb9
        have HSN := Lib.hid hsn
        have hc0a := cell_below (below_alloc w9 (.cells #[.slice so sn sc, .int .i64 k] 93)) _ _ c0
        have HOa : Hid (OwnF FP.enc 2 93 (w9.alloc (.cells #[.slice so sn sc, .int .i64 k] 93)) w0.heap.size (.slice ro pn rc) P) := Lib.hid (OwnF.alloc (OwnF.below HO.out HB9.out) _)
        have HSa : Hid (SlF 2 (w9.alloc (.cells #[.slice so sn sc, .int .i64 k] 93)) (some ⟨w9.heap.size, 0, none⟩) 1 1 (flat FP.enc [⟨so, sn, sc, k, SY⟩])) := Lib.hid (SlF.one FP.enc_len w9 ⟨so, sn, sc, k, SY⟩ 93 (cs := #[.slice so sn sc, .int .i64 k]) rfl)
        have hszr : w0.heap.size ≤ w9.heap.size := by have := hb9.size; omega
        have HLTO := Lib.hid (World.ownsRow.lt HO.out)
        clear hos hss hb9 hsn herr hsy hSY
        go_wp2_with (at_builtin; go_loud (refine wpList_flat_lies rfl _ _ 89 rfl i0 z0 32 Tryz.underlying89 hi hz0 hz1 hz2 hz3 FP.enc_len (by omega) FP.enc_one rfl HOa.out rfl HSa.out (by omega) (by have := HPN.out; have := HPL.out; unfold maxLen; omega) (by have := HPN.out; have := HPL.out; omega) (by simp; omega) rfl ?_))
        intro gg cap w1 ho1 hg1 hat hb1
        rw [HPN.out] at ho1
        have hx1 : w1.heap[w.heap.size]? = some (.cells #[.slice ro pn rc] 91) :=
          (hb1.block w.heap.size (by omega)).trans ((Below.heap_alloc _ _ _ (by have := HB9.out.size; omega)).trans ((HB9.out.block w.heap.size hxw).trans HX.out))
        obtain ⟨d0, df⟩ := box1 hx1
        have HX1 := Lib.hid hx1
        have HO1 := Lib.hid ho1
        have HG1 := Lib.hid hg1
        have HAT := Lib.hid hat
        have HB1 := Lib.hid hb1
        rw [HPN.out]
        clear hx1 ho1 hg1 hat hb1 hc0a c0 cf
        go_wp2_with (fail)
        go_roundw
        case rel =>
          have HO1 := HO1.out
          rw [← hsz0] at HO1
          have HO1 := Lib.hid HO1
          have hx2 := set1N (v := .slice (some ⟨gg, 0, none⟩) (pn + 1) cap) HX1.out
          have hbw : Below w.heap.size w (w1.setCell ⟨w.heap.size, 0, none⟩ (.slice (some ⟨gg, 0, none⟩) (pn + 1) cap)) :=
            ((HB.out.trans ((HB9.out.alloc HB9.out.size _).mono HB.out.size)).trans (HB1.out.mono (by omega))).setCell (p := ⟨w.heap.size, 0, none⟩) (Nat.le_refl _) _
          refine ⟨k + 1, P ++ [⟨so, sn, sc, k, SY⟩], _, by omega, by go_num, hx2, ?_, Lib.hid ?_, Lib.hid ?_, ?_, hbw⟩
          · exact own_stay (v := .slice (some ⟨gg, 0, none⟩) (pn + 1) cap) HO1.out fun q hq => Below.heap_setCell _ _ _ _ (by
              have := (World.ownsRow.lt HO1.out q hq).1
              show q ≠ w.heap.size
              omega)
          · rw [List.map_append, HP.out, HR.out]; rfl
          · intro p hp ad e
            rcases List.mem_append.1 hp with hp | hp
            · exact HPB.out p hp ad e
            · simp at hp
              subst hp
              subst e
              have := (World.ownsRow.lt HOS.out ad.block rfl).1
              omega
          · have hkeep : ∀ q, q < wr.heap.size → q ≠ w.heap.size → (Value.slice ro pn rc).ownBlock ≠ some q → (w1.setCell ⟨w.heap.size, 0, none⟩ (.slice (some ⟨gg, 0, none⟩) (pn + 1) cap)).heap[q]? = wr.heap[q]? := fun q h1 h2 h3 =>
              (Below.heap_setCell _ _ _ _ h2).trans ((HG1.out.block q (by have := HB9.out.size; simp; omega) (fun e => h3 e.symm)).trans ((Below.heap_alloc _ _ _ (by have := HB9.out.size; omega)).trans (HB9.out.block q h1)))
            have hkeep9 : ∀ q, wr.heap.size ≤ q → q < w9.heap.size → (w1.setCell ⟨w.heap.size, 0, none⟩ (.slice (some ⟨gg, 0, none⟩) (pn + 1) cap)).heap[q]? = w9.heap[q]? := fun q h1 h2 =>
              (Below.heap_setCell _ _ _ _ (by show q ≠ w.heap.size; omega)).trans ((HG1.out.block q (by simp; omega) (fun e => by have := (HLTO.out q e.symm).2; omega)).trans (Below.heap_alloc _ _ _ h2))
            have hsz1 : w9.heap.size < (w1.setCell ⟨w.heap.size, 0, none⟩ (.slice (some ⟨gg, 0, none⟩) (pn + 1) cap)).heap.size := by
              have := HG1.out.size
              simp at this ⊢
              omega
            intro p hp
            rcases List.mem_append.1 hp with hp | hp
            · obtain ⟨a1, a2⟩ := HAP.out p hp
              refine ⟨slI_other a1 fun ad e => hkeep _ (a2 ad e).2 (fun e2 => ?_) (a2 ad e).1, fun ad e => ⟨fun e2 => ?_, by have := (a2 ad e).2; have := HB9.out.size; omega⟩⟩
              · have := HPB.out p hp ad e
                omega
              · simp [Value.ownBlock] at e2
                rcases HAT.out with h | h
                · exact (a2 ad e).1 (by rw [h, e2])
                · have := (a2 ad e).2
                  have := HB9.out.size
                  omega
            · simp at hp
              subst hp
              have hl := World.ownsRow.lt HOS.out
              refine ⟨slI_other HSS.out fun ad e => ?_, fun ad e => ?_⟩
              · subst e
                have := hl ad.block rfl
                exact hkeep9 _ this.1 this.2
              · subst e
                have := hl ad.block rfl
                refine ⟨fun e2 => ?_, by omega⟩
                simp [Value.ownBlock] at e2
                rcases HAT.out with h | h
                · have := (HLTO.out gg h).2; omega
                · omega
        case measure =>
          show 4096 - ((k : Int) + 1).toNat < 4096 - (k : Int).toNat
          omega
      · have HR : Hid (rowsTo V N (k + 1) = rowsTo V N k) := Lib.hid (rowsTo_no herr)
        obtain ⟨er, her⟩ : ∃ er, (symsOf V N (k : Int)).2 = er := ⟨_, rfl⟩
        rw [her] at herr ⊢
        have hbe : (er == 0) = false := by simpa using herr
        have HB9 := Lib.hid hb9
        clear hos hss hb9 herr hsy her c0 cf
        go_wp2_with (fail)
        go_roundw
        case rel =>
          exact ⟨k + 1, P, _, by omega, by go_num, (HB9.out.block w.heap.size hxw).trans HX.out, by have := OwnF.below HO.out HB9.out; exact this, Lib.hid (by rw [HR.out]; exact HP.out), HPB, fun p hp => ⟨(HAP.out p hp).1.below HB9.out, fun ad e => ⟨((HAP.out p hp).2 ad e).1, Nat.lt_of_lt_of_le ((HAP.out p hp).2 ad e).2 HB9.out.size⟩⟩, HB.out.trans (HB9.out.mono HB.out.size)⟩
        case measure =>
          show 4096 - ((k : Int) + 1).toNat < 4096 - (k : Int).toNat
          omega
    · obtain rfl : k = 4096 := by omega
      have HRA : Hid (P.map FP.fr = rowsF V N) := Lib.hid (by
        have h := rowsTo_all (N := N) HM.out (4096 - V.tokens.length)
        rw [show V.tokens.length + (4096 - V.tokens.length) = 4096 by have := HT4.out; omega] at h
        rw [HP.out, h])
      obtain ⟨c0, cf⟩ := box1 hx
      have hso := sortF_calls HO.out (by have := hb.size; omega) HAP.out (by have := HPN.out; have := HPL.out; omega)
      clear hx ho hap hb hsl hpn
      go_wp2_with (fail)
      refine hso.mono ?_
      rintro e w9 ⟨rfl, P', hp1, hp2, ho9, hb9, hk9⟩
      have hx9 := (hk9 w.heap.size hxw (fun e => by have := (World.ownsRow.lt HO.out _ e).1; omega)).trans HX.out
      have HB9 : Hid (Below w.heap.size w w9) := Lib.hid (HB.out.trans (hb9.mono (by omega)))
      have hl' : P'.length = pn := by rw [hp1.length_eq]; exact HPN.out
      obtain ⟨ro', rc', e', hs9⟩ := ho9.sl
      rw [hl'] at e' hs9
      simp only [Value.slice.injEq, true_and] at e'
      obtain ⟨rfl, rfl⟩ := e'
      have HI : Hid (IdxR w9 w.heap.size P') := Lib.hid ⟨⟨ro, rc, by rw [hl']; exact hx9, by rw [hl']; exact hs9⟩, fun p hp => by
        obtain ⟨a1, a2⟩ := HAP.out p (hp1.mem_iff.1 hp)
        exact slI_other a1 fun ad e => hk9 _ (a2 ad e).2 (a2 ad e).1⟩
      have HPP : Hid ((P'.map FP.fr).Perm (rowsF V N)) := Lib.hid (by rw [← HRA.out]; exact hp1.map _)
      have HSO := Lib.hid hp2
      clear hp1 hp2 ho9 hb9 hk9 hx9 hs9 hso c0 cf
      go_wp2_with (fail)
      go_ret
      exact ⟨⟨w.heap.size, P', rfl, HI.out, HPP.out, HSO.out⟩, HB9.out⟩

end Go.Proofs.YtnadelmbkaoeeaaGreatDoor

/- What the index answers, in the document's words. -/
namespace Go.Proofs.YtnadelmbkaoeeaaGreatDoor
open Go.RowKit
set_option linter.unusedVariables false

/-- An index of a vocabulary's tokens. -/
structure IdxV (w : World) (g : Nat) (P : List FP) (V : Vc) (N : List ByteArray) : Prop where
  idx : IdxR w g P
  perm : (P.map FP.fr).Perm (rowsF V N)
  sorted : SortedF (P.map FP.fr)
theorem IdxV.below {w w' : World} {g : Nat} {P : List FP} {V : Vc} {N : List ByteArray} (h : IdxV w g P V N) (hb : Below w.heap.size w w') : IdxV w' g P V N := ⟨h.idx.below hb, h.perm, h.sorted⟩
theorem rowsF_le {V : Vc} {N : List ByteArray} (hM : May V) : (rowsF V N).length ≤ 4096 := by
  rw [← rowsTo_all hM 0]
  exact Nat.le_trans (rowsTo_le _ _ _) hM.1.1
theorem IdxV.len {w : World} {g : Nat} {P : List FP} {V : Vc} {N : List ByteArray} (h : IdxV w g P V N) : P.length = (rowsF V N).length := by
  rw [← h.perm.length_eq, List.length_map]
theorem IdxV.uniq {w : World} {g : Nat} {P : List FP} {V : Vc} {N : List ByteArray} (h : IdxV w g P V N) (hM : May V) : ∀ a ∈ P.map FP.fr, ∀ b ∈ P.map FP.fr, a.1 = b.1 → a = b :=
  fun a ha b hb e => (goodF hM).uniq a (h.perm.mem_iff.1 ha) b (h.perm.mem_iff.1 hb) e

theorem allowed_zero (p : Addr) (so : Option Addr) (sc : Nat) (w : World) :
    Calls Tryz.prog 22 #[.pointer (some p), .slice so 0 sc] w fun e w' => e = .returned (.slice none 0 0) ∧ w = w' := by
  go_enter Tryz.func22, Tryz.ntmps22
  go_wp2_with (fail)
  go_ret
  exact ⟨rfl, rfl⟩

theorem vlen_calls {P : List FP} {g : Nat} {V : Vc} {N : List ByteArray} (w : World) (hI : IdxV w g P V N) :
    Calls Tryz.prog 20 #[.pointer (some ⟨g, 0, none⟩)] w fun e w' => e = .returned (.int .i64 (rowsF V N).length) ∧ w = w' := by
  rw [← hI.len]
  exact lenF_calls w hI.idx
theorem vlongest_calls {P : List FP} {g : Nat} {V : Vc} {N : List ByteArray} {S : List Int} {so : Option Addr} {sn sc : Nat} (w : World) (hI : IdxV w g P V N) (hM : May V) (hS : SlI w so sn sc S) :
    Calls Tryz.prog 24 #[.pointer (some ⟨g, 0, none⟩), .slice so sn sc] w fun e w' => e = .returned (.int .i64 (longTo (P.map FP.fr) S (min S.length 64))) ∧ Below w.heap.size w w' := by
  rw [hS.len]
  exact longest_calls w hI.idx hS (by rw [hI.len]; exact Nat.le_trans (rowsF_le hM) (by omega)) hI.sorted (hI.uniq hM)
theorem vallowed_calls {P : List FP} {g : Nat} {V : Vc} {N : List ByteArray} {S : List Int} {so : Option Addr} {sn sc : Nat} (w : World) (hI : IdxV w g P V N) (hM : May V) (hS : SlI w so sn sc S) :
    Calls Tryz.prog 22 #[.pointer (some ⟨g, 0, none⟩), .slice so sn sc] w fun e w' => (∃ v, e = .returned v ∧ Own w' w.heap.size v (allowedF (rowsF V N) S)) ∧ Below w.heap.size w w' := by
  rcases Nat.eq_zero_or_pos sn with h0 | h0
  · subst h0
    have hE : S = [] := List.eq_nil_of_length_eq_zero hS.len
    subst hE
    refine (allowed_zero _ _ _ w).mono ?_
    rintro e w' ⟨rfl, rfl⟩
    exact ⟨⟨_, rfl, by simpa [allowedF] using Own.nil w w.heap.size⟩, Below.refl _ _⟩
  · refine (allowed_calls w hI.idx hS (by rw [hI.len]; exact Nat.le_trans (rowsF_le hM) (by omega)) hI.sorted (hI.uniq hM) h0).mono ?_
    rintro e w' ⟨⟨v, rfl, ho⟩, hb⟩
    have hne : S ≠ [] := by
      intro e
      have := hS.len
      rw [e] at this
      simp at this
      omega
    rw [← hS.len, gather_sort hM hI.perm hne] at ho
    exact ⟨⟨v, rfl, ho⟩, hb⟩
theorem fnew_calls {V : Vc} {N : List ByteArray} {kind : Int} {T : List Rg} {base g cb : Nat} (w : World) (hC : ∀ w', Below w.heap.size w w' → TCod w' base g V N kind T cb) (hM : May V) (hN : MayNames N) :
    Calls Tryz.prog 19 #[.pointer (some ⟨g, 0, none⟩)] w fun e w' => (∃ x P, e = .returned (.pointer (some ⟨x, 0, none⟩)) ∧ IdxV w' x P V N) ∧ Below w.heap.size w w' := by
  refine (forceNew_calls w hC hM hN).mono ?_
  rintro e w' ⟨⟨x, P, rfl, h1, h2, h3⟩, hb⟩
  exact ⟨⟨x, P, rfl, ⟨h1, h2, h3⟩⟩, hb⟩
theorem fnew_nil (w : World) :
    Calls Tryz.prog 19 #[.pointer none] w fun e w' => e = .returned (.pointer none) ∧ Below w.heap.size w w' := by
  go_enter Tryz.func19, Tryz.ntmps19
  go_wp2_with (fail)
  go_ret
  exact ⟨rfl, Below.refl _ _⟩

end Go.Proofs.YtnadelmbkaoeeaaGreatDoor

/- Plain laws: the vocabulary of the chapter's example. -/
namespace Go.Proofs.YtnadelmbkaoeeaaGreatDoor
set_option linter.unusedVariables false

def rowsN (n : Nat) : List Rw := (List.range n).map fun b => ⟨one b, (b : Int)⟩
theorem rowsN_zero : rowsN 0 = [] := rfl
theorem rowsN_succ (n : Nat) : rowsN (n + 1) = rowsN n ++ [⟨one n, (n : Int)⟩] := by
  unfold rowsN; rw [List.range_succ, List.map_append]; rfl
theorem rowsN_mem {n : Nat} {r : Rw} (h : r ∈ rowsN n) : ∃ b, b < n ∧ r = ⟨one b, (b : Int)⟩ := by
  unfold rowsN at h
  obtain ⟨b, hb, rfl⟩ := List.mem_map.1 h
  exact ⟨b, List.mem_range.1 hb, rfl⟩
theorem rowsN_len (n : Nat) : (rowsN n).length = n := by simp [rowsN]
theorem rowsN_tok (n i : Nat) : tokAt (rowsN n) i = if i < n then one i else ByteArray.empty := by
  induction n with
  | zero => rfl
  | succ n ih =>
    rw [rowsN_succ]
    by_cases e : i = n
    · subst e
      rw [tokAt_snoc (fun r hr => by obtain ⟨b, hb, rfl⟩ := rowsN_mem hr; simp only; omega)]
      simp
    · rw [tokAt_snoc_other (by simp only; omega), ih]
      by_cases h : i < n
      · rw [if_pos h, if_pos (by omega)]
      · rw [if_neg h, if_neg (by omega)]

def abS : ByteArray := ⟨#[97, 98]⟩
def R0 : List Rw := rowsN 256 ++ [⟨abS, 256⟩]
def T0 : List ByteArray := (List.range 256).map one ++ [abS]
theorem T0_len : T0.length = 257 := by simp [T0]
theorem T0_low {i : Nat} (h : i < 256) : tk T0 i = one i := by
  unfold tk T0
  rw [List.getD_eq_getElem?_getD, List.getElem?_append_left (by simpa using h)]
  simp [h]
theorem T0_top : tk T0 256 = abS := by
  unfold tk T0
  rw [List.getD_eq_getElem?_getD, List.getElem?_append_right (by simp)]
  simp
theorem top_R0 : top R0 [] = 257 := by decide +kernel
theorem toks_R0 : toksOf R0 [] = T0 := by
  unfold toksOf
  rw [top_R0]
  refine List.ext_getElem? fun i => ?_
  by_cases h : i < 257
  · rw [tk_eq (T := T0) (by rw [T0_len]; exact h)]
    simp only [List.getElem?_map, List.getElem?_range (show i < (257 : Int).toNat from h), Option.map_some]
    congr 1
    unfold R0
    by_cases e : i = 256
    · subst e
      rw [T0_top, tokAt_snoc (fun r hr => by obtain ⟨b, hb, rfl⟩ := rowsN_mem hr; simp only; omega)]
      rfl
    · rw [T0_low (by omega), tokAt_snoc_other (by simp only; omega), rowsN_tok, if_pos (by omega)]
  · rw [List.getElem?_eq_none (by simp; omega), List.getElem?_eq_none (by rw [T0_len]; omega)]
theorem one_inj {i j : Nat} (hi : i < 256) (hj : j < 256) (h : one i = one j) : i = j := by
  unfold one at h
  simp only [ByteArray.mk.injEq, Array.mk.injEq, List.cons.injEq, and_true] at h
  have := congrArg UInt8.toNat h
  simp at this
  omega
theorem uniq_T0 : Uniq T0 := fun i j h1 h2 e => by
  rw [T0_len] at h2
  by_cases hj : j = 256
  · subst hj
    rw [T0_low (by omega), T0_top] at e
    have := congrArg ByteArray.size e
    simp [one, abS, ByteArray.size] at this
  · rw [T0_low (by omega), T0_low (by omega)] at e
    have := one_inj (by omega) (by omega) e
    omega
theorem mayTok_T0 : MayTok T0 := ⟨by rw [T0_len]; omega, fun s hs => by
  unfold T0 at hs
  rcases List.mem_append.1 hs with h | h
  · obtain ⟨b, _, rfl⟩ := List.mem_map.1 h
    exact Nat.le_of_lt (show 1 < 64 by omega) |> fun _ => show 1 ≤ 64 by omega
  · obtain rfl := List.mem_singleton.1 h
    exact show 2 ≤ 64 by omega, uniq_T0, fun b hb => List.mem_append.2 (.inl (List.mem_map.2 ⟨b, List.mem_range.2 hb, rfl⟩))⟩
theorem ofT_one0 {i : Nat} (h : i < 256) : ofT T0 (one i) = i := by
  have := uniq_T0.of (i := i) (by rw [T0_len]; omega) (by rw [T0_low h]; show 1 ≠ 0; omega)
  rwa [T0_low h] at this
theorem ofT_ab : ofT T0 abS = 256 := by
  have := uniq_T0.of (i := 256) (by rw [T0_len]; omega) (by rw [T0_top]; show 2 ≠ 0; omega)
  rwa [T0_top] at this
def m0 : Mg := ⟨97, 98, 256, 256⟩
theorem mergesTo_T0 {k : Nat} (h : k ≤ 256) : mergesTo T0 k = [] := by
  induction k with
  | zero => rfl
  | succ k ih =>
    rw [mergesTo_succ, ih (by omega), cutsOf_eq, T0_low (by omega)]
    rfl
theorem merges_T0 : mergesOf T0 = [m0] := by
  rw [← mergesTo_all, T0_len, mergesTo_succ, mergesTo_T0 (Nat.le_refl _), cutsOf_eq, T0_top]
  show cutsTo T0 256 1 = [m0]
  have h : cutAt T0 256 0 = some m0 := by
    unfold cutAt
    rw [T0_top, show abS.extract 0 (0 + 1) = one 97 from rfl, show abS.extract (0 + 1) abS.size = one 98 from rfl, ofT_one0 (by omega), ofT_one0 (by omega)]
    rfl
  rw [cutsTo_some h]
  rfl
theorem may_T0 : May ⟨T0, [m0], []⟩ := by
  refine ⟨mayTok_T0, ⟨by simp, fun m hm => ?_, by simp⟩, fun i hi h => ?_, ⟨by simp, by simp, by simp⟩⟩
  · obtain rfl := List.mem_singleton.1 hm
    refine ⟨isTk_iff.2 ⟨by decide, by rw [T0_len]; decide, ?_⟩, isTk_iff.2 ⟨by decide, by rw [T0_len]; decide, ?_⟩, isTk_iff.2 ⟨by decide, by rw [T0_len]; decide, ?_⟩, ?_, by decide, by decide⟩
    · show (tk T0 97).size ≠ 0
      rw [T0_low (by omega)]; show 1 ≠ 0; omega
    · show (tk T0 98).size ≠ 0
      rw [T0_low (by omega)]; show 1 ≠ 0; omega
    · show (tk T0 256).size ≠ 0
      rw [T0_top]; show 2 ≠ 0; omega
    · show tk T0 256 = tk T0 97 ++ tk T0 98
      rw [T0_top, T0_low (by omega), T0_low (by omega)]; rfl
  · refine ⟨m0, List.mem_singleton.2 rfl, ?_⟩
    rw [T0_len] at hi
    by_cases e : i = 256
    · subst e; rfl
    · rw [T0_low (by omega)] at h
      exact absurd h (by show ¬ 1 < 1; omega)
theorem sort_m0 : sortMg [m0] = [m0] := by unfold sortMg; simp
theorem sort_nil : sortSp [] = [] := by unfold sortSp; simp
theorem voc_R0 : vocOf R0 [] = ⟨T0, [m0], []⟩ := by
  unfold vocOf
  rw [toks_R0, merges_T0, sort_m0, sort_nil]
theorem ok_R0 : OkRows R0 [] := by
  refine ⟨by simp, fun r hr => ?_, ?_⟩
  · rcases List.mem_append.1 hr with h | h
    · obtain ⟨b, hb, rfl⟩ := rowsN_mem h
      simp only; omega
    · obtain rfl := List.mem_singleton.1 h
      simp only; omega
  · unfold R0
    rw [List.pairwise_append]
    refine ⟨?_, by simp, fun a ha b hb => ?_⟩
    · unfold rowsN
      rw [List.pairwise_map]
      exact List.pairwise_lt_range.imp (fun h => by simp only; omega)
    · obtain ⟨q, hq, rfl⟩ := rowsN_mem ha
      obtain rfl := List.mem_singleton.1 hb
      simp only; omega
theorem good_R0 : OkRows R0 [] ∧ May (vocOf R0 []) := ⟨ok_R0, by rw [voc_R0]; exact may_T0⟩
theorem R0_len : R0.length = 257 := by simp [R0, rowsN_len]
theorem R0_sized : ∀ r ∈ R0, r.token.size ≤ 2 := fun r hr => by
  rcases List.mem_append.1 hr with h | h
  · obtain ⟨b, hb, rfl⟩ := rowsN_mem h
    exact show 1 ≤ 2 by omega
  · obtain rfl := List.mem_singleton.1 h
    exact show 2 ≤ 2 by omega

end Go.Proofs.YtnadelmbkaoeeaaGreatDoor

/- Walk: the vocabulary of the bytes and of some more tokens and names. -/
namespace Go.Proofs.YtnadelmbkaoeeaaGreatDoor
open Go.RowKit
set_option linter.unusedVariables false

theorem infoRwL : (Tryz.prog.info? 104).map (fun i => (i.zero.map (·.cells.size), i.size, i.bytes)) = some (some 2, 2, 24) := by kernel_rfl
theorem infoSpL : (Tryz.prog.info? 82).map (fun i => (i.zero.map (·.cells.size), i.size, i.bytes)) = some (some 2, 2, 24) := by kernel_rfl
theorem Rw.enc_oneL (x : Rw) : ∀ v ∈ x.enc, v.oneCell' = true := by
  intro v hv
  simp [Rw.enc] at hv
  rcases hv with rfl | rfl <;> rfl
theorem Sp.enc_oneL (x : Sp) : ∀ v ∈ x.enc, v.oneCell' = true := by
  intro v hv
  simp [Sp.enc] at hv
  rcases hv with rfl | rfl <;> rfl
def moreN (M : List ByteArray) (k : Nat) : List Rw := (List.range k).map fun i => ⟨tk M i, 256 + (i : Int)⟩
def namesN (M N : List ByteArray) (k : Nat) : List Sp := (List.range k).map fun i => ⟨tk N i, 256 + (M.length : Int) + (i : Int)⟩
def lettersR (M : List ByteArray) : List Rw := rowsN 256 ++ moreN M M.length
def lettersS (M N : List ByteArray) : List Sp := namesN M N N.length
theorem moreN_succ (M : List ByteArray) (k : Nat) : moreN M (k + 1) = moreN M k ++ [⟨tk M k, 256 + (k : Int)⟩] := by
  unfold moreN; rw [List.range_succ, List.map_append]; rfl
theorem namesN_succ (M N : List ByteArray) (k : Nat) : namesN M N (k + 1) = namesN M N k ++ [⟨tk N k, 256 + (M.length : Int) + (k : Int)⟩] := by
  unfold namesN; rw [List.range_succ, List.map_append]; rfl
theorem moreN_len (M : List ByteArray) (k : Nat) : (moreN M k).length = k := by simp [moreN]
theorem namesN_len (M N : List ByteArray) (k : Nat) : (namesN M N k).length = k := by simp [namesN]

theorem not_slice {w : World} {g b k : Nat} {u : Value} {a0 a1 a2 : Option Addr} {n0 n1 n2 c0 c1 c2 : Nat} {t : TypeId} (hg : w.heap[g]? = some (.cells #[.slice a0 n0 c0, .slice a1 n1 c1, .slice a2 n2 c2] t)) (hc : w.cell? ⟨b, k, none⟩ = some u) (hv : ∀ a n c, u ≠ .slice a n c) : b ≠ g := by
  rintro rfl
  simp only [World.cell?, hg] at hc
  have := Array.mem_of_getElem? hc
  simp at this
  rcases this with h | h | h <;> exact hv _ _ _ h
theorem Sl.notSl {w w' : World} {g : Nat} {ao : Option Addr} {n cap : Nat} {vs : List Value} (h : Sl w ao n cap vs) (hv : ∀ u ∈ vs, ∀ a n c, u ≠ .slice a n c) {a0 a1 a2 : Option Addr} {n0 n1 n2 c0 c1 c2 : Nat} {t : TypeId} (hg : w.heap[g]? = some (.cells #[.slice a0 n0 c0, .slice a1 n1 c1, .slice a2 n2 c2] t)) (hk : ∀ q, q ≠ g → w'.heap[q]? = w.heap[q]?) : Sl w' ao n cap vs :=
  ⟨h.len, h.le, h.max, h.nil, fun i u hu => let ⟨b, o, e, hc⟩ := h.at_ i u hu; ⟨b, o, e, (World.cell?_of_block (a := ⟨b, o + i, .none⟩) (hk b (not_slice hg hc (hv u (List.mem_of_getElem? hu))))).trans hc⟩⟩
theorem SlF.notSl {s : Nat} {w w' : World} {g : Nat} {ao : Option Addr} {n cap : Nat} {vs : List Value} (h : SlF s w ao n cap vs) (hv : ∀ u ∈ vs, ∀ a n c, u ≠ .slice a n c) {a0 a1 a2 : Option Addr} {n0 n1 n2 c0 c1 c2 : Nat} {t : TypeId} (hg : w.heap[g]? = some (.cells #[.slice a0 n0 c0, .slice a1 n1 c1, .slice a2 n2 c2] t)) (hk : ∀ q, q ≠ g → w'.heap[q]? = w.heap[q]?) : SlF s w' ao n cap vs :=
  ⟨h.len, h.le, h.max, h.nil, fun i u hu => let ⟨b, o, e, hc⟩ := h.at_ i u hu; ⟨b, o, e, (World.cell?_of_block (a := ⟨b, o + i, .none⟩) (hk b (not_slice hg hc (hv u (List.mem_of_getElem? hu))))).trans hc⟩⟩
theorem VocR.notSl {w w' : World} {g : Nat} {d : Vd} {V : Vc} (h : VocR w d V) {a0 a1 a2 : Option Addr} {n0 n1 n2 c0 c1 c2 : Nat} {t : TypeId} (hg : w.heap[g]? = some (.cells #[.slice a0 n0 c0, .slice a1 n1 c1, .slice a2 n2 c2] t)) (hk : ∀ q, q ≠ g → w'.heap[q]? = w.heap[q]?) : VocR w' d V := by
  refine ⟨Sl.notSl h.tok (fun u hu => ?_) hg hk, SlF.notSl h.mrg (fun u hu => ?_) hg hk, SlF.notSl h.spc (fun u hu => ?_) hg hk⟩
  · obtain ⟨x, _, rfl⟩ := List.mem_map.1 hu
    intro a n c e; cases e
  · obtain ⟨x, _, hx⟩ := List.mem_flatMap.1 hu
    simp [Mg.enc] at hx
    rcases hx with rfl | rfl | rfl | rfl <;> (intro a n c e; cases e)
  · obtain ⟨x, _, hx⟩ := List.mem_flatMap.1 hu
    simp [Sp.enc] at hx
    rcases hx with rfl | rfl <;> (intro a n c e; cases e)

set_option maxHeartbeats 2000000 in
set_option maxRecDepth 100000 in
theorem letters_calls {M N : List ByteArray} {mo no : Option Addr} {mn mc nn nc : Nat} (w : World) (hM : SlS w mo mn mc M) (hN : SlS w no nn nc N) (hMs : ∀ s ∈ M, s.size ≤ maxLen) (hNs : ∀ s ∈ N, s.size ≤ maxLen) (hmn : mn ≤ 1000) (hnn : nn ≤ 20) :
    Calls Tryz.prog 28 #[.slice mo mn mc, .slice no nn nc] w (RFromPost (lettersR M) (lettersS M N) w) := by
  obtain ⟨i0, z0, hi, hz0, hz1, hz2, hz3⟩ := info_row infoRwL
  obtain ⟨j0, y0, hj, hy0, hy1, hy2, hy3⟩ := info_row infoSpL
  obtain ⟨wa, hwa⟩ : ∃ wa, w.alloc (.cells #[.slice none 0 0, .slice none 0 0, .slice none 0 0] 26) = wa := ⟨_, rfl⟩
  obtain ⟨w0, hw0⟩ : ∃ w0, wa.alloc (.cells #[] 104) = w0 := ⟨_, rfl⟩
  have hba : Below w.heap.size w wa := hwa ▸ below_alloc w _
  have hsa : wa.heap.size = w.heap.size + 1 := by rw [← hwa]; simp
  have HXA : Hid (wa.heap[w.heap.size]? = some (.cells #[.slice none 0 0, .slice none 0 0, .slice none 0 0] 26)) := Lib.hid (by rw [← hwa]; exact heap_alloc_new w _)
  have HO0 : Hid (OwnF Rw.enc 2 104 w0 wa.heap.size (.slice (some ⟨w.heap.size + 1, 0, none⟩) 0 0) []) := Lib.hid (by rw [← hw0, ← hsa]; exact OwnF.made0 wa)
  have HBA : Hid (Below w.heap.size w wa) := Lib.hid hba
  have HBA0 : Hid (Below wa.heap.size wa w0) := Lib.hid (by rw [← hw0]; exact below_alloc wa _)
  have HSZ1 : Hid (w.heap.size < wa.heap.size) := Lib.hid (by omega)
  have HMR := Lib.hid (Sl.below hM hba)
  have HNR := Lib.hid (Sl.below hN hba)
  have HML : Hid (M.length = mn) := Lib.hid hM.count
  have HNL : Hid (N.length = nn) := Lib.hid hN.count
  have HMS := Lib.hid hMs
  have HNS := Lib.hid hNs
  have HW0 := Lib.hid hw0
  have HWA := Lib.hid hwa
  clear hba hw0 hwa hsa hM hN hMs hNs
  go_enter Tryz.func28, Tryz.ntmps28
  go_wp2_with (fail)
  rw [HWA.out, HW0.out]
  go_loopw [6, 7] (fun v i wr => ∃ k : Nat, k ≤ 256 ∧ i = .int .i64 k ∧ OwnF Rw.enc 2 104 wr wa.heap.size v (rowsN k) ∧ Below wa.heap.size wa wr) (fun _ i _ => 256 - (intOf i).toNat)
  case atStart => exact ⟨0, by omega, rfl, HO0.out, HBA0.out⟩
  case round =>
    obtain ⟨k, hk, rfl, ho, hb⟩ := hrel
    by_cases hlt : k < 256
    · have hw8 : IntKind.u8.wrap (k : Int) = (k : Int) := by rw [IntKind.wrap_u8]; omega
      have hcv := conv_one wr k
      have hln := rowsN_len k
      obtain ⟨Ls, hLs⟩ : ∃ Ls, rowsN k = Ls := ⟨_, rfl⟩
      rw [hLs] at ho hln
      have HLS := Lib.hid hLs
      obtain ⟨vo, vc, rfl, _⟩ := ho.sl
      have HLN := Lib.hid hln
      rw [hln] at ho ⊢
      have HBS := Lib.hid hb.size
      have HO3 : Hid (OwnF Rw.enc 2 104 ((wr.alloc (.cells #[.int .u8 (k : Int)] 5)).alloc (.cells #[.string (one k), .int .i64 (k : Int)] 104)) wa.heap.size (.slice vo k vc) Ls) := Lib.hid ((ho.alloc _).alloc _)
      have HS3 : Hid (SlF 2 ((wr.alloc (.cells #[.int .u8 (k : Int)] 5)).alloc (.cells #[.string (one k), .int .i64 (k : Int)] 104)) (some ⟨wr.heap.size + 1, 0, none⟩) 1 1 (flat Rw.enc [⟨one k, k⟩])) := Lib.hid (by
        have := SlF.one Rw.enc_len (wr.alloc (.cells #[.int .u8 (k : Int)] 5)) ⟨one k, k⟩ 104 (cs := #[.string (one k), .int .i64 (k : Int)]) rfl
        simpa using this)
      have HB := Lib.hid hb
      clear ho hb hln hLs
      go_wp2_with (at_builtin; go_loud (refine wpList_flat_app rfl _ _ 101 rfl i0 z0 24 Tryz.underlying101 hi hz0 hz1 hz2 hz3 Rw.enc_len (by omega) Rw.enc_oneL rfl HO3.out rfl HS3.out (by have := HLN.out; unfold maxLen; omega) (by have := HLN.out; omega) (by have := HBS.out; simp; omega) ?_))
      intro v' w' ho' hg' hb'
      have HO' := Lib.hid ho'
      have HB' := Lib.hid (((HB.out.alloc HB.out.size _).alloc (by have := HBS.out; simp; omega) _).trans hb')
      clear ho' hg' hb'
      go_wp2_with (fail)
      go_roundw
      case rel => exact ⟨k + 1, by omega, by go_num, by rw [rowsN_succ, HLS.out]; exact HO'.out, HB'.out⟩
      case measure => simp [intOf]; omega
    · have HK : Hid (k = 256) := Lib.hid (by omega)
      have hln := rowsN_len k
      obtain ⟨Ls, hLs⟩ : ∃ Ls, rowsN k = Ls := ⟨_, rfl⟩
      rw [hLs] at ho hln
      have HLS : Hid (rowsN 256 = Ls) := Lib.hid (by rw [← hLs, HK.out])
      have HLN : Hid (Ls.length = 256) := Lib.hid (by rw [hln, HK.out])
      have HO := Lib.hid ho
      have HB := Lib.hid hb
      clear hLs hln ho hb
      go_wp2_with (fail)
      go_loopw [6, 27] (fun v i wr => ∃ k : Nat, k ≤ mn ∧ i = .int .i64 k ∧ OwnF Rw.enc 2 104 wr wa.heap.size v (Ls ++ moreN M k) ∧ Below wa.heap.size wa wr) (fun _ i _ => mn - (intOf i).toNat)
      case atStart => exact ⟨0, Nat.zero_le _, rfl, by simpa [moreN] using HO.out, HB.out⟩
      case round =>
        obtain ⟨k', hk, rfl, ho, hb⟩ := hrel
        obtain ⟨X, hX⟩ : ∃ X, Ls ++ moreN M k' = X := ⟨_, rfl⟩
        have hxl : X.length = 256 + k' := by rw [← hX, List.length_append, HLN.out, moreN_len]
        rw [hX] at ho
        have HX := Lib.hid hX
        have HXL := Lib.hid hxl
        have HO := Lib.hid ho
        have HB := Lib.hid hb
        clear hX hxl ho hb
        by_cases hlt : k' < mn
        · have hkM : k' < M.length := by have := HML.out; omega
          obtain ⟨b, of, hao, hce⟩ := (HMR.out.below HB.out).at_ k' _ (by rw [List.getElem?_map, tk_eq hkM]; rfl)
          subst hao
          obtain ⟨s, hs⟩ : ∃ s, tk M k' = s := ⟨_, rfl⟩
          rw [hs] at hce
          have HN : Hid (X ++ [⟨s, 256 + (k' : Int)⟩] = Ls ++ moreN M (k' + 1)) := Lib.hid (by rw [moreN_succ, ← List.append_assoc, HX.out, hs])
          have hwr : IntKind.i64.wrap (256 + (k' : Int)) = 256 + (k' : Int) := by rw [IntKind.wrap_i64]; omega
          have HBS := Lib.hid HB.out.size
          have HO3 : Hid (OwnF Rw.enc 2 104 (wr.alloc (.cells #[.string s, .int .i64 (256 + (k' : Int))] 104)) wa.heap.size u6 X) := Lib.hid (HO.out.alloc _)
          have HS3 : Hid (SlF 2 (wr.alloc (.cells #[.string s, .int .i64 (256 + (k' : Int))] 104)) (some ⟨wr.heap.size, 0, none⟩) 1 1 (flat Rw.enc [⟨s, 256 + (k' : Int)⟩])) := Lib.hid (SlF.one Rw.enc_len wr ⟨s, 256 + (k' : Int)⟩ 104 (cs := #[.string s, .int .i64 (256 + (k' : Int))]) rfl)
          clear hs hkM
          go_wp2_with (at_builtin; go_loud (refine wpList_flat_app rfl _ _ 101 rfl i0 z0 24 Tryz.underlying101 hi hz0 hz1 hz2 hz3 Rw.enc_len (by omega) Rw.enc_oneL rfl HO3.out rfl HS3.out (by have := HXL.out; unfold maxLen; omega) (by have := HXL.out; omega) (by have := HBS.out; simp; omega) ?_))
          intro v' w' ho' hg' hb'
          rw [HN.out] at ho'
          have HO' := Lib.hid ho'
          have HB' := Lib.hid ((HB.out.alloc HB.out.size _).trans hb')
          clear ho' hg' hb'
          go_wp2_with (fail)
          go_roundw
          case rel => exact ⟨k' + 1, by omega, by go_num, HO'.out, HB'.out⟩
          case measure => simp [intOf]; omega
        · obtain rfl : k' = mn := by omega
          have HRF : Hid (X = lettersR M) := Lib.hid (by rw [← HX.out, ← HLS.out, ← HML.out]; rfl)
          rw [HRF.out] at HO
          obtain ⟨ro, rc, rfl, hrs⟩ := HO.out.sl
          obtain ⟨rn, hrn⟩ : ∃ rn, (lettersR M).length = rn := ⟨_, rfl⟩
          rw [hrn] at hrs ⊢
          obtain ⟨ws, hws⟩ : ∃ ws, wr = ws := ⟨_, rfl⟩
          rw [hws] at HO HB hrs ⊢
          have HRS := Lib.hid hrs
          clear hws
          obtain ⟨wb, hwb⟩ : ∃ wb, ws.alloc (.cells #[] 82) = wb := ⟨_, rfl⟩
          have HWB := Lib.hid hwb
          have HBR : Hid (Below ws.heap.size ws wb) := Lib.hid (by rw [← hwb]; exact below_alloc ws _)
          have HOS : Hid (OwnF Sp.enc 2 82 wb ws.heap.size (.slice (some ⟨ws.heap.size, 0, none⟩) 0 0) []) := Lib.hid (by rw [← hwb]; exact OwnF.made0 ws)
          clear hrn hwb hrs
          go_wp2_with (fail)
          rw [HWB.out]
          go_loopw [9, 44] (fun v i wr2 => ∃ k2 : Nat, k2 ≤ nn ∧ i = .int .i64 k2 ∧ OwnF Sp.enc 2 82 wr2 ws.heap.size v (namesN M N k2) ∧ Below ws.heap.size ws wr2) (fun _ i _ => nn - (intOf i).toNat)
          case atStart => exact ⟨0, Nat.zero_le _, rfl, HOS.out, HBR.out⟩
          case round =>
            obtain ⟨q, hq, rfl, ho, hb⟩ := hrel
            obtain ⟨Y, hY⟩ : ∃ Y, namesN M N q = Y := ⟨_, rfl⟩
            have hyl : Y.length = q := by rw [← hY, namesN_len]
            rw [hY] at ho
            have HY := Lib.hid hY
            have HYL := Lib.hid hyl
            have HO2 := Lib.hid ho
            have HB2 := Lib.hid hb
            have HBW : Hid (Below wa.heap.size wa wr) := Lib.hid (HB.out.trans (hb.mono HB.out.size))
            clear hY hyl ho hb
            by_cases hlt : q < nn
            · have hqN : q < N.length := by have := HNL.out; omega
              obtain ⟨b, of, hao, hce⟩ := (HNR.out.below HBW.out).at_ q _ (by rw [List.getElem?_map, tk_eq hqN]; rfl)
              subst hao
              obtain ⟨s, hs⟩ : ∃ s, tk N q = s := ⟨_, rfl⟩
              rw [hs] at hce
              obtain ⟨r, hr⟩ : ∃ r : Nat, 256 + k' + q = r := ⟨_, rfl⟩
              have HN : Hid (Y ++ [⟨s, (r : Int)⟩] = namesN M N (q + 1)) := Lib.hid (by rw [namesN_succ, HY.out, hs, HML.out, ← hr]; simp)
              have hwr : IntKind.i64.wrap (256 + (k' : Int)) = 256 + (k' : Int) := by rw [IntKind.wrap_i64]; omega
              have hwr2 : IntKind.i64.wrap (256 + (k' : Int) + (q : Int)) = (r : Int) := by rw [IntKind.wrap_i64]; omega
              have HBS := Lib.hid HB2.out.size
              have HO3 : Hid (OwnF Sp.enc 2 82 (wr.alloc (.cells #[.string s, .int .i64 (r : Int)] 82)) ws.heap.size u9 Y) := Lib.hid (HO2.out.alloc _)
              have HS3 : Hid (SlF 2 (wr.alloc (.cells #[.string s, .int .i64 (r : Int)] 82)) (some ⟨wr.heap.size, 0, none⟩) 1 1 (flat Sp.enc [⟨s, (r : Int)⟩])) := Lib.hid (SlF.one Sp.enc_len wr ⟨s, (r : Int)⟩ 82 (cs := #[.string s, .int .i64 (r : Int)]) rfl)
              clear hs hqN hr
              go_wp2_with (at_builtin; go_loud (refine wpList_flat_app rfl _ _ 24 rfl j0 y0 24 Tryz.underlying24 hj hy0 hy1 hy2 hy3 Sp.enc_len (by omega) Sp.enc_oneL rfl HO3.out rfl HS3.out (by have := HYL.out; unfold maxLen; omega) (by have := HYL.out; omega) (by have := HBS.out; simp; omega) ?_))
              intro v' w' ho' hg' hb'
              rw [HN.out] at ho'
              have HO' := Lib.hid ho'
              have HB' := Lib.hid ((HB2.out.alloc HB2.out.size _).trans hb')
              clear ho' hg' hb'
              go_wp2_with (fail)
              go_roundw
              case rel => exact ⟨q + 1, by omega, by go_num, HO'.out, HB'.out⟩
              case measure => simp [intOf]; omega
            · obtain rfl : q = nn := by omega
              have HSF : Hid (Y = lettersS M N) := Lib.hid (by rw [← HY.out, ← HNL.out]; rfl)
              rw [HSF.out] at HO2
              have HSL : Hid ((lettersS M N).length = q) := Lib.hid (by rw [← HSF.out]; exact HYL.out)
              obtain ⟨so, sc, rfl, hss⟩ := HO2.out.sl
              rw [HSL.out] at hss ⊢
              have hfr := rfromRows_calls wr (HRS.out.below HB2.out) hss (fun r hr => by
                rcases List.mem_append.1 hr with h | h
                · obtain ⟨b, _, rfl⟩ := rowsN_mem h
                  show 1 ≤ maxLen
                  unfold maxLen; omega
                · unfold moreN at h
                  obtain ⟨i, hi, rfl⟩ := List.mem_map.1 h
                  exact HMS.out _ (tk_mem (List.mem_range.1 hi))) (fun s hs => by
                unfold lettersS namesN at hs
                obtain ⟨i, hi, rfl⟩ := List.mem_map.1 hs
                exact HNS.out _ (tk_mem (List.mem_range.1 hi))) hnn
              have HX4 := Lib.hid ((HBW.out.block w.heap.size HSZ1.out).trans HXA.out)
              clear hss
              go_wp2_with (fail)
              refine hfr.mono ?_
              rintro e w9 ⟨hpost, hb9⟩
              have hx9 := (hb9.block w.heap.size (Array.getElem?_eq_some_iff.1 HX4.out).1).trans HX4.out
              have HB9 : Hid (Below w.heap.size w w9) := Lib.hid (HBA.out.trans ((HBW.out.trans (hb9.mono HBW.out.size)).mono HBA.out.size))
              obtain ⟨c0, c1, c2⟩ := box3v hx9
              have cf : ∀ o, w9.frozen? ⟨w.heap.size, o, none⟩ = false := by intro o; simp [World.frozen?, hx9]
              have HX9 := Lib.hid hx9
              clear hb9 hx9 hfr
              rcases hpost with ⟨hg, ⟨ta, tn, tc, ma, mn2, mc2, sa, sn, sc2⟩, rfl, hv⟩ | ⟨hg, rfl⟩
              · have HV := Lib.hid hv
                have HG := Lib.hid hg
                clear hv hg
                go_wp2_with (fail)
                refine bodyPost_ret (v := .tuple #[Vd.val ⟨ta, tn, tc, ma, mn2, mc2, sa, sn, sc2⟩, .bool true]) ?_ rfl ⟨.inl ⟨HG.out, ⟨ta, tn, tc, ma, mn2, mc2, sa, sn, sc2⟩, rfl, ?_⟩, ?_⟩
                · simp [results, Tryz.results28, go_sem, Vd.val, c0, c1, c2]
                · exact HV.out.notSl HX9.out (fun q hq => (Below.heap_setCell _ _ _ _ hq).trans ((Below.heap_setCell _ _ _ _ hq).trans (Below.heap_setCell _ _ _ _ hq)))
                · exact ((HB9.out.setCell (p := ⟨w.heap.size, 0, none⟩) (Nat.le_refl _) _).setCell (p := ⟨w.heap.size, 1, none⟩) (Nat.le_refl _) _).setCell (p := ⟨w.heap.size, 2, none⟩) (Nat.le_refl _) _
              · have HG := Lib.hid hg
                clear hg
                unfold noVd Vd.val
                go_wp2_with (fail)
                refine bodyPost_ret (v := .tuple #[noVd.val, .bool false]) ?_ rfl ⟨.inr ⟨HG.out, rfl⟩, ?_⟩
                · simp [results, Tryz.results28, go_sem, noVd, Vd.val, c0, c1, c2]
                · exact ((HB9.out.setCell (p := ⟨w.heap.size, 0, none⟩) (Nat.le_refl _) _).setCell (p := ⟨w.heap.size, 1, none⟩) (Nat.le_refl _) _).setCell (p := ⟨w.heap.size, 2, none⟩) (Nat.le_refl _) _

end Go.Proofs.YtnadelmbkaoeeaaGreatDoor

/- Plain laws: the vocabulary of the chapter's example of the index. -/
namespace Go.Proofs.YtnadelmbkaoeeaaGreatDoor
open Go
set_option linter.unusedVariables false

def abcS : ByteArray := ⟨#[97, 98, 99]⟩
def R1 : List Rw := R0 ++ [⟨abcS, 257⟩]
theorem R1_eq : lettersR [abS, abcS] = R1 := by
  unfold lettersR R1 R0
  rw [List.append_assoc]
  rfl
def T1 : List ByteArray := T0 ++ [abcS]
theorem T1_len : T1.length = 258 := by simp [T1, T0_len]
theorem T1_low {i : Nat} (h : i < 257) : tk T1 i = tk T0 i := by
  unfold tk T1
  rw [List.getD_eq_getElem?_getD, List.getElem?_append_left (by rw [T0_len]; exact h), List.getD_eq_getElem?_getD]
theorem T1_top : tk T1 257 = abcS := by
  unfold tk T1
  rw [List.getD_eq_getElem?_getD, List.getElem?_append_right (by rw [T0_len]; omega)]
  simp [T0_len]
theorem top_R1 : top R1 [] = 258 := by decide +kernel
theorem toks_R1 : toksOf R1 [] = T1 := by
  unfold toksOf
  rw [top_R1]
  refine List.ext_getElem? fun i => ?_
  by_cases h : i < 258
  · rw [tk_eq (T := T1) (by rw [T1_len]; exact h)]
    simp only [List.getElem?_map, List.getElem?_range (show i < (258 : Int).toNat from h), Option.map_some]
    congr 1
    unfold R1
    have h0 : ∀ r ∈ R0, r.rank ≠ (257 : Int) := fun r hr => by
      rcases List.mem_append.1 hr with h | h
      · obtain ⟨b, hb, rfl⟩ := rowsN_mem h; simp only; omega
      · obtain rfl := List.mem_singleton.1 h; simp only; omega
    by_cases e : i = 257
    · subst e
      rw [T1_top, tokAt_snoc h0]
      rfl
    · rw [T1_low (by omega), tokAt_snoc_other (by simp only; omega)]
      have h2 := toks_R0
      unfold toksOf at h2
      rw [top_R0] at h2
      have h3 := congrArg (fun l => l[i]?) h2
      simp only [List.getElem?_map, List.getElem?_range (show i < (257 : Int).toNat by show i < 257; omega), Option.map_some] at h3
      rw [tk_eq (T := T0) (by rw [T0_len]; omega)] at h3
      exact Option.some.inj h3
  · rw [List.getElem?_eq_none (by simp; omega), List.getElem?_eq_none (by rw [T1_len]; omega)]
def m1 : Mg := ⟨256, 99, 257, 257⟩
def Mg.tup (m : Mg) : Int × Int × Int × Int := (m.left, m.right, m.out, m.order)
theorem Mg.tup_inj (a b : Mg) (h : a.tup = b.tup) : a = b := by
  cases a; cases b
  simp only [Mg.tup, Prod.mk.injEq] at h
  obtain ⟨rfl, rfl, rfl, rfl⟩ := h
  rfl
theorem mgs_inj {L M : List Mg} (h : L.map Mg.tup = M.map Mg.tup) : L = M := (List.map_inj_right Mg.tup_inj).1 h
theorem merges_T1 : mergesOf T1 = [m0, m1] := mgs_inj (by decide +kernel)
def V1 : Vc := ⟨T1, [m0, m1], []⟩
theorem rows_V1 : rowsF V1 [] = ((List.range 256).map fun (i : Nat) => ([(i : Int)], (i : Int))) ++ [([97, 98], 256), ([97, 98, 99], 257)] := by decide +kernel
theorem allowed_V1 : allowedF (rowsF V1 []) [97, 98] = [97, 256, 257] := by decide +kernel
theorem rowsLen_V1 : (rowsF V1 []).length = 258 := by rw [rows_V1]; simp
theorem uniq_T1 : Uniq T1 := fun i j h1 h2 e => by
  rw [T1_len] at h2
  by_cases hj : j = 257
  · subst hj
    rw [T1_top, T1_low h1] at e
    exfalso
    by_cases hi : i = 256
    · subst hi
      rw [T0_top] at e
      have := congrArg ByteArray.size e
      simp [abcS, abS, ByteArray.size] at this
    · rw [T0_low (by omega)] at e
      have := congrArg ByteArray.size e
      simp [one, abcS, ByteArray.size] at this
  · rw [T1_low (by omega), T1_low (by omega)] at e
    rw [T1_low (by omega)]
    exact uniq_T0 i j h1 (by rw [T0_len]; omega) e
theorem mayTok_T1 : MayTok T1 := ⟨by rw [T1_len]; omega, fun s hs => by
  unfold T1 at hs
  rcases List.mem_append.1 hs with h | h
  · exact mayTok_T0.2.1 s h
  · obtain rfl := List.mem_singleton.1 h
    exact show 3 ≤ 64 by omega, uniq_T1, fun b hb => List.mem_append.2 (.inl (mayTok_T0.2.2.2 b hb))⟩
theorem okMg_T1 : ∀ m ∈ [m0, m1], OkMg T1 m := by unfold OkMg; decide +kernel
theorem rise_T1 : [m0, m1].Pairwise (fun a b => Rise a b ∧ Parts a b) := by unfold Rise Parts; decide +kernel
theorem may_V1 : May V1 := by
  refine ⟨mayTok_T1, ⟨by simp [V1], okMg_T1, rise_T1⟩, fun i hi h => ?_, ⟨by simp [V1], by simp [V1], by simp [V1]⟩⟩
  simp only [V1] at hi h ⊢
  rw [T1_len] at hi
  by_cases e : i = 257
  · subst e; exact ⟨m1, by simp, rfl⟩
  · rw [T1_low (by omega)] at h
    by_cases e2 : i = 256
    · subst e2; exact ⟨m0, by simp, rfl⟩
    · rw [T0_low (by omega)] at h
      exact absurd h (by show ¬ 1 < 1; omega)
theorem sort_V1 : sortMg [m0, m1] = [m0, m1] := by
  unfold sortMg
  refine List.mergeSort_of_pairwise ?_
  decide +kernel
theorem voc_R1 : vocOf R1 [] = V1 := by
  unfold vocOf
  rw [toks_R1, merges_T1, sort_V1, sort_nil]
  rfl
theorem ok_R1 : OkRows R1 [] := by
  refine ⟨by simp, fun r hr => ?_, ?_⟩
  · rcases List.mem_append.1 hr with h | h
    · exact ok_R0.2.1 r h
    · obtain rfl := List.mem_singleton.1 h
      simp only; omega
  · unfold R1
    rw [List.pairwise_append]
    refine ⟨ok_R0.2.2, by simp, fun a ha b hb => ?_⟩
    obtain rfl := List.mem_singleton.1 hb
    unfold R0 at ha
    rcases List.mem_append.1 ha with h | h
    · obtain ⟨q, hq, rfl⟩ := rowsN_mem h
      simp only; omega
    · obtain rfl := List.mem_singleton.1 h
      simp only; omega
theorem good_R1 : GoodVoc R1 [] := ⟨ok_R1, by rw [voc_R1]; exact may_V1⟩
theorem best_V1 : BestOf (rowsF V1 []) [97, 98] 256 2 := by
  refine .inr ⟨([97, 98], 256), by rw [rows_V1]; simp, rfl, rfl, rfl, ?_⟩
  rw [rows_V1]
  decide +kernel

end Go.Proofs.YtnadelmbkaoeeaaGreatDoor

/- Walk: a token's symbols, by the document. (Printed by gSyms.py.) -/
namespace Go.Proofs.YtnadelmbkaoeeaaGreatDoor
open Go.RowKit
set_option linter.unusedVariables false

theorem spBy_hit {S : List Sp} {t : Int} {k : Nat} (hk : k < S.length) (h : (sp S k).id = t) (hno : ∀ j, j < k → (sp S j).id ≠ t) : spBy S t = some (sp S k) := by
  unfold spBy
  rw [List.find?_eq_some_iff_getElem]
  exact ⟨by simpa using h, k, hk, sp_get hk, fun j hj => by rw [sp_get (by omega)]; simpa using hno j hj⟩
theorem spBy_miss {S : List Sp} {t : Int} (hno : ∀ j, j < S.length → (sp S j).id ≠ t) : spBy S t = none := by
  unfold spBy
  rw [List.find?_eq_none]
  intro x hx
  obtain ⟨j, hj, rfl⟩ := List.getElem_of_mem hx
  rw [sp_get hj]; simpa using hno j hj

set_option maxHeartbeats 2000000 in
set_option maxRecDepth 100000 in
theorem rsymbols_calls {V : Vc} {N : List ByteArray} {dd : Vd} {no to_ : Option Addr} {nn nc tn' tc' : Nat} {kind : Int} (t : Int) (w : World) (hV : VocR w dd V) (hN : SlS w no nn nc N) (hT : ∀ s ∈ V.tokens, s.size ≤ 64) (hnb : nn ≤ 16) (hsb : V.specials.length ≤ 1048576) (htb : V.tokens.length ≤ 1048576) :
    Calls Tryz.prog 16 #[.agg #[.slice dd.ta dd.tn dd.tc, .slice dd.ma dd.mn dd.mc, .slice dd.sa dd.sn dd.sc, .slice no nn nc, .int .i64 kind, .slice to_ tn' tc'], .int .i64 t] w (SymPost V N t w) := by
  obtain ⟨ta, tn, tc, ma, mn, mc, sa, sn, sc⟩ := dd
  obtain ⟨i0, hi, hz0, hz1, hz2⟩ := info_parts infoInt3
  obtain ⟨w0, hw0⟩ : ∃ w0, w.alloc (.cells #[.slice ta tn tc, .slice ma mn mc, .slice sa sn sc, .slice no nn nc, .int .i64 kind, .slice to_ tn' tc'] 37) = w0 := ⟨_, rfl⟩
  have hb0 : Below w.heap.size w w0 := hw0 ▸ below_alloc w _
  have hx0 : w0.heap[w.heap.size]? = some (.cells #[.slice ta tn tc, .slice ma mn mc, .slice sa sn sc, .slice no nn nc, .int .i64 kind, .slice to_ tn' tc'] 37) := by rw [← hw0]; exact heap_alloc_new w _
  have HSZ1 : Hid (w.heap.size < w0.heap.size) := Lib.hid (by rw [← hw0]; simp)
  obtain ⟨b0, b1, b2, b3, b4, b5, bf⟩ := box6 hx0
  have HCT := Lib.hid hV.tok.count
  have HCS := Lib.hid (hV.spc.count Sp.enc_len (by omega))
  have HNL := Lib.hid hN.count
  have HNB := Lib.hid hnb
  have HV := Lib.hid (hV.below hb0)
  have HN := Lib.hid (Sl.below hN hb0)
  have HT := Lib.hid hT
  have HB0 := Lib.hid hb0
  have HX0 := Lib.hid hx0
  have HW0 := Lib.hid hw0
  have hsn : sn ≤ 1048576 := by have := HCS.out; simp only at this; omega
  have htn : tn ≤ 1048576 := by have := HCT.out; simp only at this; omega
  simp only at HCT HCS ⊢
  clear hV hN hb0 hx0 hw0 hsb htb hT
  by_cases h0 : t < 0
  · have HTK : Hid (isTk V.tokens t = false) := Lib.hid (isTk_neg h0)
    go_enter Tryz.func16, Tryz.ntmps16
    go_wp2_with (fail)
    rw [HW0.out]
    go_wp2_with (fail)
    go_loopw [55] (fun i wr => ∃ k : Nat, k ≤ sn ∧ i = .int .i64 k ∧ Hid (∀ j, j < k → (sp V.specials j).id ≠ t) ∧ Below w0.heap.size w0 wr) (fun i _ => sn - (intOf i).toNat)
    case atStart => exact ⟨0, Nat.zero_le _, rfl, Lib.hid (fun j h => by omega), Below.refl _ _⟩
    case round =>
      obtain ⟨k, hk, rfl, HK, hb⟩ := hrel
      have HB := Lib.hid hb
      obtain ⟨b0, b1, b2, b3, b4, b5, bf⟩ := box6 ((hb.block w.heap.size HSZ1.out).trans HX0.out)
      clear hb
      by_cases hlt : k < sn
      · have hkS : k < V.specials.length := by have := HCS.out; omega
        obtain ⟨b, of, hao, hce⟩ := (HV.out.below HB.out).spc.elem Sp.enc_len (by omega) (sp_eq hkS)
        simp only at hao
        subst hao
        obtain ⟨⟨nm, id⟩, hseq⟩ : ∃ m, sp V.specials k = m := ⟨_, rfl⟩
        rw [hseq] at hce
        have d0 := hce 0 _ rfl
        have d1 := hce 1 _ rfl
        rw [Nat.add_zero] at d0
        simp only at d0 d1
        have HSK := Lib.hid hseq
        have gk : (k : Int) < (sn : Int) := by omega
        clear hce hseq
        by_cases hid : id = t
        · have hbid : (id != t) = false := by simpa using hid
          have hbid2 : (id == t) = true := by simpa using hid
          have HSB : Hid (spBy V.specials t = some ⟨nm, id⟩) := Lib.hid (by rw [← HSK.out]; exact spBy_hit hkS (by rw [HSK.out]; exact hid) HK.out)
          clear hid
          obtain ⟨wi, rfl⟩ : ∃ wi : World, wi = wr := ⟨_, rfl⟩
          go_wp2_with (fail)
          go_loopw [70] (fun i wr => ∃ q nq : Nat, q ≤ nn ∧ i = .int .i64 q ∧ Hid (∀ j, j < q → tk N j ≠ nm) ∧ wr = wi.drewN nq) (fun i _ => nn - (intOf i).toNat)
          case atStart => exact ⟨0, 0, Nat.zero_le _, rfl, Lib.hid (fun j h => by omega), rfl⟩
          case round =>
            obtain ⟨q, nq0, hq, rfl, HQ, rfl⟩ := hrel
            have HBQ : Hid (Below w0.heap.size w0 (wi.drewN nq0)) := Lib.hid (below_drewN HB.out _)
            by_cases hltq : q < nn
            · have hqN : q < N.length := by have := HNL.out; omega
              obtain ⟨b', of', hao, hc⟩ := SlS.cell (Sl.below HN.out HB.out) (tk_eq hqN)
              subst hao
              obtain ⟨y, hy⟩ : ∃ y, tk N q = y := ⟨_, rfl⟩
              rw [hy] at hc
              have HY := Lib.hid hy
              have gq : (q : Int) < (nn : Int) := by omega
              have HQN := Lib.hid hqN
              clear hy hqN
              by_cases hyn : y = nm
              · have hb2 := beqS_yes hyn
                have HSY : Hid (symsOf V N t = ([256 + (q : Int)], 0)) := Lib.hid (symsOf_at HTK.out HSB.out (nameAt_some HQN.out (by rw [HY.out]; exact hyn) HQ.out))
                have hq16 : q < 1048576 := by have := HNB.out; omega
                have hwr : IntKind.i64.wrap (256 + (q : Int)) = 256 + (q : Int) := by rw [IntKind.wrap_i64]; omega
                clear hyn
                go_wp2_with (fail)
                go_quiet (fail)
                obtain ⟨wz, hwz⟩ : ∃ wz, (wi.drewN nq0).drewN nq = wz := ⟨_, rfl⟩
                have HBZ : Hid (Below w0.heap.size w0 wz) := Lib.hid (by rw [← hwz]; exact below_drewN HBQ.out _)
                rw [hwz]
                clear hwz
                go_wp2_with (fail)
                refine bodyPost_ret (v := .tuple #[.slice (some ⟨wz.heap.size, 0, none⟩) 1 1, .int .i64 0]) ?_ rfl ⟨⟨_, by rw [HSY.out], by rw [HSY.out]; exact Own.mono (own_one wz _) (Nat.le_trans HB0.out.size HBZ.out.size)⟩, (HB0.out.trans (HBZ.out.mono HB0.out.size)).alloc (Nat.le_trans HB0.out.size HBZ.out.size) _⟩
                simp [results, Tryz.results16, go_sem]
              · have hb2 := beqS_no hyn
                have HQ2 : Hid (∀ j, j < q + 1 → tk N j ≠ nm) := Lib.hid (fun j hj => by
                  by_cases e : j = q
                  · subst e; rw [HY.out]; exact hyn
                  · exact HQ.out j (by omega))
                clear hyn
                go_wp2_with (fail)
                go_quiet (fail)
                go_wp2_with (fail)
                go_roundw
                case rel => exact ⟨q + 1, _, by omega, by go_num, HQ2, rfl⟩
                case measure => simp [intOf]; omega
            · have HSY : Hid (symsOf V N t = ([], 4)) := Lib.hid (symsOf_un HTK.out HSB.out (nameAt_none (fun j hj => HQ.out j (by have := HNL.out; omega))))
              obtain ⟨wz, hwz⟩ : ∃ wz, wi.drewN nq0 = wz := ⟨_, rfl⟩
              rw [hwz] at HBQ ⊢
              clear hwz
              go_wp2_with (fail)
              refine bodyPost_ret (v := .tuple #[.slice (some ⟨wz.heap.size, 0, none⟩) 0 0, .int .i64 4]) ?_ rfl ⟨⟨_, by rw [HSY.out], by rw [HSY.out]; exact Own.mono (own_made0 wz) (Nat.le_trans HB0.out.size HBQ.out.size)⟩, (HB0.out.trans (HBQ.out.mono HB0.out.size)).alloc (Nat.le_trans HB0.out.size HBQ.out.size) _⟩
              simp [results, Tryz.results16, go_sem]
        · have hbid : (id != t) = true := by simpa using hid
          have hbid2 : (id == t) = false := by simpa using hid
          have HK2 : Hid (∀ j, j < k + 1 → (sp V.specials j).id ≠ t) := Lib.hid (fun j hj => by
            by_cases e : j = k
            · subst e; rw [HSK.out]; exact hid
            · exact HK.out j (by omega))
          clear hid
          go_wp2_with (fail)
          go_roundw
          case rel => exact ⟨k + 1, by omega, by go_num, HK2, HB.out⟩
          case measure => simp [intOf]; omega
      · have HSY : Hid (symsOf V N t = ([], 3)) := Lib.hid (symsOf_none HTK.out (spBy_miss (fun j hj => HK.out j (by have := HCS.out; omega))))
        go_wp2_with (fail)
        refine bodyPost_ret (v := .tuple #[.slice (some ⟨wr.heap.size, 0, none⟩) 0 0, .int .i64 3]) ?_ rfl ⟨⟨_, by rw [HSY.out], by rw [HSY.out]; exact Own.mono (own_made0 wr) (Nat.le_trans HB0.out.size HB.out.size)⟩, (HB0.out.trans (HB.out.mono HB0.out.size)).alloc (Nat.le_trans HB0.out.size HB.out.size) _⟩
        simp [results, Tryz.results16, go_sem]
  · obtain ⟨q0, rfl⟩ := Int.eq_ofNat_of_zero_le (Int.not_lt.1 h0)
    by_cases hq0 : q0 < tn
    · obtain ⟨b, o, hao, hc⟩ := HV.out.tok.cell (tk_eq (T := V.tokens) (i := q0) (by have := HCT.out; omega))
      simp only at hao
      subst hao
      have HF := Lib.hid (isTk_at (T := V.tokens) (k := q0) (by have := HCT.out; omega))
      have hq0i : (q0 : Int) < (tn : Int) := by omega
      by_cases hz : (tk V.tokens q0).size = 0
      · obtain ⟨e1, e2, e3⟩ := strE_yes hz
        have HTK : Hid (isTk V.tokens (q0 : Int) = false) := Lib.hid (by rw [HF.out]; simp [hz])
        clear hz
        rw [← HW0.out] at hc
        go_enter Tryz.func16, Tryz.ntmps16
        go_wp2_with (fail)
        rw [HW0.out]
        clear e1 e2 e3 hc
        go_wp2_with (fail)
        go_loopw [55] (fun i wr => ∃ k : Nat, k ≤ sn ∧ i = .int .i64 k ∧ Hid (∀ j, j < k → (sp V.specials j).id ≠ (q0 : Int)) ∧ Below w0.heap.size w0 wr) (fun i _ => sn - (intOf i).toNat)
        case atStart => exact ⟨0, Nat.zero_le _, rfl, Lib.hid (fun j h => by omega), Below.refl _ _⟩
        case round =>
          obtain ⟨k, hk, rfl, HK, hb⟩ := hrel
          have HB := Lib.hid hb
          obtain ⟨b0, b1, b2, b3, b4, b5, bf⟩ := box6 ((hb.block w.heap.size HSZ1.out).trans HX0.out)
          clear hb
          by_cases hlt : k < sn
          · have hkS : k < V.specials.length := by have := HCS.out; omega
            obtain ⟨b, of, hao, hce⟩ := (HV.out.below HB.out).spc.elem Sp.enc_len (by omega) (sp_eq hkS)
            simp only at hao
            subst hao
            obtain ⟨⟨nm, id⟩, hseq⟩ : ∃ m, sp V.specials k = m := ⟨_, rfl⟩
            rw [hseq] at hce
            have d0 := hce 0 _ rfl
            have d1 := hce 1 _ rfl
            rw [Nat.add_zero] at d0
            simp only at d0 d1
            have HSK := Lib.hid hseq
            have gk : (k : Int) < (sn : Int) := by omega
            clear hce hseq
            by_cases hid : id = (q0 : Int)
            · have hbid : (id != (q0 : Int)) = false := by simpa using hid
              have hbid2 : (id == (q0 : Int)) = true := by simpa using hid
              have HSB : Hid (spBy V.specials (q0 : Int) = some ⟨nm, id⟩) := Lib.hid (by rw [← HSK.out]; exact spBy_hit hkS (by rw [HSK.out]; exact hid) HK.out)
              clear hid
              obtain ⟨wi, rfl⟩ : ∃ wi : World, wi = wr := ⟨_, rfl⟩
              go_wp2_with (fail)
              go_loopw [70] (fun i wr => ∃ q nq : Nat, q ≤ nn ∧ i = .int .i64 q ∧ Hid (∀ j, j < q → tk N j ≠ nm) ∧ wr = wi.drewN nq) (fun i _ => nn - (intOf i).toNat)
              case atStart => exact ⟨0, 0, Nat.zero_le _, rfl, Lib.hid (fun j h => by omega), rfl⟩
              case round =>
                obtain ⟨q, nq0, hq, rfl, HQ, rfl⟩ := hrel
                have HBQ : Hid (Below w0.heap.size w0 (wi.drewN nq0)) := Lib.hid (below_drewN HB.out _)
                by_cases hltq : q < nn
                · have hqN : q < N.length := by have := HNL.out; omega
                  obtain ⟨b', of', hao, hc⟩ := SlS.cell (Sl.below HN.out HB.out) (tk_eq hqN)
                  subst hao
                  obtain ⟨y, hy⟩ : ∃ y, tk N q = y := ⟨_, rfl⟩
                  rw [hy] at hc
                  have HY := Lib.hid hy
                  have gq : (q : Int) < (nn : Int) := by omega
                  have HQN := Lib.hid hqN
                  clear hy hqN
                  by_cases hyn : y = nm
                  · have hb2 := beqS_yes hyn
                    have HSY : Hid (symsOf V N (q0 : Int) = ([256 + (q : Int)], 0)) := Lib.hid (symsOf_at HTK.out HSB.out (nameAt_some HQN.out (by rw [HY.out]; exact hyn) HQ.out))
                    have hq16 : q < 1048576 := by have := HNB.out; omega
                    have hwr : IntKind.i64.wrap (256 + (q : Int)) = 256 + (q : Int) := by rw [IntKind.wrap_i64]; omega
                    clear hyn
                    go_wp2_with (fail)
                    go_quiet (fail)
                    obtain ⟨wz, hwz⟩ : ∃ wz, (wi.drewN nq0).drewN nq = wz := ⟨_, rfl⟩
                    have HBZ : Hid (Below w0.heap.size w0 wz) := Lib.hid (by rw [← hwz]; exact below_drewN HBQ.out _)
                    rw [hwz]
                    clear hwz
                    go_wp2_with (fail)
                    refine bodyPost_ret (v := .tuple #[.slice (some ⟨wz.heap.size, 0, none⟩) 1 1, .int .i64 0]) ?_ rfl ⟨⟨_, by rw [HSY.out], by rw [HSY.out]; exact Own.mono (own_one wz _) (Nat.le_trans HB0.out.size HBZ.out.size)⟩, (HB0.out.trans (HBZ.out.mono HB0.out.size)).alloc (Nat.le_trans HB0.out.size HBZ.out.size) _⟩
                    simp [results, Tryz.results16, go_sem]
                  · have hb2 := beqS_no hyn
                    have HQ2 : Hid (∀ j, j < q + 1 → tk N j ≠ nm) := Lib.hid (fun j hj => by
                      by_cases e : j = q
                      · subst e; rw [HY.out]; exact hyn
                      · exact HQ.out j (by omega))
                    clear hyn
                    go_wp2_with (fail)
                    go_quiet (fail)
                    go_wp2_with (fail)
                    go_roundw
                    case rel => exact ⟨q + 1, _, by omega, by go_num, HQ2, rfl⟩
                    case measure => simp [intOf]; omega
                · have HSY : Hid (symsOf V N (q0 : Int) = ([], 4)) := Lib.hid (symsOf_un HTK.out HSB.out (nameAt_none (fun j hj => HQ.out j (by have := HNL.out; omega))))
                  obtain ⟨wz, hwz⟩ : ∃ wz, wi.drewN nq0 = wz := ⟨_, rfl⟩
                  rw [hwz] at HBQ ⊢
                  clear hwz
                  go_wp2_with (fail)
                  refine bodyPost_ret (v := .tuple #[.slice (some ⟨wz.heap.size, 0, none⟩) 0 0, .int .i64 4]) ?_ rfl ⟨⟨_, by rw [HSY.out], by rw [HSY.out]; exact Own.mono (own_made0 wz) (Nat.le_trans HB0.out.size HBQ.out.size)⟩, (HB0.out.trans (HBQ.out.mono HB0.out.size)).alloc (Nat.le_trans HB0.out.size HBQ.out.size) _⟩
                  simp [results, Tryz.results16, go_sem]
            · have hbid : (id != (q0 : Int)) = true := by simpa using hid
              have hbid2 : (id == (q0 : Int)) = false := by simpa using hid
              have HK2 : Hid (∀ j, j < k + 1 → (sp V.specials j).id ≠ (q0 : Int)) := Lib.hid (fun j hj => by
                by_cases e : j = k
                · subst e; rw [HSK.out]; exact hid
                · exact HK.out j (by omega))
              clear hid
              go_wp2_with (fail)
              go_roundw
              case rel => exact ⟨k + 1, by omega, by go_num, HK2, HB.out⟩
              case measure => simp [intOf]; omega
          · have HSY : Hid (symsOf V N (q0 : Int) = ([], 3)) := Lib.hid (symsOf_none HTK.out (spBy_miss (fun j hj => HK.out j (by have := HCS.out; omega))))
            go_wp2_with (fail)
            refine bodyPost_ret (v := .tuple #[.slice (some ⟨wr.heap.size, 0, none⟩) 0 0, .int .i64 3]) ?_ rfl ⟨⟨_, by rw [HSY.out], by rw [HSY.out]; exact Own.mono (own_made0 wr) (Nat.le_trans HB0.out.size HB.out.size)⟩, (HB0.out.trans (HB.out.mono HB0.out.size)).alloc (Nat.le_trans HB0.out.size HB.out.size) _⟩
            simp [results, Tryz.results16, go_sem]
      · obtain ⟨e1, e2, e3⟩ := strE_no hz
        obtain ⟨s, hs⟩ : ∃ s, tk V.tokens q0 = s := ⟨_, rfl⟩
        have HSY : Hid (symsOf V N (q0 : Int) = (bytesI s, 0)) := Lib.hid (by rw [← hs]; exact symsOf_yes (by rw [HF.out]; simp [hz]))
        have hs64 : s.size ≤ 64 := by rw [← hs]; exact HT.out _ (tk_mem (by have := HCT.out; omega))
        rw [hs] at hc e1 e2 e3
        clear hz hs
        go_enter Tryz.func16, Tryz.ntmps16
        obtain ⟨wm, hwm⟩ : ∃ wm, w0.alloc (.cells #[] 3) = wm := ⟨_, rfl⟩
        have HWM := Lib.hid hwm
        have HBM : Hid (Below w.heap.size w wm) := Lib.hid (by rw [← hwm]; exact HB0.out.alloc HB0.out.size _)
        have HOM : Hid (Own wm w.heap.size (.slice (some ⟨w.heap.size + 1, 0, none⟩) 0 0) []) := Lib.hid (by
          have e : w.heap.size + 1 = w0.heap.size := by rw [← HW0.out]; simp
          rw [e, ← hwm]; exact Own.mono (own_made0 w0) HB0.out.size)
        have hc' := cell_below (below_alloc w0 (.cells #[] 3)) _ _ hc
        have b0' := cell_below (below_alloc w0 (.cells #[] 3)) _ _ b0
        rw [← HW0.out] at hc hc' b0'
        clear hwm
        go_wp2_with (fail)
        rw [HW0.out, HWM.out]
        clear e1 e2 e3 hc hc' b0' b0 b1 b2 b3 b4 b5 bf
        go_loopw [6, 8] (fun v i wr => ∃ k : Nat, k ≤ s.size ∧ i = .int .i64 k ∧ Own wr w.heap.size v ((bytesI s).take k) ∧ Below w.heap.size w wr) (fun _ i _ => s.size - (intOf i).toNat)
        case atStart => exact ⟨0, Nat.zero_le _, rfl, by simpa using HOM.out, HBM.out⟩
        case round =>
          obtain ⟨k, hk, rfl, ho, hb⟩ := hrel
          have HO := Lib.hid ho
          have HB := Lib.hid hb
          clear ho hb
          by_cases hlt : k < s.size
          · have HK := Lib.hid (bytesI_succ hlt)
            have HL : Hid (((bytesI s).take k).length = k) := Lib.hid (by rw [List.length_take, bytesI_len]; omega)
            obtain ⟨x, hxx⟩ : ∃ x : Int, (s[k].toNat : Int) = x := ⟨_, rfl⟩
            have HS1 : Hid (SlI (wr.alloc (.cells #[.int .i64 x] 3)) (some ⟨wr.heap.size, 0, none⟩) 1 1 [x]) := Lib.hid (SlI.one wr x _)
            have HO1 : Hid (Own (wr.alloc (.cells #[.int .i64 x] 3)) w.heap.size u6 ((bytesI s).take k)) := Lib.hid (HO.out.alloc _)
            have HSZ : Hid (w.heap.size ≤ wr.heap.size) := Lib.hid HB.out.size
            rw [hxx] at HK
            have hx8 := s[k].toNat_lt
            have hwx : wrap64 x = x := by rw [← hxx]; unfold wrap64; omega
            go_wp2_with (at_builtin; go_loud (refine wpList_int_app rfl _ _ 41 rfl i0 Tryz.underlying41 hi hz0 hz1 hz2 rfl HO1.out rfl HS1.out (by have := HL.out; omega) (by have := HSZ.out; simp; omega) ?_))
            intro v1 w2 ho2 hg2 hb2
            rw [← HK.out] at ho2
            have HO2 := Lib.hid ho2
            have HB2 := Lib.hid ((HB.out.alloc HB.out.size _).trans hb2)
            clear ho2 hg2 hb2
            go_wp2_with (fail)
            go_roundw
            case rel => exact ⟨k + 1, by omega, by go_num, HO2.out, HB2.out⟩
            case measure => simp [intOf]; omega
          · obtain rfl : k = s.size := by omega
            have HO2 := HO.out
            rw [List.take_of_length_le (by rw [bytesI_len]; exact Nat.le_refl _)] at HO2
            have HO3 := Lib.hid HO2
            clear HO2
            go_wp2_with (fail)
            refine bodyPost_ret (v := .tuple #[u6, .int .i64 0]) ?_ rfl ⟨⟨u6, by rw [HSY.out], by rw [HSY.out]; exact HO3.out⟩, HB.out⟩
            simp [results, Tryz.results16, go_sem]
    · have HTK : Hid (isTk V.tokens (q0 : Int) = false) := Lib.hid (isTk_out (by have := HCT.out; omega))
      go_enter Tryz.func16, Tryz.ntmps16
      go_wp2_with (fail)
      rw [HW0.out]
      go_wp2_with (fail)
      go_loopw [55] (fun i wr => ∃ k : Nat, k ≤ sn ∧ i = .int .i64 k ∧ Hid (∀ j, j < k → (sp V.specials j).id ≠ (q0 : Int)) ∧ Below w0.heap.size w0 wr) (fun i _ => sn - (intOf i).toNat)
      case atStart => exact ⟨0, Nat.zero_le _, rfl, Lib.hid (fun j h => by omega), Below.refl _ _⟩
      case round =>
        obtain ⟨k, hk, rfl, HK, hb⟩ := hrel
        have HB := Lib.hid hb
        obtain ⟨b0, b1, b2, b3, b4, b5, bf⟩ := box6 ((hb.block w.heap.size HSZ1.out).trans HX0.out)
        clear hb
        by_cases hlt : k < sn
        · have hkS : k < V.specials.length := by have := HCS.out; omega
          obtain ⟨b, of, hao, hce⟩ := (HV.out.below HB.out).spc.elem Sp.enc_len (by omega) (sp_eq hkS)
          simp only at hao
          subst hao
          obtain ⟨⟨nm, id⟩, hseq⟩ : ∃ m, sp V.specials k = m := ⟨_, rfl⟩
          rw [hseq] at hce
          have d0 := hce 0 _ rfl
          have d1 := hce 1 _ rfl
          rw [Nat.add_zero] at d0
          simp only at d0 d1
          have HSK := Lib.hid hseq
          have gk : (k : Int) < (sn : Int) := by omega
          clear hce hseq
          by_cases hid : id = (q0 : Int)
          · have hbid : (id != (q0 : Int)) = false := by simpa using hid
            have hbid2 : (id == (q0 : Int)) = true := by simpa using hid
            have HSB : Hid (spBy V.specials (q0 : Int) = some ⟨nm, id⟩) := Lib.hid (by rw [← HSK.out]; exact spBy_hit hkS (by rw [HSK.out]; exact hid) HK.out)
            clear hid
            obtain ⟨wi, rfl⟩ : ∃ wi : World, wi = wr := ⟨_, rfl⟩
            go_wp2_with (fail)
            go_loopw [70] (fun i wr => ∃ q nq : Nat, q ≤ nn ∧ i = .int .i64 q ∧ Hid (∀ j, j < q → tk N j ≠ nm) ∧ wr = wi.drewN nq) (fun i _ => nn - (intOf i).toNat)
            case atStart => exact ⟨0, 0, Nat.zero_le _, rfl, Lib.hid (fun j h => by omega), rfl⟩
            case round =>
              obtain ⟨q, nq0, hq, rfl, HQ, rfl⟩ := hrel
              have HBQ : Hid (Below w0.heap.size w0 (wi.drewN nq0)) := Lib.hid (below_drewN HB.out _)
              by_cases hltq : q < nn
              · have hqN : q < N.length := by have := HNL.out; omega
                obtain ⟨b', of', hao, hc⟩ := SlS.cell (Sl.below HN.out HB.out) (tk_eq hqN)
                subst hao
                obtain ⟨y, hy⟩ : ∃ y, tk N q = y := ⟨_, rfl⟩
                rw [hy] at hc
                have HY := Lib.hid hy
                have gq : (q : Int) < (nn : Int) := by omega
                have HQN := Lib.hid hqN
                clear hy hqN
                by_cases hyn : y = nm
                · have hb2 := beqS_yes hyn
                  have HSY : Hid (symsOf V N (q0 : Int) = ([256 + (q : Int)], 0)) := Lib.hid (symsOf_at HTK.out HSB.out (nameAt_some HQN.out (by rw [HY.out]; exact hyn) HQ.out))
                  have hq16 : q < 1048576 := by have := HNB.out; omega
                  have hwr : IntKind.i64.wrap (256 + (q : Int)) = 256 + (q : Int) := by rw [IntKind.wrap_i64]; omega
                  clear hyn
                  go_wp2_with (fail)
                  go_quiet (fail)
                  obtain ⟨wz, hwz⟩ : ∃ wz, (wi.drewN nq0).drewN nq = wz := ⟨_, rfl⟩
                  have HBZ : Hid (Below w0.heap.size w0 wz) := Lib.hid (by rw [← hwz]; exact below_drewN HBQ.out _)
                  rw [hwz]
                  clear hwz
                  go_wp2_with (fail)
                  refine bodyPost_ret (v := .tuple #[.slice (some ⟨wz.heap.size, 0, none⟩) 1 1, .int .i64 0]) ?_ rfl ⟨⟨_, by rw [HSY.out], by rw [HSY.out]; exact Own.mono (own_one wz _) (Nat.le_trans HB0.out.size HBZ.out.size)⟩, (HB0.out.trans (HBZ.out.mono HB0.out.size)).alloc (Nat.le_trans HB0.out.size HBZ.out.size) _⟩
                  simp [results, Tryz.results16, go_sem]
                · have hb2 := beqS_no hyn
                  have HQ2 : Hid (∀ j, j < q + 1 → tk N j ≠ nm) := Lib.hid (fun j hj => by
                    by_cases e : j = q
                    · subst e; rw [HY.out]; exact hyn
                    · exact HQ.out j (by omega))
                  clear hyn
                  go_wp2_with (fail)
                  go_quiet (fail)
                  go_wp2_with (fail)
                  go_roundw
                  case rel => exact ⟨q + 1, _, by omega, by go_num, HQ2, rfl⟩
                  case measure => simp [intOf]; omega
              · have HSY : Hid (symsOf V N (q0 : Int) = ([], 4)) := Lib.hid (symsOf_un HTK.out HSB.out (nameAt_none (fun j hj => HQ.out j (by have := HNL.out; omega))))
                obtain ⟨wz, hwz⟩ : ∃ wz, wi.drewN nq0 = wz := ⟨_, rfl⟩
                rw [hwz] at HBQ ⊢
                clear hwz
                go_wp2_with (fail)
                refine bodyPost_ret (v := .tuple #[.slice (some ⟨wz.heap.size, 0, none⟩) 0 0, .int .i64 4]) ?_ rfl ⟨⟨_, by rw [HSY.out], by rw [HSY.out]; exact Own.mono (own_made0 wz) (Nat.le_trans HB0.out.size HBQ.out.size)⟩, (HB0.out.trans (HBQ.out.mono HB0.out.size)).alloc (Nat.le_trans HB0.out.size HBQ.out.size) _⟩
                simp [results, Tryz.results16, go_sem]
          · have hbid : (id != (q0 : Int)) = true := by simpa using hid
            have hbid2 : (id == (q0 : Int)) = false := by simpa using hid
            have HK2 : Hid (∀ j, j < k + 1 → (sp V.specials j).id ≠ (q0 : Int)) := Lib.hid (fun j hj => by
              by_cases e : j = k
              · subst e; rw [HSK.out]; exact hid
              · exact HK.out j (by omega))
            clear hid
            go_wp2_with (fail)
            go_roundw
            case rel => exact ⟨k + 1, by omega, by go_num, HK2, HB.out⟩
            case measure => simp [intOf]; omega
        · have HSY : Hid (symsOf V N (q0 : Int) = ([], 3)) := Lib.hid (symsOf_none HTK.out (spBy_miss (fun j hj => HK.out j (by have := HCS.out; omega))))
          go_wp2_with (fail)
          refine bodyPost_ret (v := .tuple #[.slice (some ⟨wr.heap.size, 0, none⟩) 0 0, .int .i64 3]) ?_ rfl ⟨⟨_, by rw [HSY.out], by rw [HSY.out]; exact Own.mono (own_made0 wr) (Nat.le_trans HB0.out.size HB.out.size)⟩, (HB0.out.trans (HB.out.mono HB0.out.size)).alloc (Nat.le_trans HB0.out.size HB.out.size) _⟩
          simp [results, Tryz.results16, go_sem]

end Go.Proofs.YtnadelmbkaoeeaaGreatDoor

/- Walks: the document's begins, Len, Allowed, Longest; the law's has. -/
namespace Go.Proofs.YtnadelmbkaoeeaaGreatDoor
open Go.RowKit
set_option linter.unusedVariables false

set_option maxHeartbeats 1000000 in
set_option maxRecDepth 100000 in
theorem rbegins_calls {A B : List Int} {ao bo : Option Addr} {n c m d : Nat} (w : World) (hA : SlI w ao n c A) (hB : SlI w bo m d B) {bb : Bool} (hbb : bb = begins A B) :
    Calls Tryz.prog 53 #[.slice ao n c, .slice bo m d] w fun e w' => e = .returned (.bool bb) ∧ ∃ q, w' = w.drewN q := by
  have hm1 := Nat.le_trans (Sl.le hA) (Sl.max hA)
  have hm2 := Nat.le_trans (Sl.le hB) (Sl.max hB)
  unfold maxLen at hm1 hm2
  have HA := Lib.hid hA
  have HB := Lib.hid hB
  have HLA := Lib.hid hA.len
  have HLB := Lib.hid hB.len
  have HBB := Lib.hid hbb
  clear hA hB hbb
  by_cases hmn : m ≤ n
  · have g1 : ¬ (n : Int) < (m : Int) := by omega
    go_enter Tryz.func53, Tryz.ntmps53
    go_wp2_with (fail)
    go_loopw [13] (fun i wr => ∃ k q : Nat, k ≤ m ∧ i = .int .i64 k ∧ Hid (A.take k = B.take k) ∧ wr = w.drewN q) (fun i _ => m - (intOf i).toNat)
    case atStart => exact ⟨0, 0, Nat.zero_le _, rfl, Lib.hid (by simp), rfl⟩
    case round =>
      obtain ⟨k, q, hk, rfl, HK, rfl⟩ := hrel
      by_cases hlt : k < m
      · obtain ⟨b1, o1, hao, hc1⟩ := HA.out.at_ (show k < n by omega)
        subst hao
        obtain ⟨b2, o2, hbo, hc2⟩ := HB.out.at_ hlt
        subst hbo
        obtain ⟨x, hx⟩ : ∃ x, ix A k = x := ⟨_, rfl⟩
        obtain ⟨y, hy⟩ : ∃ y, ix B k = y := ⟨_, rfl⟩
        rw [hx] at hc1
        rw [hy] at hc2
        have HX := Lib.hid hx
        have HY := Lib.hid hy
        have gk : (k : Int) < (m : Int) := by omega
        have gn : (k : Int) < (n : Int) := by omega
        clear hx hy
        by_cases hxy : x = y
        · have hb : (x != y) = false := by simpa using hxy
          have HK2 : Hid (A.take (k + 1) = B.take (k + 1)) := Lib.hid (take_ix HK.out (by have := HLA.out; omega) (by have := HLB.out; omega) (by rw [HX.out, HY.out]; exact hxy))
          clear hxy
          go_wp2_with (fail)
          go_quiet (fail)
          go_wp2_with (fail)
          go_roundw
          case rel => exact ⟨k + 1, _, by omega, by go_num, HK2, rfl⟩
          case measure => simp [intOf]; omega
        · have hb : (x != y) = true := by simpa using hxy
          have HF : Hid (bb = false) := Lib.hid (by
            rw [HBB.out]
            cases hb : begins A B with
            | false => rfl
            | true =>
              exfalso
              apply hxy
              obtain ⟨h1, h2⟩ := begins_take.1 hb
              have h3 : A[k]? = B[k]? := by rw [← h2, List.getElem?_take, if_pos (by have := HLB.out; omega)]
              rw [ix_eq (by have := HLA.out; omega), ix_eq (by have := HLB.out; omega), HX.out, HY.out] at h3
              exact Option.some.inj h3)
          clear hxy
          go_wp2_with (fail)
          go_quiet (fail)
          go_wp2_with (fail)
          go_ret
          exact ⟨ret_bool HF.out.symm, q + nq, by simp [World.drewN, Nat.add_assoc]⟩
      · obtain rfl : k = m := by omega
        have HF : Hid (bb = true) := Lib.hid (by
          rw [HBB.out, begins_take]
          have h := HK.out
          have h2 : B.take k = B := List.take_of_length_le (by have := HLB.out; omega)
          have := HLA.out
          have h3 := HLB.out
          rw [h2] at h
          rw [h3]
          exact ⟨by omega, h⟩)
        go_wp2_with (fail)
        go_ret
        exact ⟨ret_bool HF.out.symm, _, rfl⟩
  · have g1 : (n : Int) < (m : Int) := by omega
    have HF : Hid (bb = false) := Lib.hid (by
      rw [HBB.out]
      cases hb : begins A B with
      | false => rfl
      | true => have := (begins_take.1 hb).1; have := HLA.out; have := HLB.out; omega)
    go_enter Tryz.func53, Tryz.ntmps53
    go_wp2_with (fail)
    go_ret
    exact ⟨ret_bool HF.out.symm, 0, rfl⟩

/-- What a value of the document's coder reads as. -/
structure CR (w : World) (dd : Vd) (no : Option Addr) (nn nc : Nat) (V : Vc) (N : List ByteArray) : Prop where
  voc : VocR w dd V
  names : SlS w no nn nc N
  t64 : ∀ s ∈ V.tokens, s.size ≤ 64
  n16 : nn ≤ 16
  sp : V.specials.length ≤ 1048576
  tk : V.tokens.length ≤ 1048576
theorem CR.below {w w' : World} {dd : Vd} {no : Option Addr} {nn nc : Nat} {V : Vc} {N : List ByteArray} (h : CR w dd no nn nc V N) (hb : Below w.heap.size w w') : CR w' dd no nn nc V N :=
  ⟨h.voc.below hb, Sl.below h.names hb, h.t64, h.n16, h.sp, h.tk⟩
def cVal (dd : Vd) (no : Option Addr) (nn nc : Nat) (kind : Int) (to_ : Option Addr) (tn tc : Nat) : Value :=
  .agg #[.slice dd.ta dd.tn dd.tc, .slice dd.ma dd.mn dd.mc, .slice dd.sa dd.sn dd.sc, .slice no nn nc, .int .i64 kind, .slice to_ tn tc]
theorem rsym_c {V : Vc} {N : List ByteArray} {dd : Vd} {no to_ : Option Addr} {nn nc tn' tc' : Nat} {kind : Int} (t : Int) (w : World) (h : CR w dd no nn nc V N) :
    Calls Tryz.prog 16 #[cVal dd no nn nc kind to_ tn' tc', .int .i64 t] w (SymPost V N t w) :=
  rsymbols_calls t w h.voc h.names h.t64 h.n16 h.sp h.tk

set_option maxHeartbeats 1000000 in
set_option maxRecDepth 100000 in
theorem rlen_calls {V : Vc} {N : List ByteArray} {dd : Vd} {no to_ : Option Addr} {nn nc tn' tc' : Nat} {kind : Int} (w : World) (hC : CR w dd no nn nc V N) :
    Calls Tryz.prog 21 #[cVal dd no nn nc kind to_ tn' tc'] w fun e w' => e = .returned (.int .i64 (rowsF V N).length) ∧ Below w.heap.size w w' := by
  obtain ⟨ta, tn, tc, ma, mn, mc, sa, sn, sc⟩ := dd
  obtain ⟨w0, hw0⟩ : ∃ w0, w.alloc (.cells #[.slice ta tn tc, .slice ma mn mc, .slice sa sn sc, .slice no nn nc, .int .i64 kind, .slice to_ tn' tc'] 37) = w0 := ⟨_, rfl⟩
  have hb0 : Below w.heap.size w w0 := hw0 ▸ below_alloc w _
  have hx0 : w0.heap[w.heap.size]? = some (.cells #[.slice ta tn tc, .slice ma mn mc, .slice sa sn sc, .slice no nn nc, .int .i64 kind, .slice to_ tn' tc'] 37) := by rw [← hw0]; exact heap_alloc_new w _
  have HSZ1 : Hid (w.heap.size < w0.heap.size) := Lib.hid (by rw [← hw0]; simp)
  obtain ⟨b0, b1, b2, b3, b4, b5, bf⟩ := box6 hx0
  have HTN : Hid (V.tokens.length = tn) := Lib.hid hC.voc.tok.count
  have htn : tn ≤ 1048576 := by have := hC.tk; have := HTN.out; omega
  have HC := Lib.hid (hC.below hb0)
  have HB0 := Lib.hid hb0
  have HX0 := Lib.hid hx0
  have HW0 := Lib.hid hw0
  have hsym := fun (t : Int) (w : World) => rsym_c (V := V) (N := N) (kind := kind) (to_ := to_) (tn' := tn') (tc' := tc') (dd := ⟨ta, tn, tc, ma, mn, mc, sa, sn, sc⟩) (no := no) (nn := nn) (nc := nc) t w
  unfold cVal at *
  simp only at hsym ⊢
  have HSY := Lib.hid hsym
  clear hC hb0 hx0 hw0 hsym
  go_enter Tryz.func21, Tryz.ntmps21
  go_wp2_with (fail)
  rw [HW0.out]
  go_wp2_with (fail)
  go_loopw [3, 11] (fun a i wr => ∃ k n : Nat, k ≤ tn ∧ i = .int .i64 k ∧ a = .int .i64 n ∧ Hid ((rowsTo V N k).length = n) ∧ n ≤ k ∧ Below w0.heap.size w0 wr) (fun _ i _ => tn - (intOf i).toNat)
  case atStart => exact ⟨0, 0, Nat.zero_le _, rfl, rfl, Lib.hid rfl, Nat.le_refl _, Below.refl _ _⟩
  case round =>
    obtain ⟨k, n, hk, rfl, rfl, HK, hnk, hb⟩ := hrel
    have HB := Lib.hid hb
    obtain ⟨b0, b1, b2, b3, b4, b5, bf⟩ := box6 ((hb.block w.heap.size HSZ1.out).trans HX0.out)
    clear hb
    by_cases hlt : k < tn
    · have hsy := HSY.out (k : Int) wr (HC.out.below HB.out)
      have gk : (k : Int) < (tn : Int) := by omega
      go_wp2_with (fail)
      refine hsy.mono ?_
      rintro e w9 ⟨⟨vs, rfl, hos⟩, hb9⟩
      have HB9 := Lib.hid (HB.out.trans (hb9.mono HB.out.size))
      by_cases herr : (symsOf V N (k : Int)).2 = 0
      · have HR : Hid ((rowsTo V N (k + 1)).length = n + 1) := Lib.hid (by rw [rowsTo_yes herr, List.length_append, HK.out]; rfl)
        rw [herr]
        obtain ⟨n1, hn1⟩ : ∃ n1, n + 1 = n1 := ⟨_, rfl⟩
        have hwr : IntKind.i64.wrap ((n : Int) + 1) = (n1 : Int) := by rw [IntKind.wrap_i64]; omega
        rw [hn1] at HR
        have HN1 := Lib.hid hn1
        clear hos hb9 hsy herr hn1
        go_wp2_with (fail)
        go_roundw
        case rel => exact ⟨k + 1, n1, by omega, by go_num, rfl, HR, by have := HN1.out; omega, HB9.out⟩
        case measure => simp [intOf]; omega
      · have HR : Hid ((rowsTo V N (k + 1)).length = n) := Lib.hid (by rw [rowsTo_no herr, HK.out])
        obtain ⟨er, her⟩ : ∃ er, (symsOf V N (k : Int)).2 = er := ⟨_, rfl⟩
        rw [her] at herr ⊢
        have hbe : (er == 0) = false := by simpa using herr
        clear hos hb9 hsy herr her
        go_wp2_with (fail)
        go_roundw
        case rel => exact ⟨k + 1, n, by omega, by go_num, rfl, HR, by omega, HB9.out⟩
        case measure => simp [intOf]; omega
    · obtain rfl : k = tn := by omega
      have HF : Hid (((rowsF V N).length : Int) = (n : Int)) := Lib.hid (by
        rw [← HK.out, ← HTN.out]; rfl)
      go_wp2_with (fail)
      go_ret
      exact ⟨ret_i64 HF.out.symm, HB0.out.trans (HB.out.mono HB0.out.size)⟩

set_option maxHeartbeats 1000000 in
set_option maxRecDepth 100000 in
theorem rlongest_calls {V : Vc} {N : List ByteArray} {dd : Vd} {no to_ : Option Addr} {nn nc tn' tc' : Nat} {kind : Int} {S : List Int} {so : Option Addr} {ln lc : Nat} (w : World) (hC : CR w dd no nn nc V N) (hM : May V) (hS : SlI w so ln lc S) :
    Calls Tryz.prog 25 #[cVal dd no nn nc kind to_ tn' tc', .slice so ln lc] w fun e w' => (∃ best most, e = .returned (.int .i64 best) ∧ BestOf (rowsF V N) S best most) ∧ Below w.heap.size w w' := by
  obtain ⟨ta, tn, tc, ma, mn, mc, sa, sn, sc⟩ := dd
  obtain ⟨w0, hw0⟩ : ∃ w0, w.alloc (.cells #[.slice ta tn tc, .slice ma mn mc, .slice sa sn sc, .slice no nn nc, .int .i64 kind, .slice to_ tn' tc'] 37) = w0 := ⟨_, rfl⟩
  have hb0 : Below w.heap.size w w0 := hw0 ▸ below_alloc w _
  have hx0 : w0.heap[w.heap.size]? = some (.cells #[.slice ta tn tc, .slice ma mn mc, .slice sa sn sc, .slice no nn nc, .int .i64 kind, .slice to_ tn' tc'] 37) := by rw [← hw0]; exact heap_alloc_new w _
  have HSZ1 : Hid (w.heap.size < w0.heap.size) := Lib.hid (by rw [← hw0]; simp)
  obtain ⟨b0, b1, b2, b3, b4, b5, bf⟩ := box6 hx0
  have HTN : Hid (V.tokens.length = tn) := Lib.hid hC.voc.tok.count
  have htn : tn ≤ 1048576 := by have := hC.tk; have := HTN.out; omega
  have HC := Lib.hid (hC.below hb0)
  have HS := Lib.hid (hS.below hb0)
  have HM := Lib.hid hM
  have HB0 := Lib.hid hb0
  have HX0 := Lib.hid hx0
  have HW0 := Lib.hid hw0
  have hsym := fun (t : Int) (w : World) => rsym_c (V := V) (N := N) (kind := kind) (to_ := to_) (tn' := tn') (tc' := tc') (dd := ⟨ta, tn, tc, ma, mn, mc, sa, sn, sc⟩) (no := no) (nn := nn) (nc := nc) t w
  unfold cVal at *
  simp only at hsym ⊢
  have HSY := Lib.hid hsym
  clear hC hb0 hx0 hw0 hsym hS hM
  go_enter Tryz.func25, Tryz.ntmps25
  go_wp2_with (fail)
  rw [HW0.out]
  go_wp2_with (fail)
  go_loopw [5, 6, 14] (fun a b i wr => ∃ (k : Nat) (best most : Int), k ≤ tn ∧ i = .int .i64 k ∧ a = .int .i64 best ∧ b = .int .i64 most ∧ Hid (BestOf (rowsTo V N k) S best most) ∧ Below w0.heap.size w0 wr) (fun _ _ i _ => tn - (intOf i).toNat)
  case atStart => exact ⟨0, -1, 0, Nat.zero_le _, rfl, rfl, rfl, Lib.hid (BestOf.zero S), Below.refl _ _⟩
  case round =>
    obtain ⟨k, best, most, hk, rfl, rfl, rfl, HK, hb⟩ := hrel
    have HB := Lib.hid hb
    obtain ⟨b0, b1, b2, b3, b4, b5, bf⟩ := box6 ((hb.block w.heap.size HSZ1.out).trans HX0.out)
    clear hb
    by_cases hlt : k < tn
    · have hsy := HSY.out (k : Int) wr (HC.out.below HB.out)
      have gk : (k : Int) < (tn : Int) := by omega
      go_wp2_with (fail)
      refine hsy.mono ?_
      rintro e w9 ⟨⟨vs, rfl, hos⟩, hb9⟩
      obtain ⟨vo, vc, rfl, hss⟩ := hos.sl
      have HB9 := Lib.hid (HB.out.trans (hb9.mono HB.out.size))
      by_cases herr : (symsOf V N (k : Int)).2 = 0
      · have HLen := Lib.hid (symsOf_len HM.out herr)
        have HR : Hid (rowsTo V N (k + 1) = rowsTo V N k ++ [((symsOf V N (k : Int)).1, (k : Int))]) := Lib.hid (rowsTo_yes herr)
        rw [herr]
        obtain ⟨SY, hSY⟩ : ∃ SY, (symsOf V N (k : Int)).1 = SY := ⟨_, rfl⟩
        rw [hSY] at HR HLen hss ⊢
        obtain ⟨yn, hyn⟩ : ∃ yn, SY.length = yn := ⟨_, rfl⟩
        have HYN := Lib.hid hyn
        rw [hyn] at hss ⊢
        have hbeg := rbegins_calls (A := S) (B := SY) w9 ((HS.out.below (HB9.out)) ) hss (bb := begins S SY) rfl
        clear hos hb9 hsy herr hSY hyn hss
        by_cases hm : most < (yn : Int)
        · cases hbb : begins S SY with
          | true =>
            have HN := Lib.hid (BestOf.up HK.out (r := (SY, (k : Int))) hbb (by rw [HYN.out]; exact hm))
            rw [← HR.out, HYN.out] at HN
            rw [hbb] at hbeg
            clear hbb
            go_wp2_with (fail)
            refine hbeg.mono ?_
            rintro e w10 ⟨rfl, q, rfl⟩
            clear hbeg
            go_wp2_with (fail)
            go_roundw
            case rel => exact ⟨k + 1, (k : Int), (yn : Int), by omega, by go_num, rfl, rfl, HN, below_drewN HB9.out q⟩
            case measure => simp [intOf]; omega
          | false =>
            have HN := Lib.hid (BestOf.no HK.out (r := (SY, (k : Int))) hbb)
            rw [← HR.out] at HN
            rw [hbb] at hbeg
            clear hbb
            go_wp2_with (fail)
            refine hbeg.mono ?_
            rintro e w10 ⟨rfl, q, rfl⟩
            clear hbeg
            go_wp2_with (fail)
            go_roundw
            case rel => exact ⟨k + 1, best, most, by omega, by go_num, rfl, rfl, HN, below_drewN HB9.out q⟩
            case measure => simp [intOf]; omega
        · have HN := Lib.hid (BestOf.low HK.out (r := (SY, (k : Int))) HLen.out.1 (by rw [HYN.out]; exact hm))
          rw [← HR.out] at HN
          clear hbeg
          go_wp2_with (fail)
          go_roundw
          case rel => exact ⟨k + 1, best, most, by omega, by go_num, rfl, rfl, HN, HB9.out⟩
          case measure => simp [intOf]; omega
      · have HR : Hid (rowsTo V N (k + 1) = rowsTo V N k) := Lib.hid (rowsTo_no herr)
        obtain ⟨er, her⟩ : ∃ er, (symsOf V N (k : Int)).2 = er := ⟨_, rfl⟩
        rw [her] at herr ⊢
        have hbe : (er == 0) = false := by simpa using herr
        clear hos hb9 hsy herr her hss
        go_wp2_with (fail)
        go_roundw
        case rel => exact ⟨k + 1, best, most, by omega, by go_num, rfl, rfl, Lib.hid (by rw [HR.out]; exact HK.out), HB9.out⟩
        case measure => simp [intOf]; omega
    · obtain rfl : k = tn := by omega
      have HF : Hid (BestOf (rowsF V N) S best most) := Lib.hid (by
        have := HK.out; rw [← HTN.out] at this; exact this)
      go_wp2_with (fail)
      go_ret
      exact ⟨⟨best, most, rfl, HF.out⟩, HB0.out.trans (HB.out.mono HB0.out.size)⟩

theorem own_zero (w : World) : Own (w.alloc (.cells #[] 3)) w.heap.size (.slice (some ⟨w.heap.size, 0, none⟩) 0 0) [] := World.ownsRow_made w #[] 0 (Nat.le_refl _) (by unfold maxLen; omega) (by simp)

set_option maxHeartbeats 1000000 in
set_option maxRecDepth 100000 in
theorem rallowed_calls {V : Vc} {N : List ByteArray} {dd : Vd} {no to_ : Option Addr} {nn nc tn' tc' : Nat} {kind : Int} {S : List Int} {so : Option Addr} {ln lc : Nat} (w : World) (hC : CR w dd no nn nc V N) (hS : SlI w so ln lc S) :
    Calls Tryz.prog 23 #[cVal dd no nn nc kind to_ tn' tc', .slice so ln lc] w fun e w' => (∃ v, e = .returned v ∧ Own w' w.heap.size v (allowedF (rowsF V N) S)) ∧ Below w.heap.size w w' := by
  obtain ⟨ta, tn, tc, ma, mn, mc, sa, sn, sc⟩ := dd
  obtain ⟨i0, hi, hz0, hz1, hz2⟩ := info_parts infoInt3
  obtain ⟨wa, hwa⟩ : ∃ wa, w.alloc (.cells #[.slice ta tn tc, .slice ma mn mc, .slice sa sn sc, .slice no nn nc, .int .i64 kind, .slice to_ tn' tc'] 37) = wa := ⟨_, rfl⟩
  obtain ⟨w0, hw0⟩ : ∃ w0, wa.alloc (.cells #[] 3) = w0 := ⟨_, rfl⟩
  have hba : Below w.heap.size w wa := hwa ▸ below_alloc w _
  have hb0 : Below w.heap.size w w0 := hba.trans (by rw [← hw0]; exact (below_alloc wa _).mono hba.size)
  have hsa : wa.heap.size = w.heap.size + 1 := by rw [← hwa]; simp
  have hxa : wa.heap[w.heap.size]? = some (.cells #[.slice ta tn tc, .slice ma mn mc, .slice sa sn sc, .slice no nn nc, .int .i64 kind, .slice to_ tn' tc'] 37) := by rw [← hwa]; exact heap_alloc_new w _
  have hx0 : w0.heap[w.heap.size]? = some (.cells #[.slice ta tn tc, .slice ma mn mc, .slice sa sn sc, .slice no nn nc, .int .i64 kind, .slice to_ tn' tc'] 37) := by rw [← hw0]; exact (Below.heap_alloc _ _ _ (by omega)).trans hxa
  have HO0 : Hid (Own w0 wa.heap.size (.slice (some ⟨w.heap.size + 1, 0, none⟩) 0 0) []) := Lib.hid (by rw [← hw0, ← hsa]; exact own_zero wa)
  have HBA : Hid (Below w.heap.size w wa) := Lib.hid hba
  have HBA0 : Hid (Below wa.heap.size wa w0) := Lib.hid (by rw [← hw0]; exact below_alloc wa _)
  have HSZ1 : Hid (w.heap.size < wa.heap.size) := Lib.hid (by omega)
  obtain ⟨b0, b1, b2, b3, b4, b5, bf⟩ := box6 hx0
  have HTN : Hid (V.tokens.length = tn) := Lib.hid hC.voc.tok.count
  have htn : tn ≤ 1048576 := by have := hC.tk; have := HTN.out; omega
  have HC := Lib.hid (hC.below hba)
  have HS := Lib.hid (hS.below hba)
  have HSL : Hid (S.length = ln) := Lib.hid hS.len
  have HB0 := Lib.hid hb0
  have HX0 := Lib.hid hxa
  have HW0 := Lib.hid hw0
  have HWA := Lib.hid hwa
  have HSA := Lib.hid hsa
  have hsym := fun (t : Int) (w : World) => rsym_c (V := V) (N := N) (kind := kind) (to_ := to_) (tn' := tn') (tc' := tc') (dd := ⟨ta, tn, tc, ma, mn, mc, sa, sn, sc⟩) (no := no) (nn := nn) (nc := nc) t w
  unfold cVal at *
  simp only at hsym ⊢
  have HSY := Lib.hid hsym
  clear hC hb0 hba hx0 hxa hw0 hwa hsa hsym hS
  by_cases hln : ln = 0
  · subst hln
    have HE : Hid (allowedF (rowsF V N) S = []) := Lib.hid (by unfold allowedF; rw [if_pos (List.eq_nil_of_length_eq_zero HSL.out)])
    clear b0 b1 b2 b3 b4 b5 bf
    go_enter Tryz.func23, Tryz.ntmps23
    go_wp2_with (fail)
    rw [HWA.out, HW0.out]
    go_ret
    exact ⟨⟨_, rfl, by rw [HE.out]; exact HO0.out.mono HBA.out.size⟩, HB0.out⟩
  · have HNE : Hid (S ≠ []) := Lib.hid (fun e => hln (by rw [← HSL.out, e]; rfl))
    have hl1 : ((ln : Int) == 0) = false := by simp; omega
    have hl2 : ¬ (ln : Int) = 0 := by omega
    rw [← HW0.out, ← HWA.out] at b0
    go_enter Tryz.func23, Tryz.ntmps23
    go_wp2_with (fail)
    rw [HWA.out, HW0.out]
    go_loopw [5, 18] (fun v i wr => ∃ k : Nat, k ≤ tn ∧ i = .int .i64 k ∧ Own wr wa.heap.size v (allowR (rowsTo V N k) S) ∧ Below wa.heap.size wa wr) (fun _ i _ => tn - (intOf i).toNat)
    case atStart => exact ⟨0, Nat.zero_le _, rfl, HO0.out, HBA0.out⟩
    case round =>
      obtain ⟨k, hk, rfl, ho, hb⟩ := hrel
      have HB := Lib.hid hb
      have HO := Lib.hid ho
      obtain ⟨b0, b1, b2, b3, b4, b5, bf⟩ := box6 ((hb.block w.heap.size HSZ1.out).trans HX0.out)
      clear hb ho
      by_cases hlt : k < tn
      · have hsy := HSY.out (k : Int) wr (HC.out.below HB.out)
        have gk : (k : Int) < (tn : Int) := by omega
        have HL : Hid ((allowR (rowsTo V N k) S).length ≤ k) := Lib.hid (Nat.le_trans (allowR_le _ _) (rowsTo_le V N k))
        go_wp2_with (fail)
        refine hsy.mono ?_
        rintro e w9 ⟨⟨vs, rfl, hos⟩, hb9⟩
        obtain ⟨vo, vc, rfl, hss⟩ := hos.sl
        have HB9 := Lib.hid (HB.out.trans (hb9.mono HB.out.size))
        by_cases herr : (symsOf V N (k : Int)).2 = 0
        · have HR : Hid (rowsTo V N (k + 1) = rowsTo V N k ++ [((symsOf V N (k : Int)).1, (k : Int))]) := Lib.hid (rowsTo_yes herr)
          rw [herr]
          obtain ⟨SY, hSY⟩ : ∃ SY, (symsOf V N (k : Int)).1 = SY := ⟨_, rfl⟩
          rw [hSY] at HR hss ⊢
          obtain ⟨yn, hyn⟩ : ∃ yn, SY.length = yn := ⟨_, rfl⟩
          rw [hyn] at hss ⊢
          have hbg1 := rbegins_calls (A := SY) (B := S) w9 hss (HS.out.below HB9.out) (bb := begins SY S) rfl
          have hbg2 := fun q => rbegins_calls (A := S) (B := SY) (w9.drewN q) ((HS.out.below HB9.out).drewN q) (hss.drewN q) (bb := begins S SY) rfl
          clear hsy herr hSY hyn hss
          cases hb1 : begins SY S with
          | true =>
            have HN := Lib.hid (allowR_yes (L := rowsTo V N k) (s := S) (r := (SY, (k : Int))) (by simp [hb1]))
            rw [← HR.out] at HN
            rw [hb1] at hbg1
            have HO9 := Lib.hid (HO.out.below hb9)
            clear hb1 hbg2 hos hb9
            go_wp2_with (fail)
            refine hbg1.mono ?_
            rintro e w10 ⟨rfl, q, rfl⟩
            have HO8 : Hid (Own ((w9.drewN q).alloc (.cells #[.int .i64 (k : Int)] 3)) wa.heap.size u5 (allowR (rowsTo V N k) S)) := Lib.hid (Own.alloc (Own.below HO9.out (below_drewN (Below.refl _ _) q)) _)
            have HS8 : Hid (SlI ((w9.drewN q).alloc (.cells #[.int .i64 (k : Int)] 3)) (some ⟨w9.heap.size, 0, none⟩) 1 1 [(k : Int)]) := Lib.hid (SlI.one (w9.drewN q) (k : Int) _)
            have HSZ : Hid (wa.heap.size ≤ w9.heap.size) := Lib.hid HB9.out.size
            clear hbg1
            go_wp2_with (at_builtin; go_loud (refine wpList_int_app rfl _ _ 41 rfl i0 Tryz.underlying41 hi hz0 hz1 hz2 rfl HO8.out rfl HS8.out (by have := HL.out; omega) (by have := HSZ.out; simp [World.drewN]; omega) ?_))
            intro v1 w2 ho2 hg2 hb2
            rw [← HN.out] at ho2
            have HO2 := Lib.hid ho2
            have HB2 := Lib.hid ((below_drewN HB9.out q).alloc (by have := HSZ.out; exact this) (.cells #[.int .i64 (k : Int)] 3) |>.trans hb2)
            clear ho2 hg2 hb2
            go_wp2_with (fail)
            go_roundw
            case rel => exact ⟨k + 1, by omega, by go_num, HO2.out, HB2.out⟩
            case measure => simp [intOf]; omega
          | false =>
            rw [hb1] at hbg1
            cases hb2 : begins S SY with
            | true =>
              have HN := Lib.hid (allowR_yes (L := rowsTo V N k) (s := S) (r := (SY, (k : Int))) (by simp [hb2]))
              rw [← HR.out] at HN
              rw [hb2] at hbg2
              have HO9 := Lib.hid (HO.out.below hb9)
              clear hb1 hb2 hos hb9
              go_wp2_with (fail)
              refine hbg1.mono ?_
              rintro e w10 ⟨rfl, q1, rfl⟩
              clear hbg1
              go_wp2_with (fail)
              refine (hbg2 q1).mono ?_
              rintro e w10 ⟨rfl, q, rfl⟩
              have HO8 : Hid (Own ((w9.drewN (q1 + q)).alloc (.cells #[.int .i64 (k : Int)] 3)) wa.heap.size u5 (allowR (rowsTo V N k) S)) := Lib.hid (Own.alloc (Own.below HO9.out (below_drewN (Below.refl _ _) (q1 + q))) _)
              have HS8 : Hid (SlI ((w9.drewN (q1 + q)).alloc (.cells #[.int .i64 (k : Int)] 3)) (some ⟨w9.heap.size, 0, none⟩) 1 1 [(k : Int)]) := Lib.hid (SlI.one (w9.drewN (q1 + q)) (k : Int) _)
              have HSZ : Hid (wa.heap.size ≤ w9.heap.size) := Lib.hid HB9.out.size
              clear hbg2
              go_wp2_with (at_builtin; go_loud (refine wpList_int_app rfl _ _ 41 rfl i0 Tryz.underlying41 hi hz0 hz1 hz2 rfl HO8.out rfl HS8.out (by have := HL.out; omega) (by have := HSZ.out; simp [World.drewN]; omega) ?_))
              intro v1 w2 ho2 hg2 hb2
              rw [← HN.out] at ho2
              have HO2 := Lib.hid ho2
              have HB2 := Lib.hid ((below_drewN HB9.out (q1 + q)).alloc (by have := HSZ.out; exact this) (.cells #[.int .i64 (k : Int)] 3) |>.trans hb2)
              clear ho2 hg2 hb2
              go_wp2_with (fail)
              go_roundw
              case rel => exact ⟨k + 1, by omega, by go_num, HO2.out, HB2.out⟩
              case measure => simp [intOf]; omega
            | false =>
              have HN := Lib.hid (allowR_no (L := rowsTo V N k) (s := S) (r := (SY, (k : Int))) (by simp [hb1, hb2]))
              rw [← HR.out] at HN
              rw [hb2] at hbg2
              have HO9 := Lib.hid (HO.out.below hb9)
              rw [← HN.out] at HO9
              clear hb1 hb2 hos hb9
              go_wp2_with (fail)
              refine hbg1.mono ?_
              rintro e w10 ⟨rfl, q1, rfl⟩
              clear hbg1
              go_wp2_with (fail)
              refine (hbg2 q1).mono ?_
              rintro e w10 ⟨rfl, q, rfl⟩
              clear hbg2
              go_wp2_with (fail)
              go_roundw
              case rel => exact ⟨k + 1, by omega, by go_num, Own.below HO9.out (below_drewN (Below.refl _ _) (q1 + q)), below_drewN HB9.out (q1 + q)⟩
              case measure => simp [intOf]; omega
        · have HR : Hid (rowsTo V N (k + 1) = rowsTo V N k) := Lib.hid (rowsTo_no herr)
          obtain ⟨er, her⟩ : ∃ er, (symsOf V N (k : Int)).2 = er := ⟨_, rfl⟩
          rw [her] at herr ⊢
          have hbe : (er == 0) = false := by simpa using herr
          have HO9 := Lib.hid (HO.out.below hb9)
          clear hos hb9 hsy herr her hss
          go_wp2_with (fail)
          go_roundw
          case rel => exact ⟨k + 1, by omega, by go_num, by rw [HR.out]; exact HO9.out, HB9.out⟩
          case measure => simp [intOf]; omega
      · obtain rfl : k = tn := by omega
        have HF : Hid (allowR (rowsTo V N k) S = allowedF (rowsF V N) S) := Lib.hid (by
          rw [allowR_all HNE.out, ← HTN.out]; rfl)
        go_wp2_with (fail)
        go_ret
        exact ⟨⟨_, rfl, by rw [← HF.out]; exact HO.out.mono HBA.out.size⟩, HBA.out.trans (HB.out.mono HBA.out.size)⟩

set_option maxHeartbeats 1000000 in
set_option maxRecDepth 100000 in
theorem has_calls {A : List Int} {ao : Option Addr} {n c : Nat} (x : Int) (w : World) (hA : SlI w ao n c A) :
    Calls Tryz.prog 26 #[.slice ao n c, .int .i64 x] w fun e w' => e = .returned (.bool (decide (x ∈ A))) ∧ w = w' := by
  have hm1 := Nat.le_trans (Sl.le hA) (Sl.max hA)
  unfold maxLen at hm1
  have HA := Lib.hid hA
  have HLA := Lib.hid hA.len
  clear hA
  go_enter Tryz.func26, Tryz.ntmps26
  go_wp2_with (fail)
  go_loop [9] (fun i => ∃ k : Nat, k ≤ n ∧ i = .int .i64 k ∧ Hid (∀ j, j < k → ix A j ≠ x)) (fun i => n - (intOf i).toNat)
  case atStart => exact ⟨0, Nat.zero_le _, rfl, Lib.hid (fun j h => by omega)⟩
  case round =>
    obtain ⟨k, hk, rfl, HK⟩ := hrel
    by_cases hlt : k < n
    · obtain ⟨b1, o1, hao, hc1⟩ := HA.out.at_ hlt
      subst hao
      have gk : (k : Int) < (n : Int) := by omega
      by_cases hx : ix A k = x
      · rw [hx] at hc1
        have HF : Hid (decide (x ∈ A) = true) := Lib.hid (by
          rw [decide_eq_true_iff, ← hx]
          exact List.mem_of_getElem? (ix_eq (by have := HLA.out; omega)))
        clear hx
        go_wp2_with (fail)
        go_ret
        exact ⟨ret_bool HF.out.symm, rfl⟩
      · have HK2 : Hid (∀ j, j < k + 1 → ix A j ≠ x) := Lib.hid (fun j hj => by
          rcases Nat.lt_or_ge j k with h | h
          · exact HK.out j h
          · rw [show j = k by omega]; exact hx)
        obtain ⟨y, hy⟩ : ∃ y, ix A k = y := ⟨_, rfl⟩
        rw [hy] at hc1 hx
        have hb : (y == x) = false := by simpa using hx
        clear hy hx
        go_wp2_with (fail)
        go_round
        case rel => exact ⟨k + 1, by omega, by go_num, HK2⟩
        case measure => simp [intOf]; omega
    · obtain rfl : k = n := by omega
      have HF : Hid (decide (x ∈ A) = false) := Lib.hid (by
        rw [decide_eq_false_iff_not]
        intro h
        obtain ⟨j, hj, e⟩ := List.getElem_of_mem h
        have h2 := ix_eq hj
        rw [List.getElem?_eq_getElem hj, e] at h2
        exact HK.out j (by have := HLA.out; omega) (Option.some.inj h2).symm)
      go_wp2_with (fail)
      go_ret
      exact ⟨ret_bool HF.out.symm, rfl⟩

end Go.Proofs.YtnadelmbkaoeeaaGreatDoor
