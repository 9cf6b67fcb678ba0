/- Walk: Put. (Printed by gPut.py.) -/
import Derived.Test.YtimkkkdabmhedaaGreatDoorB32
import Derived.Deep.RegionHeld3
import Derived.Deep.CutRange
import Derived.WalkArith
import Derived.Deep.DeepCutAuto
namespace Go.Proofs.YtimkkkdabmhedaaGreatDoor
open Go.RowKit
set_option linter.unusedVariables false
set_option linter.unusedSimpArgs false

/-- Block g: the elder one of the nodes, or a new one. -/
def At (no : Option Addr) (g B : Nat) : Prop := no = some ⟨g, 0, none⟩ ∨ B ≤ g

/-- What Put leaves. -/
def PutOK (w : World) (base cb mb : Nat) (no : Option Addr) (N : Nat → Nd) (room hits misses : Int) (i : Nat) (key : ByteArray) (m' : Nat) (ord' : List Nat) (sz' : Nat) (f' : ByteArray → Option Int) (R' : Nat → List Int) (w' : World) : Prop :=
  ∃ g cap' N' e' y', CSt w' base w'.heap.size cb mb (some ⟨g, 0, none⟩) m' cap' N' e' y' room hits misses ord' sz' f' R' ∧
    (∀ j, j ≠ i → (N' j).key = (N j).key) ∧ (N' i).key = key ∧ Keeps (Ft cb mb no) w w' ∧ At no g w.heap.size

section
variable {w : World} {base cb mb m cap sz : Nat} {no : Option Addr} {N : Nat → Nd} {e y room hits misses : Int} {ord : List Nat} {f : ByteArray → Option Int} {R : Nat → List Int}

set_option maxRecDepth 100000 in
set_option maxHeartbeats 4000000 in
theorem put_old {pre post ord1 : List Nat} {i : Nat} (h : CSt w base w.heap.size cb mb no m cap N e y room hits misses (pre ++ i :: post) sz f R) (key : ByteArray) (hkl : key.size ≤ maxLen) (hroom : 0 < room)
    {ao : Option Addr} {n c : Nat} {A : List Int} (hA : SlI w ao n c A) (hAo : ∀ ad, ao = some ad → 0 < n → ad.block < w.heap.size ∧ ¬ Ft cb mb no ad.block) (hlim : n ≤ 1048576) (hsz : sz < 1048576) (hf : f key = some (i : Int)) (hord : pre ++ post = ord1) :
    Calls Tryz.prog 119 #[.pointer (some ⟨cb, 0, none⟩), .string key, .slice ao n c] w fun en w' => en = .returned (.tuple #[]) ∧ PutOK w base cb mb no N room hits misses i key m (ord1 ++ [i]) sz (fun t => if t = key then some (i : Int) else f t) (upd R i A) w' := by
  have him : i < m := h.lt i (by simp)
  obtain ⟨nb, rfl, hc, hmn, hbn, hbn2⟩ := h.cmem (by omega)
  obtain ⟨hel, hyo⟩ := h.ch.at_ pre i post rfl
  have hpost : ∀ k ∈ pre ++ post, k < m := fun k hk => h.lt k (by simp at hk ⊢; rcases hk with h | h <;> simp [h])
  have pel : Pl m (N i).el := by rw [hel]; exact lstD_pl fun k hk => hpost k (by simp [hk])
  have pyo : Pl m (N i).yo := by rw [hyo]; exact hdD_pl fun k hk => hpost k (by simp [hk])
  have hni : i ∉ pre ++ post := by
    have := h.ch.nd
    have h2 : (i :: (pre ++ post)).Nodup := (List.perm_middle.nodup_iff).1 this
    exact (List.nodup_cons.1 h2).1
  obtain ⟨f0, f1, f2, f3, f4, f5, f6, ff⟩ := id h.fl
  have hmp := h.mp
  have hr1 : (room == 0) = false := by simp; omega
  have HC := Lib.hid h
  clear h
  go_enter Tryz.func119, Tryz.ntmps119
  go_wp2_with (with_reducible show wpList _ _ _ (⟨_, .lookup _ _ _ _, _, _, _, _⟩ :: _) _ _; refine wpList_si_ok rfl _ _ rfl rfl hmp rfl hkl ?_; rw [hf])
  refine (unlink_calls w hc i him pel pyo).mono ?_
  rintro en w1 ⟨rfl, hc1, hk1⟩
  rw [hord] at hni
  have H1 := Lib.hid ((HC.out.relink (ord' := ord1) (Nat.le_refl _) hmn ⟨hbn, hbn2⟩ hc1 hk1 (unlN_held N i) (by rw [← hord]; exact HC.out.ch.unlink) (by rw [← hord]; exact hpost)).up hk1.size)
  have HK1 : Hid (Keeps (Ft cb mb (some ⟨nb, 0, none⟩)) w w1) := Lib.hid (hk1.mono fun k _ hk => by
    rcases hk with h | h
    · exact .inl h
    · exact .inr (.inr (by rw [h])))
  have hno : At (some (⟨nb, 0, none⟩ : Addr)) nb w.heap.size := .inl rfl
  have him1 : i < m := him
  have HKEY : ∀ j, j ≠ i → (unlN N i j).key = (N j).key := fun j _ => by have := unlN_held N i j; simp only [Nd.held, Prod.mk.injEq] at this; exact this.1
  clear hord hc1 hk1 hc f0 f1 f2 f3 f4 f5 f6 ff hmp
  generalize unlN N i = N1 at H1 HKEY
  generalize (if (N i).el = -1 then (N i).yo else e) = e1 at H1
  generalize (if (N i).yo = -1 then (N i).el else y) = y1 at H1
  obtain ⟨hc1, hmn1, hbn1, hbn21⟩ := H1.out.cmem' (by omega)
  have hA1 : SlI w1 ao n c A := hA.keep0 fun ad e h0 => HK1.out.block _ (hAo ad e h0).1 (hAo ad e h0).2
  have hne1 : ∀ ad, ao = some ad → 0 < n → ad.block ≠ nb := by
    intro ad e h0 e2
    rcases hno with h | h
    · exact (hAo ad e h0).2 (.inr (.inr (by rw [h, e2])))
    · have := (hAo ad e h0).1
      omega
  have hA1k : SlI (w1.setCell ⟨nb, i * 4, none⟩ (.string key)).drew ao n c A := hA1.keep0 fun ad e h0 => heap_set_other (hne1 ad e h0)
  have HC1 := Lib.hid hc1
  have HCk := Lib.hid (hc1.setKey him1 key)
  obtain ⟨c0, c1, c2, c3⟩ := hc1.cells him1
  obtain ⟨f0, f1, f2, f3, f4, f5, f6, ff⟩ := id hc1.f
  have nf := hc1.n.free
  have hle1 := hc1.n.le
  have hmax1 := hc1.n.max
  unfold maxLen at hmax1
  have him2 : (i : Int) < (m : Int) := by omega
  have hcn := hc1.ne
  have hcn2 := hcn.symm
  clear hc1
  go_wp2_with (fail)
  go_cut [6] (fun s6 wx => s6 = .int .i64 i ∧ Mid w1 cb nb mb m cap N1 i key n A e1 y1 room hits misses wx)
  case first =>
    go_region_held3 (fun w' => w'.cell? ⟨cb, 0, none⟩ = some (.slice (some ⟨nb, 0, none⟩) m cap) ∧ w'.cell? ⟨cb, 0, none⟩ = some (.slice (some ⟨nb, 0, none⟩) m cap)) (first | exact ⟨by assumption, by assumption⟩ | exact ⟨f0, f0⟩ | (simp [go_sem, hcn, f0]; done) | go_keep)
      (first | (go_at_call 70; refine (clone_calls (A := A) _ ?_ (by omega)).mono ?_; (first | exact hA1.drew | exact hA1k); rintro e w3 ⟨vo, vc, rfl, ho3, hb3⟩; (first | have hcm3 := HC1.out.drew.below hb3 | have hcm3 := HCk.out.drew.below hb3); obtain ⟨c03, c13, c23, c33⟩ := hcm3.cells him1; have nf3 := hcm3.n.free; have g03 := hcm3.f.f0))
    all_goals (go_wp2_with fail; go_meet)
    all_goals exact ⟨rfl, by first | exact mid_a him1 hcm3 hb3 hbn21 ho3 | exact mid_b him1 hcm3 hb3 hbn21 ho3 | exact mid_c him1 hcm3 hb3 hbn21 ho3⟩
  case rest =>
    obtain ⟨rfl, vo, vc, N2, hcm, hN2, hN2', hown, hkk⟩ := hcut
    have hcbm := H1.out.cm
    have hmbl := H1.out.bm
    have hmc : MapSI wc mb sz f := H1.out.mp.stay (hkk.block mb hmbl.2 hmn1)
    have hwf : (Lit.int .i64 (i : Int)).wf = true := WalkArith.wf_i64 (by omega)
    clear c0 c1 c2 c3 f0 f1 f2 f3 f4 f5 f6 ff nf
    have f1 := hcm.f.f1
    go_wp2_with (with_reducible show wpList _ _ _ (⟨_, .mapUpdate _ _ _ _, _, _, _, _⟩ :: _) _ _; refine wpList_si_put rfl _ _ _ rfl rfl hmc rfl hkl rfl hwf (by unfold maxLen; omega) ?_)
    intro w3 hmp3 hgr3
    try simp only [hf, Option.isSome_some, if_true] at hmp3
    have K3 : Keeps (fun k => k = mb) wc w3 := (Keeps.refl _ _).grown hgr3 fun k hk _ => by simp at hk; exact hk.symm
    have hszc : w1.heap.size ≤ wc.heap.size := hkk.size
    have hc3 : CMem w3 cb nb mb m cap N2 e1 y1 room hits misses := hcm.stay (K3.block cb hcm.lt hcbm) (K3.block nb hcm.n.lt (fun e => hmn1 e.symm))
    have hown3 : Own w3 w1.heap.size (.slice vo n vc) A := hown.stay fun k h1 h2 => K3.block k h2 (by omega)
    have h3 := H1.out.reput him1 hni (Nat.le_refl _) (Nat.le_trans hszc K3.size) hc3 hN2 hN2' hmp3 (fun k h1 h2 h3 => (K3.block k (by omega) h3).trans (hkk.block k h1 h2)) hown3 hmn1 ⟨hbn1, hbn21⟩ hkl
    have hsz3 : w1.heap.size ≤ w3.heap.size := Nat.le_trans hszc K3.size
    have hK3 : Hid (Keeps (Ft cb mb (some ⟨nb, 0, none⟩)) w w3) := Lib.hid ((HK1.out.then hkk (fun k _ hk => .inr (.inr (by rw [hk])))).then K3 fun k _ hk => .inr (.inl hk))
    have H3 := Lib.hid h3
    have hpy : Pl m y1 := by rw [H1.out.ch.y_]; exact lstD_pl H1.out.lt
    have hyi : y1 ≠ (i : Int) := by
      rw [H1.out.ch.y_]
      intro e2
      rcases nil_or_snoc (ord1) with e | ⟨l', x, e⟩
      · rw [e, lstD_nil] at e2; omega
      · rw [e, lstD_snoc] at e2
        exact hni (by rw [e]; simp; omega)
    clear h3 hmc f1 hmp3 hgr3
    go_wp2_with (fail)
    refine (link_calls _ hc3 i him1 hpy hyi).mono ?_
    rintro en w4 ⟨rfl, hc4, hk4⟩
    have hlt4 : ∀ k ∈ ord1 ++ [i], k < m := by
      intro k hk
      rcases List.mem_append.1 hk with h | h
      · exact H1.out.lt k h
      · simp at h; omega
    have h4 := H3.out.relink (Nat.le_refl _) hmn1 ⟨hbn1, by omega⟩ hc4 hk4 (lnkN_held N2 i y1) (H3.out.ch.link hni) hlt4
    have HH : ∀ j, (lnkN N2 i y1 j).key = (N2 j).key := fun j => by have := lnkN_held N2 i y1 j; simp only [Nd.held, Prod.mk.injEq] at this; exact this.1
    go_wp2_with (fail)
    go_end0
    refine ⟨rfl, nb, _, _, _, _, h4.up hk4.size, fun j hj => ?_, ?_, ?_, hno⟩
    · rw [HH, hN2' j hj]; exact HKEY j hj
    · rw [HH, hN2]
    · exact hK3.out.then hk4 fun k hkl' hk => by
        rcases hk with h | h
        · exact .inl h
        · rcases hno with h' | h'
          · exact .inr (.inr (by rw [h', h]))
          · omega

set_option maxRecDepth 100000 in
set_option maxHeartbeats 4000000 in
theorem put_new {R1 : Nat → List Int} (h : CSt w base w.heap.size cb mb no m cap N e y room hits misses ord sz f R) (key : ByteArray) (hkl : key.size ≤ maxLen) (hroom : 0 < room)
    {ao : Option Addr} {n c : Nat} {A : List Int} (hA : SlI w ao n c A) (hAo : ∀ ad, ao = some ad → 0 < n → ad.block < w.heap.size ∧ ¬ Ft cb mb no ad.block) (hlim : n ≤ 1048576) (hsz : sz < 1048576) (hf : f key = none) (hsr : (sz : Int) < room) (hm0 : m < 1048576) (hR1 : upd R m [] = R1) :
    Calls Tryz.prog 119 #[.pointer (some ⟨cb, 0, none⟩), .string key, .slice ao n c] w fun en w' => en = .returned (.tuple #[]) ∧ PutOK w base cb mb no N room hits misses m key (m + 1) (ord ++ [m]) (sz + 1) (fun t => if t = key then some (m : Int) else f t) (upd R1 m A) w' := by
  have him1 : m < m + 1 := by omega
  have hni : m ∉ ord := fun hi => by have := h.lt m hi; omega
  obtain ⟨f0, f1, f2, f3, f4, f5, f6, ff⟩ := id h.fl
  have hmp := h.mp
  have hr1 : (room == 0) = false := by simp; omega
  have HC := Lib.hid h
  clear h
  go_enter Tryz.func119, Tryz.ntmps119
  go_wp2_with (with_reducible show wpList _ _ _ (⟨_, .lookup _ _ _ _, _, _, _, _⟩ :: _) _ _; refine wpList_si_ok rfl _ _ rfl rfl hmp rfl hkl ?_; rw [hf])
  refine (free_new HC.out hsr hm0).mono ?_
  rintro en w1 ⟨rfl, g, cap1, h1, hk1, hat⟩
  rw [hR1] at h1
  have H1 := Lib.hid h1
  have HK1 := Lib.hid hk1
  have hno : At no g w.heap.size := hat
  have HKEY : ∀ j, j ≠ m → (upd N m noNd j).key = (N j).key := fun j hj => by rw [upd_other _ _ _ _ hj]
  clear h1 hk1 hat f0 f1 f2 f3 f4 f5 f6 ff hmp
  generalize upd N m noNd = N1 at H1 HKEY
  obtain ⟨hc1, hmn1, hbn1, hbn21⟩ := H1.out.cmem' (by omega)
  have hA1 : SlI w1 ao n c A := hA.keep0 fun ad e h0 => HK1.out.block _ (hAo ad e h0).1 (hAo ad e h0).2
  have hne1 : ∀ ad, ao = some ad → 0 < n → ad.block ≠ g := by
    intro ad e h0 e2
    rcases hno with h | h
    · exact (hAo ad e h0).2 (.inr (.inr (by rw [h, e2])))
    · have := (hAo ad e h0).1
      omega
  have hA1k : SlI (w1.setCell ⟨g, m * 4, none⟩ (.string key)).drew ao n c A := hA1.keep0 fun ad e h0 => heap_set_other (hne1 ad e h0)
  have HC1 := Lib.hid hc1
  have HCk := Lib.hid (hc1.setKey him1 key)
  obtain ⟨c0, c1, c2, c3⟩ := hc1.cells him1
  obtain ⟨f0, f1, f2, f3, f4, f5, f6, ff⟩ := id hc1.f
  have nf := hc1.n.free
  have hle1 := hc1.n.le
  have hmax1 := hc1.n.max
  unfold maxLen at hmax1
  have him2 : (m : Int) < ((m + 1) : Int) := by omega
  have hcn := hc1.ne
  have hcn2 := hcn.symm
  clear hc1
  go_wp2_with (fail)
  go_cut [6] (fun s6 wx => s6 = .int .i64 m ∧ Mid w1 cb g mb (m + 1) cap1 N1 m key n A e y room hits misses wx)
  case first =>
    go_region_held3 (fun w' => w'.cell? ⟨cb, 0, none⟩ = some (.slice (some ⟨g, 0, none⟩) (m + 1) cap1) ∧ w'.cell? ⟨cb, 0, none⟩ = some (.slice (some ⟨g, 0, none⟩) (m + 1) cap1)) (first | exact ⟨by assumption, by assumption⟩ | exact ⟨f0, f0⟩ | (simp [go_sem, hcn, f0]; done) | go_keep)
      (first | (go_at_call 70; refine (clone_calls (A := A) _ ?_ (by omega)).mono ?_; (first | exact hA1.drew | exact hA1k); rintro e w3 ⟨vo, vc, rfl, ho3, hb3⟩; (first | have hcm3 := HC1.out.drew.below hb3 | have hcm3 := HCk.out.drew.below hb3); obtain ⟨c03, c13, c23, c33⟩ := hcm3.cells him1; have nf3 := hcm3.n.free; have g03 := hcm3.f.f0))
    all_goals (go_wp2_with fail; go_meet)
    all_goals exact ⟨rfl, by first | exact mid_a him1 hcm3 hb3 hbn21 ho3 | exact mid_b him1 hcm3 hb3 hbn21 ho3 | exact mid_c him1 hcm3 hb3 hbn21 ho3⟩
  case rest =>
    obtain ⟨rfl, vo, vc, N2, hcm, hN2, hN2', hown, hkk⟩ := hcut
    have hcbm := H1.out.cm
    have hmbl := H1.out.bm
    have hmc : MapSI wc mb sz f := H1.out.mp.stay (hkk.block mb hmbl.2 hmn1)
    have hwf : (Lit.int .i64 (m : Int)).wf = true := WalkArith.wf_i64 (by omega)
    clear c0 c1 c2 c3 f0 f1 f2 f3 f4 f5 f6 ff nf
    have f1 := hcm.f.f1
    go_wp2_with (with_reducible show wpList _ _ _ (⟨_, .mapUpdate _ _ _ _, _, _, _, _⟩ :: _) _ _; refine wpList_si_put rfl _ _ _ rfl rfl hmc rfl hkl rfl hwf (by unfold maxLen; omega) ?_)
    intro w3 hmp3 hgr3
    try simp only [hf, Option.isSome_none, Bool.false_eq_true, if_false] at hmp3
    have K3 : Keeps (fun k => k = mb) wc w3 := (Keeps.refl _ _).grown hgr3 fun k hk _ => by simp at hk; exact hk.symm
    have hszc : w1.heap.size ≤ wc.heap.size := hkk.size
    have hc3 : CMem w3 cb g mb (m + 1) cap1 N2 e y room hits misses := hcm.stay (K3.block cb hcm.lt hcbm) (K3.block g hcm.n.lt (fun e => hmn1 e.symm))
    have hown3 : Own w3 w1.heap.size (.slice vo n vc) A := hown.stay fun k h1 h2 => K3.block k h2 (by omega)
    have h3 := H1.out.reput him1 hni (Nat.le_refl _) (Nat.le_trans hszc K3.size) hc3 hN2 hN2' hmp3 (fun k h1 h2 h3 => (K3.block k (by omega) h3).trans (hkk.block k h1 h2)) hown3 hmn1 ⟨hbn1, hbn21⟩ hkl
    have hsz3 : w1.heap.size ≤ w3.heap.size := Nat.le_trans hszc K3.size
    have hK3 : Hid (Keeps (Ft cb mb no) w w3) := Lib.hid ((HK1.out.then hkk (fun k hk0 hk => by rcases hno with h | h; exact .inr (.inr (by rw [hk]; exact h)); omega)).then K3 fun k _ hk => .inr (.inl hk))
    have H3 := Lib.hid h3
    have hpy : Pl (m + 1) y := by rw [H1.out.ch.y_]; exact lstD_pl H1.out.lt
    have hyi : y ≠ (m : Int) := by
      rw [H1.out.ch.y_]
      intro e2
      rcases nil_or_snoc (ord) with e | ⟨l', x, e⟩
      · rw [e, lstD_nil] at e2; omega
      · rw [e, lstD_snoc] at e2
        exact hni (by rw [e]; simp; omega)
    clear h3 hmc f1 hmp3 hgr3
    go_wp2_with (fail)
    refine (link_calls _ hc3 m him1 hpy hyi).mono ?_
    rintro en w4 ⟨rfl, hc4, hk4⟩
    have hlt4 : ∀ k ∈ ord ++ [m], k < (m + 1) := by
      intro k hk
      rcases List.mem_append.1 hk with h | h
      · exact H1.out.lt k h
      · simp at h; omega
    have h4 := H3.out.relink (Nat.le_refl _) hmn1 ⟨hbn1, by omega⟩ hc4 hk4 (lnkN_held N2 m y) (H3.out.ch.link hni) hlt4
    have HH : ∀ j, (lnkN N2 m y j).key = (N2 j).key := fun j => by have := lnkN_held N2 m y j; simp only [Nd.held, Prod.mk.injEq] at this; exact this.1
    go_wp2_with (fail)
    go_end0
    refine ⟨rfl, g, _, _, _, _, h4.up hk4.size, fun j hj => ?_, ?_, ?_, hno⟩
    · rw [HH, hN2' j hj]; exact HKEY j hj
    · rw [HH, hN2]
    · exact hK3.out.then hk4 fun k hkl' hk => by
        rcases hk with h | h
        · exact .inl h
        · rcases hno with h' | h'
          · exact .inr (.inr (by rw [h', h]))
          · omega

set_option maxRecDepth 100000 in
set_option maxHeartbeats 4000000 in
theorem put_evict {i sz1 : Nat} {post : List Nat} {fv : ByteArray → Option Int} (h : CSt w base w.heap.size cb mb no m cap N e y room hits misses (i :: post) sz f R) (key : ByteArray) (hkl : key.size ≤ maxLen) (hroom : 0 < room)
    {ao : Option Addr} {n c : Nat} {A : List Int} (hA : SlI w ao n c A) (hAo : ∀ ad, ao = some ad → 0 < n → ad.block < w.heap.size ∧ ¬ Ft cb mb no ad.block) (hlim : n ≤ 1048576) (hsz : sz < 1048576) (hf : f key = none) (hsr : room ≤ (sz : Int)) (hfk : (f (N i).key).isSome = true) (hfv : (fun t => if t = (N i).key then none else f t) = fv) (hs1 : sz - 1 = sz1) :
    Calls Tryz.prog 119 #[.pointer (some ⟨cb, 0, none⟩), .string key, .slice ao n c] w fun en w' => en = .returned (.tuple #[]) ∧ PutOK w base cb mb no N room hits misses i key m (post ++ [i]) (sz1 + 1) (fun t => if t = key then some (i : Int) else fv t) (upd R i A) w' := by
  have him1 : i < m := h.lt i (by simp)
  obtain ⟨nb, rfl, hc, hmn, hbn, hbn2⟩ := h.cmem (by omega)
  have hni : i ∉ post := (List.nodup_cons.1 h.ch.nd).1
  have hfv0 : fv key = none := by rw [← hfv]; simp [hf]
  obtain ⟨f0, f1, f2, f3, f4, f5, f6, ff⟩ := id h.fl
  have hmp := h.mp
  have hr1 : (room == 0) = false := by simp; omega
  have HC := Lib.hid h
  clear h hc
  go_enter Tryz.func119, Tryz.ntmps119
  go_wp2_with (with_reducible show wpList _ _ _ (⟨_, .lookup _ _ _ _, _, _, _, _⟩ :: _) _ _; refine wpList_si_ok rfl _ _ rfl rfl hmp rfl hkl ?_; rw [hf])
  refine (free_old HC.out hsr hfk).mono ?_
  rintro en w1 ⟨rfl, N1, e1, y1, h1, hheld, hk1⟩
  rw [hfv, hs1] at h1
  have H1 := Lib.hid h1
  have HK1 := Lib.hid hk1
  have hno : At (some (⟨nb, 0, none⟩ : Addr)) nb w.heap.size := .inl rfl
  have HKEY : ∀ j, j ≠ i → (N1 j).key = (N j).key := fun j _ => by have := hheld j; simp only [Nd.held, Prod.mk.injEq] at this; exact this.1
  have hsz0 : sz1 < 1048576 := by omega
  clear hs1
  clear h1 hk1 hheld f0 f1 f2 f3 f4 f5 f6 ff hmp hfv
  obtain ⟨hc1, hmn1, hbn1, hbn21⟩ := H1.out.cmem' (by omega)
  have hA1 : SlI w1 ao n c A := hA.keep0 fun ad e h0 => HK1.out.block _ (hAo ad e h0).1 (hAo ad e h0).2
  have hne1 : ∀ ad, ao = some ad → 0 < n → ad.block ≠ nb := by
    intro ad e h0 e2
    rcases hno with h | h
    · exact (hAo ad e h0).2 (.inr (.inr (by rw [h, e2])))
    · have := (hAo ad e h0).1
      omega
  have hA1k : SlI (w1.setCell ⟨nb, i * 4, none⟩ (.string key)).drew ao n c A := hA1.keep0 fun ad e h0 => heap_set_other (hne1 ad e h0)
  have HC1 := Lib.hid hc1
  have HCk := Lib.hid (hc1.setKey him1 key)
  obtain ⟨c0, c1, c2, c3⟩ := hc1.cells him1
  obtain ⟨f0, f1, f2, f3, f4, f5, f6, ff⟩ := id hc1.f
  have nf := hc1.n.free
  have hle1 := hc1.n.le
  have hmax1 := hc1.n.max
  unfold maxLen at hmax1
  have him2 : (i : Int) < (m : Int) := by omega
  have hcn := hc1.ne
  have hcn2 := hcn.symm
  clear hc1
  go_wp2_with (fail)
  go_cut [6] (fun s6 wx => s6 = .int .i64 i ∧ Mid w1 cb nb mb m cap N1 i key n A e1 y1 room hits misses wx)
  case first =>
    go_region_held3 (fun w' => w'.cell? ⟨cb, 0, none⟩ = some (.slice (some ⟨nb, 0, none⟩) m cap) ∧ w'.cell? ⟨cb, 0, none⟩ = some (.slice (some ⟨nb, 0, none⟩) m cap)) (first | exact ⟨by assumption, by assumption⟩ | exact ⟨f0, f0⟩ | (simp [go_sem, hcn, f0]; done) | go_keep)
      (first | (go_at_call 70; refine (clone_calls (A := A) _ ?_ (by omega)).mono ?_; (first | exact hA1.drew | exact hA1k); rintro e w3 ⟨vo, vc, rfl, ho3, hb3⟩; (first | have hcm3 := HC1.out.drew.below hb3 | have hcm3 := HCk.out.drew.below hb3); obtain ⟨c03, c13, c23, c33⟩ := hcm3.cells him1; have nf3 := hcm3.n.free; have g03 := hcm3.f.f0))
    all_goals (go_wp2_with fail; go_meet)
    all_goals exact ⟨rfl, by first | exact mid_a him1 hcm3 hb3 hbn21 ho3 | exact mid_b him1 hcm3 hb3 hbn21 ho3 | exact mid_c him1 hcm3 hb3 hbn21 ho3⟩
  case rest =>
    obtain ⟨rfl, vo, vc, N2, hcm, hN2, hN2', hown, hkk⟩ := hcut
    have hcbm := H1.out.cm
    have hmbl := H1.out.bm
    have hmc : MapSI wc mb sz1 fv := H1.out.mp.stay (hkk.block mb hmbl.2 hmn1)
    have hwf : (Lit.int .i64 (i : Int)).wf = true := WalkArith.wf_i64 (by omega)
    clear c0 c1 c2 c3 f0 f1 f2 f3 f4 f5 f6 ff nf
    have f1 := hcm.f.f1
    go_wp2_with (with_reducible show wpList _ _ _ (⟨_, .mapUpdate _ _ _ _, _, _, _, _⟩ :: _) _ _; refine wpList_si_put rfl _ _ _ rfl rfl hmc rfl hkl rfl hwf (by unfold maxLen; omega) ?_)
    intro w3 hmp3 hgr3
    try simp only [hfv0, Option.isSome_none, Bool.false_eq_true, if_false] at hmp3
    have K3 : Keeps (fun k => k = mb) wc w3 := (Keeps.refl _ _).grown hgr3 fun k hk _ => by simp at hk; exact hk.symm
    have hszc : w1.heap.size ≤ wc.heap.size := hkk.size
    have hc3 : CMem w3 cb nb mb m cap N2 e1 y1 room hits misses := hcm.stay (K3.block cb hcm.lt hcbm) (K3.block nb hcm.n.lt (fun e => hmn1 e.symm))
    have hown3 : Own w3 w1.heap.size (.slice vo n vc) A := hown.stay fun k h1 h2 => K3.block k h2 (by omega)
    have h3 := H1.out.reput him1 hni (Nat.le_refl _) (Nat.le_trans hszc K3.size) hc3 hN2 hN2' hmp3 (fun k h1 h2 h3 => (K3.block k (by omega) h3).trans (hkk.block k h1 h2)) hown3 hmn1 ⟨hbn1, hbn21⟩ hkl
    have hsz3 : w1.heap.size ≤ w3.heap.size := Nat.le_trans hszc K3.size
    have hK3 : Hid (Keeps (Ft cb mb (some ⟨nb, 0, none⟩)) w w3) := Lib.hid ((HK1.out.then hkk (fun k _ hk => .inr (.inr (by rw [hk])))).then K3 fun k _ hk => .inr (.inl hk))
    have H3 := Lib.hid h3
    have hpy : Pl m y1 := by rw [H1.out.ch.y_]; exact lstD_pl H1.out.lt
    have hyi : y1 ≠ (i : Int) := by
      rw [H1.out.ch.y_]
      intro e2
      rcases nil_or_snoc (post) with e | ⟨l', x, e⟩
      · rw [e, lstD_nil] at e2; omega
      · rw [e, lstD_snoc] at e2
        exact hni (by rw [e]; simp; omega)
    clear h3 hmc f1 hmp3 hgr3
    go_wp2_with (fail)
    refine (link_calls _ hc3 i him1 hpy hyi).mono ?_
    rintro en w4 ⟨rfl, hc4, hk4⟩
    have hlt4 : ∀ k ∈ post ++ [i], k < m := by
      intro k hk
      rcases List.mem_append.1 hk with h | h
      · exact H1.out.lt k h
      · simp at h; omega
    have h4 := H3.out.relink (Nat.le_refl _) hmn1 ⟨hbn1, by omega⟩ hc4 hk4 (lnkN_held N2 i y1) (H3.out.ch.link hni) hlt4
    have HH : ∀ j, (lnkN N2 i y1 j).key = (N2 j).key := fun j => by have := lnkN_held N2 i y1 j; simp only [Nd.held, Prod.mk.injEq] at this; exact this.1
    go_wp2_with (fail)
    go_end0
    refine ⟨rfl, nb, _, _, _, _, h4.up hk4.size, fun j hj => ?_, ?_, ?_, hno⟩
    · rw [HH, hN2' j hj]; exact HKEY j hj
    · rw [HH, hN2]
    · exact hK3.out.then hk4 fun k hkl' hk => by
        rcases hk with h | h
        · exact .inl h
        · rcases hno with h' | h'
          · exact .inr (.inr (by rw [h', h]))
          · omega
end

end Go.Proofs.YtimkkkdabmhedaaGreatDoor
