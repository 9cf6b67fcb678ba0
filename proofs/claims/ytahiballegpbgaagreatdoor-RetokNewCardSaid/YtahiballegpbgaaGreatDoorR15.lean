/- Walks: the chain's look where there is a place to the right. -/
import Derived.Test.YtahiballegpbgaaGreatDoorR14
import Derived.Deep.RegionHeld3
import Derived.Deep.RegionWith
set_option linter.unusedVariables false
set_option maxHeartbeats 4000000
set_option maxRecDepth 100000
namespace Go.Proofs.YtahiballegpbgaaGreatDoor
open Go.RowKit Go.ChangeMaps
def Ge (w w':World):Prop:=Below w.heap.size w w'
theorem Ge.refl (w:World):Ge w w:=Below.refl _ _
theorem Ge.at (w w':World) (h:Ge w w') {p:Addr} {u:Value} (hc:w.cell? p=some u):w'.cell? p=some u:=eA h p u hc
theorem Ge.drew {w W:World} (h:Ge w W):Ge w W.drew:=Below.drew h
theorem Ge.drewN {w W:World} (h:Ge w W) (k:Nat):Ge w (W.drewN k):=bA h k
theorem Ge.below {w W W':World} (h:Ge w W) (hb:Below W.heap.size W W'):Ge w W':=Below.trans h (hb.mono h.size)
theorem Ge.alloc {w W:World} (h:Ge w W) (o:Obj):Ge w (W.alloc o):=h.below (aA W o)
theorem Ge.set {w W:World} (h:Ge w W) {b:Nat} (hb:w.heap.size<=b) (i:Nat) (u:Value):Ge w (W.setCell ⟨b,i,none⟩ u):=Below.setCell h hb u
theorem Ge.set4 {w W:World} (h:Ge w W) {b:Nat} (hb:w.heap.size<=b) (i1 i2 i3 i4:Nat) (u1 u2 u3 u4:Value):Ge w ((((W.setCell ⟨b,i1,none⟩ u1).setCell ⟨b,i2,none⟩ u2).setCell ⟨b,i3,none⟩ u3).setCell ⟨b,i4,none⟩ u4):=((((h.set hb _ _).set hb _ _).set hb _ _).set hb _ _)
def ZM:Obj:= .cells #[.int .i64 0, .int .i64 0, .int .i64 0, .int .i64 0] 170
theorem set4Z {w:World} {g:Nat} (h:w.heap[g]?=some ZM) (m:Mg):((((w.setCell ⟨g,0,none⟩ (.int .i64 m.left)).setCell ⟨g,1,none⟩ (.int .i64 m.right)).setCell ⟨g,2,none⟩ (.int .i64 m.out)).setCell ⟨g,3,none⟩ (.int .i64 m.order)).heap[g]?=some (.cells #[.int .i64 m.left, .int .i64 m.right, .int .i64 m.out, .int .i64 m.order] 170):=by
 simp[World.setCell,Array.getElem?_modify,h,ZM]
theorem find_at {W0:World} {c:Cx} {M:List Mg} (hT:Tb W0 c M) {w:World} (hb:Below c.base W0 w) {a b:Int} (ha:(Lit.int .i64 a).wf=true) (hbw:(Lit.int .i64 b).wf=true) (W:World) (hW:Ge w W):
  Calls Tryz.prog 187 #[.pointer (some ⟨c.pg,0,none⟩), .int .i64 a, .int .i64 b] W fun e w'=>(∃m,e= .returned (.tuple #[.agg #[.int .i64 m.left, .int .i64 m.right, .int .i64 m.out, .int .i64 m.order], .bool (dD M a b).isSome])/\∀m',dD M a b=some m'->m=m')/\Below W.heap.size W w'/\Ge w w':=by
 obtain⟨pb,ht⟩:=hT.tab;have h1:=ht.below (w':=w) (by rw[<-hT.base];exact hb);refine(aBq a b W (h1.below hW) hT.parts hT.len ha hbw).mono ?_
 rintro e w' ⟨h2,h3⟩;exact⟨h2,h3,hW.below h3⟩
theorem cS {w W w2:World} {c:Cx} {va v2:Value} {Rw Lf Rt:List Int} {L L2:List Ent} {p:Nat} {o:Option (Int×Int)} (h:ChV w c va Rw Lf Rt L) (hW:Ge w W) (hA:AgV w2 c.base c.g c.mb v2 L2) (hg:∀x,agL L2 x=if x=(p:Int)then o else agL L x) (hl:L2.length<=L.length+1) (hT:Trod W w2 c.g c.mb va v2):
  pV w c va Rw Lf Rt L p o (.returned (.tuple #[])) w2:=by
 have h1:=h.below hW;exact⟨rfl,v2,L2,h1.turn hA hT,hg,hl,(Trod.of hW).trans hT⟩
theorem aDC {W0:World} {c:Cx} {M:List Mg} {va:Value} {Rw Lf Rt:List Int} {L:List Ent} (p q:Nat) (a b:Int) (w:World) (hT:Tb W0 c M) (hb:Below c.base W0 w) (h:ChV w c va Rw Lf Rt L) (hn:c.n<=1048576) (hL:L.length+1<=1048576)
  (hp:p<c.n) (hq:q<c.n) (hr:Rt[p]?=some (q:Int)) (ha:Rw[p]?=some a) (hbq:Rw[q]?=some b) (haw:(Lit.int .i64 a).wf=true) (hbw:(Lit.int .i64 b).wf=true):
  Calls Tryz.prog 189 #[.pointer (some ⟨c.kb,0,none⟩), .int .i64 p] w (pV w c va Rw Lf Rt L p ((dD M a b).map (fun m=>(m.order,m.out)))):=by
 have HF:=hW_ (find_at hT hb haw hbw);have HG:Hid (∀W,Below (w.alloc ZM).heap.size (w.alloc ZM) W->Calls Tryz.prog 187 #[.pointer (some ⟨c.pg,0,none⟩), .int .i64 a, .int .i64 b] W fun e w'=>(∃m,e= .returned (.tuple #[.agg #[.int .i64 m.left, .int .i64 m.right, .int .i64 m.out, .int .i64 m.order], .bool (dD M a b).isSome])/\∀m',dD M a b=some m'->m=m')/\Below W.heap.size W w'/\Ge w w'/\w'.heap[w.heap.size]?=some ZM):=hW_ (fun W hW=>(HF.out W ((aA w _).trans (hW.mono (aA w _).size))).mono (by
  rintro e w' ⟨h1,h2,h3⟩;refine⟨h1,h2,h3,(h2.block _ (Nat.lt_of_lt_of_le (by simp) hW.size)).trans ((hW.block _ (by simp)).trans (heap_alloc_new w _))⟩))
 obtain⟨b0,b1,b2,b3,b4⟩:=h.cells;have t0:=h.right.cell hr;have r0:=h.row.cell ha;have r1:=h.row.cell hbq;have G0:=fun w' (hg:Ge w w')=>hg.at w w' b0
 have G2:=fun w' (hg:Ge w w')=>hg.at w w' b2
 have G3:=fun w' (hg:Ge w w')=>hg.at w w' b3
 have G4:=fun w' (hg:Ge w w')=>hg.at w w' r0
 have G5:=fun w' (hg:Ge w w')=>hg.at w w' r1
 have G6:=fun w' (hg:Ge w w')=>hg.at w w' t0
 have G7:=fun w' (hg:Ge w w')=>hg.at w w' b4
 have gr:=Ge.refl w;have gp:(p:Int)<(c.n:Int):=by omega
 have gp0:(0:Int)<=(p:Int):=by omega
 have gq:(q:Int)<(c.n:Int):=by omega
 have gq0:(0:Int)<=(q:Int):=by omega
 have gn:¬(p:Int)= -1:=by omega
 have gm:¬(q:Int)= -1:=by omega
 have HD:Hid (∀W,Ge w W->Calls Tryz.prog 218 #[.pointer (some ⟨c.g,0,none⟩), .int .i64 p] W (DropP W c.base c.g c.mb va L p)):=hW_ (fun W hW=>aI (p:Int) W (h.ag.below hW) (by omega));have HPU:Hid (∀W (o d:Int),Ge w W->Calls Tryz.prog 217 #[.pointer (some ⟨c.g,0,none⟩), .agg #[.int .i64 p, .int .i64 o, .int .i64 d]] W (PutP W c.base c.g c.mb va L ⟨p,o,d⟩)):=hW_ (fun W o d hW=>aBG ⟨p,o,d⟩ W (h.ag.below hW) (by simp only;omega) hL (Nat.le_trans h.base hW.size));have H:=hW_ h;clear h hp hq hr ha hbq haw hbw hb hT;obtain⟨base,n,kb,g,mb,rb,lb,tb,rc,lc,tc,pg⟩:=c;simp only at *
 cases hf:dD M a b with
 | none=>
  rw[hf]at HF HG;simp only[Option.isSome_none]at HF HG;go_enter Tryz.func189,Tryz.ntmps189;go_wp2_with (fail);clear b0 b1 b2 b3 b4 t0 r0 r1
  go_region_held3 (Ge w) (first | (with_reducible assumption) | (with_reducible refine Ge.drew ?_;with_reducible assumption) | (with_reducible refine Ge.alloc ?_ _;with_reducible assumption) | (with_reducible refine Ge.alloc (Ge.drew ?_) _;with_reducible assumption) | (with_reducible refine Ge.drew (Ge.alloc ?_ _);with_reducible assumption) | (with_reducible refine Ge.set4 ?_ (Nat.le_refl _) _ _ _ _ _ _ _ _;with_reducible assumption) | (with_reducible refine Ge.set4 (Ge.drew ?_) (Nat.le_refl _) _ _ _ _ _ _ _ _;with_reducible assumption) | (with_reducible refine Ge.drew (Ge.set4 ?_ (Nat.le_refl _) _ _ _ _ _ _ _ _);with_reducible assumption) | (with_reducible refine Ge.drewN ?_ _;with_reducible assumption)) (first
   | (go_at_call 187;refine(HF.out _ (by exact bA (Below.refl _ _) _)).mono ?_;rintro e w9 ⟨⟨m,rfl,hm⟩,hb9,hg9⟩;have HB9:=hW_ hb9;have HM:=hW_ hm;clear hb9 hm)
   | (go_at_call 187;refine(HG.out _ (by exact bA (Below.refl _ _) _)).mono ?_;rintro e w9 ⟨⟨m,rfl,hm⟩,hb9,hg9,hz9⟩;obtain⟨z0,z1,z2,z3⟩:=fH hz9;have zf:∀o,w9.frozen? ⟨w.heap.size,o,none⟩=false:=(fun o=>by simp[World.frozen?,hz9,ZM]);have HB9:=hW_ hb9;have HM:=hW_ hm;have HZ:=hW_ hz9;clear hb9 hm hz9))
  all_goals(
   go_wp2_with (fail);go_at_call 218;refine(HD.out _ (by with_reducible assumption)).mono ?_
   rintro e w2 ⟨⟨t,rfl⟩,v2,L2,hA2,hg2,hl2,hT2⟩;have HA2:=hW_ hA2;have HG2:=hW_ hg2;have HL2:=hW_ hl2;have HT2:=hW_ hT2;clear hA2 hg2 hl2 hT2;go_wp2_with (fail)
   go_end0
   exact cS H.out (by with_reducible assumption) HA2.out HG2.out (Nat.le_succ_of_le HL2.out) HT2.out)
 | some m0=>
  rw[hf]at HF HG;simp only[Option.isSome_some]at HF HG;go_enter Tryz.func189,Tryz.ntmps189;go_wp2_with (fail);clear b0 b1 b2 b3 b4 t0 r0 r1
  go_region_held3 (Ge w) (first | (with_reducible assumption) | (with_reducible refine Ge.drew ?_;with_reducible assumption) | (with_reducible refine Ge.alloc ?_ _;with_reducible assumption) | (with_reducible refine Ge.alloc (Ge.drew ?_) _;with_reducible assumption) | (with_reducible refine Ge.drew (Ge.alloc ?_ _);with_reducible assumption) | (with_reducible refine Ge.set4 ?_ (Nat.le_refl _) _ _ _ _ _ _ _ _;with_reducible assumption) | (with_reducible refine Ge.set4 (Ge.drew ?_) (Nat.le_refl _) _ _ _ _ _ _ _ _;with_reducible assumption) | (with_reducible refine Ge.drew (Ge.set4 ?_ (Nat.le_refl _) _ _ _ _ _ _ _ _);with_reducible assumption) | (with_reducible refine Ge.drewN ?_ _;with_reducible assumption)) (first
   | (go_at_call 187;refine(HF.out _ (by exact bA (Below.refl _ _) _)).mono ?_;rintro e w9 ⟨⟨m,rfl,hm⟩,hb9,hg9⟩;have HB9:=hW_ hb9;have HM:=hW_ hm;clear hb9 hm)
   | (go_at_call 187;refine(HG.out _ (by exact bA (Below.refl _ _) _)).mono ?_;rintro e w9 ⟨⟨m,rfl,hm⟩,hb9,hg9,hz9⟩;obtain⟨z0,z1,z2,z3⟩:=fH hz9;have zf:∀o,w9.frozen? ⟨w.heap.size,o,none⟩=false:=(fun o=>by simp[World.frozen?,hz9,ZM]);have HB9:=hW_ hb9;have HM:=hW_ hm;have HZ:=hW_ hz9;clear hb9 hm hz9))
  ·obtain rfl:=HM.out m0 rfl;have hW0:Ge w (w9.alloc (.cells #[.int .i64 m.left, .int .i64 m.right, .int .i64 m.out, .int .i64 m.order] 170)):=by with_reducible assumption
   have hx4:=heap_alloc_new w9 (.cells #[.int .i64 m.left, .int .i64 m.right, .int .i64 m.out, .int .i64 m.order] 170);obtain⟨W4,hW4⟩:∃W4,w9.alloc (.cells #[.int .i64 m.left, .int .i64 m.right, .int .i64 m.out, .int .i64 m.order] 170)=W4:=⟨_,rfl⟩;rw[hW4]at hx4 hW0 |-;have k4:=G7 W4 hW0;obtain⟨_,_,m2,m3⟩:=fH hx4;clear hx4 hW4 G0 G2 G3 G4 G5 G6 G7;go_wp2_with (fail)
   go_region_with (go_at_call 217;refine(HPU.out _ _ _ (by exact Ge.drewN hW0 _)).mono ?_;rintro e w5 ⟨rfl,v5,L5,hA5,hg5,hl5,hT5⟩;have HA5:=hW_ hA5;have HG5:=hW_ hg5;have HL5:=hW_ hl5;have HT5:=hW_ hT5;clear hA5 hg5 hl5 hT5)
   all_goals(
    go_wp2_with (fail);refine bodyPost_ret (results_none rfl _ _ _) rfl ?_
    exact cS H.out (by exact Ge.drewN hW0 _) HA5.out HG5.out HL5.out HT5.out)
  ·obtain rfl:=HM.out m0 rfl;have hW0:Ge w ((((w9.setCell ⟨w.heap.size,0,none⟩ (.int .i64 m.left)).setCell ⟨w.heap.size,1,none⟩ (.int .i64 m.right)).setCell ⟨w.heap.size,2,none⟩ (.int .i64 m.out)).setCell ⟨w.heap.size,3,none⟩ (.int .i64 m.order)):=by with_reducible assumption
   have hx4:=set4Z HZ.out m;obtain⟨W4,hW4⟩:∃W4,(((w9.setCell ⟨w.heap.size,0,none⟩ (.int .i64 m.left)).setCell ⟨w.heap.size,1,none⟩ (.int .i64 m.right)).setCell ⟨w.heap.size,2,none⟩ (.int .i64 m.out)).setCell ⟨w.heap.size,3,none⟩ (.int .i64 m.order)=W4:=⟨_,rfl⟩;rw[hW4]at hx4 hW0 |-;have k4:=G7 W4 hW0;obtain⟨_,_,m2,m3⟩:=fH hx4;clear hx4 hW4 G0 G2 G3 G4 G5 G6 G7;go_wp2_with (fail)
   go_region_with (go_at_call 217;refine(HPU.out _ _ _ (by exact Ge.drewN hW0 _)).mono ?_;rintro e w5 ⟨rfl,v5,L5,hA5,hg5,hl5,hT5⟩;have HA5:=hW_ hA5;have HG5:=hW_ hg5;have HL5:=hW_ hl5;have HT5:=hW_ hT5;clear hA5 hg5 hl5 hT5)
   all_goals(
    go_wp2_with (fail);refine bodyPost_ret (results_none rfl _ _ _) rfl ?_
    exact cS H.out (by exact Ge.drewN hW0 _) HA5.out HG5.out HL5.out HT5.out)
end Go.Proofs.YtahiballegpbgaaGreatDoor
