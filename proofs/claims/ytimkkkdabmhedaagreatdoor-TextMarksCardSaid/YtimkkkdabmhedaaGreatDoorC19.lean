/- Walks: the pile's methods: Len, Less, Swap. -/
import Derived.Test.YtimkkkdabmhedaaGreatDoorC18
import Derived.BigRegion
import Derived.Test.YtimkkkdabmhedaaGreatDoorC15
import Derived.Deep.RegionHeld3
set_option linter.unusedVariables false
set_option maxHeartbeats 1000000
set_option maxRecDepth 100000
namespace Go.Proofs.YtimkkkdabmhedaaGreatDoor
open Go.RowKit
def Ent.enc (e:Ent):List Value:=[.int .i64 e.place, .int .i64 e.order, .int .i64 e.out]
theorem Ent.enc_len (e:Ent):e.enc.length=3:=rfl
theorem Ent.enc_one (e:Ent):∀v∈e.enc,v.oneCell'=true:=by
 intro v hv
 simp[Ent.enc]at hv
 rcases hv with rfl | rfl | rfl<;>rfl
theorem infoEnt:(Tryz.prog.info? 186).map (fun i=>(i.zero.map (·.cells.size),i.size,i.bytes))=some (some 3,3,24):=by kernel_rfl
noncomputable def iV:KeyView Tryz.prog 3 Int:=intView Tryz.underlying3
theorem zeroI (w:World):(zeroValue 3).run Tryz.prog w= .ok (.int .i64 0) w:=by kernel_rfl
structure PileV (w:World) (base g mb:Nat) (v:Value) (L:List Ent):Prop where
 box:w.heap[g]?=some (.cells #[v, .map (some mb)] 214)
 row:OwnF Ent.enc 3 186 w base v L
 at_:MapK iV 3 w mb L.length (atL L)
 once:Once L
 ok:∀e∈L,-9223372036854775808≤e.place∧e.place≤9223372036854775807
 far:∀q,v.ownBlock=some q→q≠g∧q≠mb
 lo:base≤g∧base≤mb∧g≠mb
 small:L.length≤1048576
theorem box2p {w:World} {g:Nat} {a b:Value} {t:TypeId} (h:w.heap[g]?=some (.cells #[a,b] t)):w.cell? ⟨g,0,none⟩=some a∧w.cell? ⟨g,1,none⟩=some b∧∀o,w.frozen? ⟨g,o,none⟩=false:=by
 simp[World.cell?,World.frozen?,h]
theorem PileV.stay {w w':World} {base g mb:Nat} {v:Value} {L:List Ent} (h:PileV w base g mb v L) (hk:∀q,q<w.heap.size→w'.heap[q]?=w.heap[q]?):PileV w' base g mb v L:=
 ⟨(hk _ (Array.getElem?_eq_some_iff.1 h.box).1).trans h.box,own_stay h.row (fun q hq=>hk q (World.ownsRow.lt h.row q hq).2),h.at_.stay (hk _ h.at_.lt),h.once,h.ok,h.far,h.lo,h.small⟩
theorem PileV.below {w w':World} {base g mb:Nat} {v:Value} {L:List Ent} (h:PileV w base g mb v L) (hb:Below w.heap.size w w'):PileV w' base g mb v L:=h.stay (fun q hq=>hb.block q hq)
theorem pileLen_calls {base g mb:Nat} {v:Value} {L:List Ent} (w:World) (h:PileV w base g mb v L):
  Calls Tryz.prog 174 #[.pointer (some ⟨g,0,none⟩)] w fun e w'=>e= .returned (.int .i64 L.length)∧w=w':=by
 obtain⟨ro,rc,rfl,_⟩:=h.row.sl
 obtain⟨b0,b1,bf⟩:=box2p h.box
 clear h
 generalize L.length=n at *
 go_enter Tryz.func174,Tryz.ntmps174
 go_wp2_with (fail)
 go_ret
 exact⟨rfl,rfl⟩
theorem below_two {w:World} (x y:Obj):Below w.heap.size w ((w.alloc x).alloc y).drew:=
 ((below_alloc w x).trans (Below.mono (below_alloc _ y) (below_alloc w x).size)).drew
theorem pileLess_calls {base g mb:Nat} {v:Value} {L:List Ent} (i j:Nat) (w:World) (h:PileV w base g mb v L) (hi:i<L.length) (hj:j<L.length):
  Calls Tryz.prog 212 #[.pointer (some ⟨g,0,none⟩), .int .i64 i, .int .i64 j] w fun e w'=>e= .returned (.bool ((en L i).less (en L j)))∧Below w.heap.size w w':=by
 obtain⟨ro,rc,rfl,hsl⟩:=h.row.sl
 obtain⟨b0,b1,bf⟩:=box2p h.box
 obtain⟨b,o,hao,hci⟩:=hsl.elem Ent.enc_len (by omega) (en_eq hi)
 obtain⟨b',o',hao',hcj⟩:=hsl.elem Ent.enc_len (by omega) (en_eq hj)
 subst hao
 simp only[Option.some.injEq,Addr.mk.injEq,and_true]at hao'
 obtain⟨rfl,rfl⟩:=hao'
 have hsm:=h.small
 obtain⟨x,hx⟩:∃x,en L i=x:=⟨_,rfl⟩
 obtain⟨y,hy⟩:∃y,en L j=y:=⟨_,rfl⟩
 rw[hx]at hci ⊢
 rw[hy]at hcj ⊢
 have d0:=hci 0 _ rfl
 have d1:=hci 1 _ rfl
 have d2:=hci 2 _ rfl
 have e0:=hcj 0 _ rfl
 have e1:=hcj 1 _ rfl
 have e2:=hcj 2 _ rfl
 rw[Nat.add_zero]at d0 e0
 have gi:(i:Int)<(L.length:Int):=by omega
 have gj:(j:Int)<(L.length:Int):=by omega
 have gi0:(0:Int)≤(i:Int):=by omega
 have gj0:(0:Int)≤(j:Int):=by omega
 have HL:Hid (x.less y=(decide (x.order<y.order) || (decide (x.order=y.order) && decide (x.place<y.place)))):=Lib.hid rfl
 obtain⟨n,hn⟩:∃n,L.length=n:=⟨_,rfl⟩
 rw[hn]at gi gj b0 hsm
 clear h hsl hci hcj hx hy hi hj hn
 go_enter Tryz.func212,Tryz.ntmps212
 go_wp2_with (fail)
 go_region_held3 (fun w'=>w'.cell? ⟨g,0,none⟩=some (.slice (some ⟨b,o,none⟩) n rc)∧w'.cell? ⟨b,o+i*3,none⟩=some (.int .i64 x.place)∧w'.cell? ⟨b,o+i*3+1,none⟩=some (.int .i64 x.order)∧w'.cell? ⟨b,o+i*3+2,none⟩=some (.int .i64 x.out)∧w'.cell? ⟨b,o+j*3,none⟩=some (.int .i64 y.place)∧w'.cell? ⟨b,o+j*3+1,none⟩=some (.int .i64 y.order)∧w'.cell? ⟨b,o+j*3+2,none⟩=some (.int .i64 y.out)) (first | assumption | go_keep) (fail)
 all_goals
  by_cases h1:x.order<y.order
  ·go_wp2_with (fail)
   go_ret
   exact⟨by rw[HL.out];simp[h1],by exact below_two _ _⟩
  ·by_cases h2:x.order=y.order
   ·by_cases h3:x.place<y.place
    ·go_wp2_with (fail)
     go_ret
     exact⟨by rw[HL.out];simp[h2,h3],by exact below_two _ _⟩
    ·go_wp2_with (fail)
     go_ret
     exact⟨by rw[HL.out];simp[h2,h3],by exact below_two _ _⟩
   ·go_wp2_with (fail)
    go_ret
    exact⟨by rw[HL.out];simp[h1,h2],by exact below_two _ _⟩
end Go.Proofs.YtimkkkdabmhedaaGreatDoor
