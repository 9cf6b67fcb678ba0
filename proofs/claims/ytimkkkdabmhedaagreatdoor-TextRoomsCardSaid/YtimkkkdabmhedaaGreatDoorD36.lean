/- Walks: the coder of texts: a piece's tokens, by the cache. -/
import Derived.Test.YtimkkkdabmhedaaGreatDoorD35
import Derived.Test.YtimkkkdabmhedaaGreatDoorD19
import Derived.LoopN
import Derived.Test.YtimkkkdabmhedaaGreatDoorD9
import Derived.Test.YtimkkkdabmhedaaGreatDoorD15
import Derived.Test.YtimkkkdabmhedaaGreatDoorD18
set_option linter.unusedVariables false
set_option maxHeartbeats 4000000
set_option maxRecDepth 100000
namespace Go.Proofs.YtimkkkdabmhedaaGreatDoor
open Go.RowKit
def keyB (A:List Int):ByteArray:=A.foldl (fun r n=>r.push (UInt8.ofNat n.toNat)) ByteArray.empty
theorem keyB_go:∀(A:List Int) (r:ByteArray),(∀y∈A,0≤y∧y<256)→bytesI (A.foldl (fun r n=>r.push (UInt8.ofNat n.toNat)) r)=bytesI r++A
 | [],r,_=>by simp
 | a::A,r,h=>by
  obtain⟨h0,h1⟩:=h a (by simp)
  rw[List.foldl_cons,keyB_go A _ (fun y hy=>h y (by simp[hy]))]
  have:bytesI (r.push (UInt8.ofNat a.toNat))=bytesI r++ [a]:=by
   unfold bytesI
   have:(r.push (UInt8.ofNat a.toNat)).data=r.data.push (UInt8.ofNat a.toNat):=rfl
   rw[this]
   simp
   omega
  rw[this]
  simp
theorem keyB_bytes {A:List Int} (h:∀y∈A,0≤y∧y<256):bytesI (keyB A)=A:=by
 have:=keyB_go A ByteArray.empty h
 rw[show bytesI ByteArray.empty= [] from rfl,List.nil_append]at this
 exact this
theorem keyB_size {A:List Int} (h:∀y∈A,0≤y∧y<256):(keyB A).size=A.length:=by
 rw[←bytesI_len,keyB_bytes h]
theorem conv_bytes {w:World} {ao:Option Addr} {n c:Nat} {A:List Int} (h:SlB w ao n c A) (hn:0<n):(convert 121 9 (.slice ao n c)).run Tryz.prog w= .ok (.string (keyB A)) w:=by
 have hl:=h.len
 obtain⟨b,o,hao,_⟩:=Sl.at_ h 0 (.int .u8 (ix A 0)) (by rw[List.getElem?_map,ix_eq (by omega)];rfl)
 subst hao
 rw[run_convert_bytes_string (P:=Tryz.prog) _ 121 9 5 _ _ _ Tryz.underlying121 Tryz.underlying5 Tryz.underlying9]
 rw[run_bytesToString _ _ _ _ A (by
  have:=run_loadCells_list (w:=w) (P:=Tryz.prog) ⟨b,o,none⟩ (A.map (.int .u8)) (fun j v hj=>by
   obtain⟨b',o',e,hc⟩:=Sl.at_ h j v hj
   simp only[Option.some.injEq,Addr.mk.injEq,and_true]at e
   obtain⟨rfl,rfl⟩:=e
   rw[Addr.add_lit];exact hc)
  rw[List.length_map,hl]at this
  exact this)]
 rfl
theorem runF_le {M:List Mg}:∀(k:Nat) (r:List Int),(runF M k r).length≤r.length
 | 0,r=>Nat.le_refl _
 | k+1,r=>by
  cases hs:stepF M r with
  | none=>rw[runF_end hs];exact Nat.le_refl _
  | some r'=>
   have h1:=stepF_len hs
   have h2:=runF_le k r' (M:=M)
   simp only[runF,hs]
   omega
theorem encF_le (V:Vc) (A:List Int):(encF V A).length≤A.length:=by
 have:=runF_le (M:=V.merges) A.length (rowOf V A)
 rw[rowOf_len]at this
 exact this
structure CacheOk (V:Vc) (l:List Row) (room hits misses:Int):Prop where
 rows:∀p∈l,p.2=encF V (bytesI p.1)
 rm:(l.length:Int)≤room
 ms:(l.length:Int)≤misses
 hz:0≤hits
 mz:0≤misses
 zr:room=0→hits=0∧l= []
theorem young_len (l:List Row) (k:ByteArray) (A:List Int):(young l k A).length≤l.length+1:=by
 unfold young
 rw[List.length_append]
 have:=List.length_filter_le (fun p:Row=>decide (p.1≠k)) l
 simp only[List.length_singleton]
 omega
theorem young_mem {l:List Row} {k:ByteArray} {A:List Int} {p:Row} (h:p∈young l k A):p∈l∨p=(k,A):=by
 unfold young at h
 rcases List.mem_append.1 h with h1 | h1
 ·exact .inl (List.mem_filter.1 h1).1
 ·exact .inr (List.mem_singleton.1 h1)
theorem young_hit {l:List Row} {k:ByteArray} {A:List Int} (h:(k,A)∈l):(young l k A).length≤l.length:=by
 unfold young
 rw[List.length_append]
 have:(l.filter (fun p:Row=>decide (p.1≠k))).length<l.length:=by
  rw[List.length_filter_lt_length_iff_exists]
  exact⟨(k,A),h,by simp⟩
 simp only[List.length_singleton]
 omega
theorem CacheOk.hit {V:Vc} {l:List Row} {room hits misses:Int} {k:ByteArray} {A:List Int} (h:CacheOk V l room hits misses) (hm:(k,A)∈l):CacheOk V (young l k A) room (hits+1) misses:=by
 have hl:=young_hit hm
 refine⟨fun p hp=> ?_,by have:=h.rm;omega,by have:=h.ms;omega,by have:=h.hz;omega,h.mz,fun e=> ?_⟩
 ·rcases young_mem hp with h1 | h1
  ·exact h.rows p h1
  ·subst h1;exact h.rows _ hm
 ·obtain⟨_,e2⟩:=h.zr e
  rw[e2]at hm;cases hm
theorem CacheOk.put {V:Vc} {l:List Row} {room hits misses:Int} {k:ByteArray} (h:CacheOk V l room hits misses) (h0:0<room):CacheOk V (putL l room k (encF V (bytesI k))) room hits (misses+1):=by
 have hl:=young_len l k (encF V (bytesI k))
 have hr:=h.rm
 have hm:=h.ms
 have key:∀p∈putL l room k (encF V (bytesI k)),p∈young l k (encF V (bytesI k)):=fun p hp=>by
  unfold putL at hp
  split at hp
  ·exact List.mem_of_mem_drop hp
  ·exact hp
 refine⟨fun p hp=> ?_,?_,?_,h.hz,by have:=h.mz;omega,fun e=>by omega⟩
 ·rcases young_mem (key p hp)with h1 | h1
  ·exact h.rows p h1
  ·subst h1;rfl
 ·unfold putL
  split
  ·rw[List.length_drop];omega
  ·omega
 ·unfold putL
  split
  ·rw[List.length_drop];omega
  ·omega
theorem CacheOk.missed {V:Vc} {l:List Row} {room hits misses:Int} (h:CacheOk V l room hits misses):CacheOk V l room hits (misses+1):=
 ⟨h.rows,h.rm,by have:=h.ms;omega,h.hz,by have:=h.mz;omega,h.zr⟩
structure Cch (cb mb:Nat) (no no':Option Addr) (w w':World):Prop where
 os:w'.os=w.os
 tape:w'.tape=w.tape
 output:w'.output=w.output
 size:w.heap.size≤w'.heap.size
 block:∀q,q<w.heap.size→¬Ft cb mb no q→w'.heap[q]?=w.heap[q]?
 new:∀q,q<w.heap.size→¬Ft cb mb no q→¬Ft cb mb no' q
theorem Cch.keeps {cb mb:Nat} {no:Option Addr} {w w':World} (h:Keeps (Ft cb mb no) w w'):Cch cb mb no no w w':=⟨h.os,h.tape,h.output,h.size,h.block,fun _ _ h=>h⟩
theorem Cch.below {cb mb:Nat} {no:Option Addr} {w w':World} (h:Below w.heap.size w w'):Cch cb mb no no w w':=Cch.keeps (Keeps.of_below h)
theorem Cch.trans {cb mb:Nat} {no n1 n2:Option Addr} {w w1 w2:World} (h:Cch cb mb no n1 w w1) (k:Cch cb mb n1 n2 w1 w2):Cch cb mb no n2 w w2:=
 ⟨k.os.trans h.os,k.tape.trans h.tape,k.output.trans h.output,Nat.le_trans h.size k.size,fun q hq hn=>(k.block q (Nat.lt_of_lt_of_le hq h.size) (h.new q hq hn)).trans (h.block q hq hn),fun q hq hn=>k.new q (Nat.lt_of_lt_of_le hq h.size) (h.new q hq hn)⟩
theorem Cch.put {cb mb g:Nat} {no:Option Addr} {w w':World} (h:Keeps (Ft cb mb no) w w') (ha:Go.Proofs.YtimkkkdabmhedaaGreatDoor.At no g w.heap.size):Cch cb mb no (some ⟨g,0,none⟩) w w':=
 ⟨h.os,h.tape,h.output,h.size,h.block,fun q hq hn hf=>by
  rcases hf with h1 | h1 | h1
  ·exact hn (.inl h1)
  ·exact hn (.inr (.inl h1))
  ·obtain rfl:g=q:=by simpa using h1
   rcases ha with h2 | h2
   ·exact hn (.inr (.inr h2))
   ·omega⟩
theorem CodR.turn {w w':World} {base g:Nat} {V:Vc} {N:List ByteArray} {kind:Int} {T:List Rg} {room:Int} {cb mb:Nat} {no no':Option Addr} {l l':List Row} {hits misses hits' misses':Int} (h:CodR w base g V N kind T room cb mb no l hits misses)
  (hc:Cch cb mb no no' w w') (hr:CRep w' base w'.heap.size cb mb no' l' room hits' misses'):CodR w' base g V N kind T room cb mb no' l' hits' misses':=by
 obtain⟨⟨S,h1,h2⟩,_⟩:=h
 exact⟨⟨S,h1.next (fun q hq=>hc.block q (h2 q hq).1.2 (h2 q hq).2) hc.size,fun q hq=>⟨⟨(h2 q hq).1.1,Nat.lt_of_lt_of_le (h2 q hq).1.2 hc.size⟩,hc.new q (h2 q hq).1.2 (h2 q hq).2⟩⟩,hr⟩
theorem CodR.below {w w':World} {base g:Nat} {V:Vc} {N:List ByteArray} {kind:Int} {T:List Rg} {room:Int} {cb mb:Nat} {no:Option Addr} {l:List Row} {hits misses:Int} (h:CodR w base g V N kind T room cb mb no l hits misses) (hb:Below w.heap.size w w'):CodR w' base g V N kind T room cb mb no l hits misses:=
 h.turn (Cch.below hb) ((h.rep.below hb).up hb.size)
theorem CodR.cod {w:World} {base g:Nat} {V:Vc} {N:List ByteArray} {kind:Int} {T:List Rg} {room:Int} {cb mb:Nat} {no:Option Addr} {l:List Row} {hits misses:Int} (h:CodR w base g V N kind T room cb mb no l hits misses):TCod w base g V N kind T cb:=by
 obtain⟨⟨S,h1,_⟩,_⟩:=h
 exact h1.self
theorem piece1_calls {V:Vc} {N:List ByteArray} {kind:Int} {T:List Rg} {base g cb b2 b5:Nat} {A:List Int} {bo:Option Addr} {n c:Nat} (w:World) (hC:TCod w base g V N kind T cb) (hM:May V) (hS:SlB w bo n c A) (hby:∀y∈A,0≤y∧y<256) (hn0:0<n) (hn:n≤100000)
  (h2:w.cell? ⟨b2,0,none⟩=some (.pointer (some ⟨g,0,none⟩))) (h5:w.cell? ⟨b5,0,none⟩=some (.slice bo n c)):
  Calls Tryz.prog 90 #[.pointer (some ⟨b2,0,none⟩), .pointer (some ⟨b5,0,none⟩)] w fun e w'=>∃v,e= .returned v∧Own w' w.heap.size v (encF V A)∧Below w.heap.size w w':=by
 obtain⟨lo,ta,tc,sa,sc,na,nc,ma,mc,oa,oc,eg,hx,_,_,_,_,_,hec⟩:=hC
 obtain⟨c0,c1,c2,c3,c4,c5,c6,c7,c8,cf⟩:=box9 hx
 have HE:Hid (∀W,Ge w W→Calls Tryz.prog 91 #[.pointer (some ⟨eg,0,none⟩), .slice bo n c] W fun e w'=>∃v,e= .returned v∧Own w' w.heap.size v (encF V A)∧Below w.heap.size w w'):=Lib.hid (fun W hW=>(encode_some W (hec.keep (fun q _ hq=>hW.block q hq) hW.size) hM (Sl.below hS hW) hby hn0 hn).mono (by
  rintro e w' ⟨v,rfl,h1,h2⟩
  exact⟨v,rfl,h1.mono hW.size,hW.below h2⟩))
 clear hx hec hS hby hM
 go_enter Tryz.func90,Tryz.ntmps90
 go_wp2_with (fail)
 go_region_with (go_at_call 91;refine(HE.out _ (by exact below_drewN (Below.refl _ _) _)).mono ?_;rintro e w2 ⟨v,rfl,ho,hb2⟩;have HO:=Lib.hid ho;have HB2:=Lib.hid hb2;clear ho hb2)
 all_goals(
  go_wp2_with (fail)
  go_ret
  exact⟨v,rfl,HO.out,HB2.out⟩)
structure TxV (w:World) (base g:Nat) (V:Vc) (N:List ByteArray) (kind:Int) (T:List Rg) (room:Int) (cb mb:Nat) (no:Option Addr) (cnt:Int) (hit0:Prop):Prop where
 ex:∃l hits misses,CodR w base g V N kind T room cb mb no l hits misses∧CacheOk V l room hits misses∧hits+misses=cnt∧(hit0→room=0→hits=0)
theorem TxV.below {w w':World} {base g:Nat} {V:Vc} {N:List ByteArray} {kind:Int} {T:List Rg} {room:Int} {cb mb:Nat} {no:Option Addr} {cnt:Int} {h0:Prop} (h:TxV w base g V N kind T room cb mb no cnt h0) (hb:Below w.heap.size w w'):TxV w' base g V N kind T room cb mb no cnt h0:=by
 obtain⟨l,hits,misses,h1,h2,h3,h4⟩:=h
 exact⟨l,hits,misses,h1.below hb,h2,h3,h4⟩
theorem TxV.cod {w:World} {base g:Nat} {V:Vc} {N:List ByteArray} {kind:Int} {T:List Rg} {room:Int} {cb mb:Nat} {no:Option Addr} {cnt:Int} {h0:Prop} (h:TxV w base g V N kind T room cb mb no cnt h0):TCod w base g V N kind T cb:=by
 obtain⟨l,hits,misses,h1,h2,h3,h4⟩:=h
 exact h1.cod
theorem TxV.ft {w:World} {base g:Nat} {V:Vc} {N:List ByteArray} {kind:Int} {T:List Rg} {room:Int} {cb mb:Nat} {no:Option Addr} {cnt:Int} {h0:Prop} (h:TxV w base g V N kind T room cb mb no cnt h0):∀q,Ft cb mb no q→base≤q∧q<w.heap.size:=by
 obtain⟨l,hits,misses,h1,h2,h3,h4⟩:=h
 exact h1.rep.ft
theorem TxV.new {w:World} {base g:Nat} {V:Vc} {N:List ByteArray} {kind:Int} {T:List Rg} {room:Int} {cb mb:Nat} (h:CodR w base g V N kind T room cb mb none [] 0 0) (h0:0≤room):TxV w base g V N kind T room cb mb none 0 True:=
 ⟨[],0,0,h,⟨fun p hp=>(by cases hp),by simpa using h0,by simp,by omega,by omega,fun _=>⟨rfl,rfl⟩⟩,rfl,fun _ _=>rfl⟩
def MayPc (A:List Int):Prop:=(∃x,A= [x]∧256≤x)∨(A≠[]∧∀y∈A,0≤y∧y<256)
theorem pieceF_mark {V:Vc} {N:List ByteArray} {x:Int} (hc:checkF V N [x]=0) (hx:256≤x):pieceF V N [x]= [markAt V N x]:=by
 unfold pieceF
 rw[if_neg (by simp[hc]),if_pos ⟨rfl,hx⟩];rfl
theorem pieceF_bytes {V:Vc} {N:List ByteArray} {A:List Int} (hc:checkF V N A=0) (hA:A≠[]) (hb:∀y∈A,0≤y∧y<256):pieceF V N A=encF V A:=by
 unfold pieceF
 rw[if_neg (by simp[hc,hA]),if_neg,if_pos]
 ·rw[List.all_eq_true];intro y hy;exact isB_iff.2 (hb y hy)
 ·rintro⟨h1,h2⟩
  have h3:ix A 0∈A:=List.mem_of_getElem? (ix_eq (by omega))
  have:=hb _ h3
  omega
def isBy (A:List Int):Int:=if A.all isB=true then 1 else 0
theorem isBy_bytes {A:List Int} (hb:∀y∈A,0≤y∧y<256):isBy A=1:=by
 unfold isBy;rw[if_pos];rw[List.all_eq_true];intro y hy;exact isB_iff.2 (hb y hy)
theorem isBy_mark {x:Int} (hx:256≤x):isBy [x]=0:=by
 unfold isBy;rw[if_neg];simp[isB];omega
theorem ownB_at0 {w:World} {base:Nat} {v:Value} {A:List Int} (h:w.ownsRow base 5 1 v A.length (A.map (.int .u8))) (hn:0<A.length):∃gb cap,v= .slice (some ⟨gb,0,none⟩) A.length cap∧base≤gb∧gb<w.heap.size∧SlB w (some ⟨gb,0,none⟩) A.length cap A:=by
 have hlt:=World.ownsRow.lt h
 obtain⟨ao,c,e,hs⟩:=Sl.of_own h
 obtain⟨h1,h2⟩:=h
 rcases h2 with⟨_,h3⟩ | ⟨gb,cap,cur,hv,_⟩
 ·omega
 ·subst hv
  obtain⟨rfl,_,rfl⟩:=Value.slice.inj e
  obtain⟨k1,k2⟩:=hlt gb rfl
  exact⟨gb,cap,rfl,k1,k2,hs⟩
theorem CodR.codK {w w':World} {base g:Nat} {V:Vc} {N:List ByteArray} {kind:Int} {T:List Rg} {room:Int} {cb mb:Nat} {no:Option Addr} {l:List Row} {hits misses:Int} (h:CodR w base g V N kind T room cb mb no l hits misses) (hk:Keeps (Ft cb mb no) w w'):TCod w' base g V N kind T cb:=by
 obtain⟨⟨S,h1,h2⟩,_⟩:=h
 exact h1 w' (fun q hq=>hk.block q (h2 q hq).1.2 (h2 q hq).2) hk.size
theorem Keeps.cell {S:Nat→Prop} {w w':World} (h:Keeps S w w') {p:Addr} {u:Value} (hc:w.cell? p=some u) (hn:¬S p.block):w'.cell? p=some u:=by
 rw[World.cell?_of_block (w:=w) (h.block _ (World.block_lt_of_cell? w p hc) hn)];exact hc
theorem CReq.below {w w':World} {base top cb mb B:Nat} {no:Option Addr} {l:List Row} {room hits misses:Int} {P:Nat→Prop} (h:CReq w base top cb mb no l room hits misses P) (hp:∀q,P q→q<B) (hb:Below B w w'):CReq w' base top cb mb no l room hits misses P:=
 h.stay (fun q hq=>hb.block q (hp q hq))
theorem CReq.cut {w:World} {base top cb mb:Nat} {no:Option Addr} {l:List Row} {room hits misses:Int} {P:Nat→Prop} (h:CReq w base top cb mb no l room hits misses P):CReq w base top cb mb no l room hits misses (fun q=>P q∧base≤q∧q<top):=by
 have hft:=h.rep.ft
 obtain⟨m,cap,N,e,y,ord,sz,f,R,hc,hg,hl⟩:=h
 exact⟨m,cap,N,e,y,ord,sz,f,R,⟨hc.1,fun k hk=>⟨hc.2.1 k hk,hft k hk⟩,fun i hi ad e=>⟨hc.2.2 i hi ad e,((hc.1.rows i hi).2 ad e).1,((hc.1.rows i hi).2 ad e).2.1⟩⟩,hg,hl⟩
structure CodQ (w:World) (base g:Nat) (V:Vc) (N:List ByteArray) (kind:Int) (T:List Rg) (room:Int) (cb mb:Nat) (no:Option Addr) (l:List Row) (hits misses:Int) (P:Nat→Prop):Prop where
 sta:∃S,Sta S (fun w=>TCod w base g V N kind T cb) w∧(∀q,S q→P q∧¬Ft cb mb no q)
 rep:CReq w base w.heap.size cb mb no l room hits misses P
 lt:∀q,P q→base≤q∧q<w.heap.size
def Cdr (w:World) (base g:Nat) (V:Vc) (N:List ByteArray) (kind:Int) (T:List Rg) (room cnt:Int) (P:Nat→Prop):Prop:=
 ∃cb mb no l hits misses,CodQ w base g V N kind T room cb mb no l hits misses P∧CacheOk V l room hits misses∧hits+misses=cnt
section
variable {w:World} {base g:Nat} {V:Vc} {N:List ByteArray} {kind:Int} {T:List Rg} {room:Int} {cb mb:Nat} {no:Option Addr} {l:List Row} {hits misses cnt:Int} {P:Nat→Prop}
theorem CodQ.codR (h:CodQ w base g V N kind T room cb mb no l hits misses P):CodR w base g V N kind T room cb mb no l hits misses:=by
 obtain⟨⟨S,h1,h2⟩,h3,h4⟩:=h
 exact⟨⟨S,h1,fun q hq=>⟨h4 q (h2 q hq).1,(h2 q hq).2⟩⟩,h3.rep⟩
theorem CodR.codQ (h:CodR w base g V N kind T room cb mb no l hits misses):CodQ w base g V N kind T room cb mb no l hits misses (fun q=>base≤q∧q<w.heap.size):=by
 have hr:=h.rep
 obtain⟨⟨S,h1,h2⟩,_⟩:=h
 exact⟨⟨S,h1,fun q hq=>⟨(h2 q hq).1,(h2 q hq).2⟩⟩,hr.req,fun q hq=>hq⟩
theorem CodQ.stay {w':World} (h:CodQ w base g V N kind T room cb mb no l hits misses P) (hk:∀q,P q→w'.heap[q]?=w.heap[q]?) (hs:w.heap.size≤w'.heap.size):CodQ w' base g V N kind T room cb mb no l hits misses P:=by
 obtain⟨⟨S,h1,h2⟩,h3,h4⟩:=h
 exact⟨⟨S,h1.next (fun q hq=>hk q (h2 q hq).1) hs,h2⟩,(h3.stay hk).up hs,fun q hq=>⟨(h4 q hq).1,Nat.lt_of_lt_of_le (h4 q hq).2 hs⟩⟩
theorem Cdr.new (h:CodR w base g V N kind T room cb mb none [] 0 0) (h0:0≤room):Cdr w base g V N kind T room 0 (fun q=>base≤q∧q<w.heap.size):=
 ⟨cb,mb,none,[],0,0,h.codQ,⟨fun p hp=>(by cases hp),by simpa using h0,by simp,by omega,by omega,fun _=>⟨rfl,rfl⟩⟩,rfl⟩
theorem Cdr.stay {w':World} (h:Cdr w base g V N kind T room cnt P) (hk:∀q,P q→w'.heap[q]?=w.heap[q]?) (hs:w.heap.size≤w'.heap.size):Cdr w' base g V N kind T room cnt P:=by
 obtain⟨cb,mb,no,l,hits,misses,h1,h2⟩:=h
 exact⟨cb,mb,no,l,hits,misses,h1.stay hk hs,h2⟩
theorem Cdr.lt (h:Cdr w base g V N kind T room cnt P):∀q,P q→base≤q∧q<w.heap.size:=by
 obtain⟨cb,mb,no,l,hits,misses,h1,h2⟩:=h
 exact h1.lt
theorem Cdr.below {w':World} (h:Cdr w base g V N kind T room cnt P) (hb:Below w.heap.size w w'):Cdr w' base g V N kind T room cnt P:=
 h.stay (fun q hq=>hb.block q (h.lt q hq).2) hb.size
theorem Cdr.cod (h:Cdr w base g V N kind T room cnt P):∃cb,TCod w base g V N kind T cb:=by
 obtain⟨cb,mb,no,l,hits,misses,h1,h2⟩:=h
 exact⟨cb,h1.codR.cod⟩
theorem CodQ.turn {w':World} {no':Option Addr} {l':List Row} {hits' misses':Int} (h:CodQ w base g V N kind T room cb mb no l hits misses P)
  (hc:Cch cb mb no no' w w') (hr:CReq w' base w'.heap.size cb mb no' l' room hits' misses' (fun q=>P q∨w.heap.size≤q)):CodQ w' base g V N kind T room cb mb no' l' hits' misses' (fun q=>(P q∨w.heap.size≤q)∧base≤q∧q<w'.heap.size):=by
 obtain⟨⟨S,h1,h2⟩,h3,h4⟩:=h
 exact⟨⟨S,h1.next (fun q hq=>hc.block q (h4 q (h2 q hq).1).2 (h2 q hq).2) hc.size,fun q hq=>⟨⟨.inl (h2 q hq).1,(h4 q (h2 q hq).1).1,Nat.lt_of_lt_of_le (h4 q (h2 q hq).1).2 hc.size⟩,hc.new q (h4 q (h2 q hq).1).2 (h2 q hq).2⟩⟩,hr.cut,fun q hq=>hq.2⟩
end
def LkQ (V:Vc) (w:World) (base cb mb:Nat) (no:Option Addr) (room cnt:Int) (R:List Int) (P:Nat→Prop) (e:Ending) (w':World):Prop:=
 ∃v no' l' hits' misses',e= .returned v∧Own w' w.heap.size v R∧CReq w' base w'.heap.size cb mb no' l' room hits' misses' (fun q=>P q∨w.heap.size≤q)∧CacheOk V l' room hits' misses'∧hits'+misses'=cnt+1∧Cch cb mb no no' w w'
theorem lookupQ_calls {P:Nat→Prop} {V:Vc} {base cb mb b2 b5:Nat} {no:Option Addr} {l:List Row} {room hits misses:Int} (key:ByteArray) (w:World) (hr:CReq w base w.heap.size cb mb no l room hits misses P) (hP:∀q,P q→q<w.heap.size) (hok:CacheOk V l room hits misses) (hroom:room≤1048576) (hcnt:hits+misses<1000000) (hks:key.size≤100000)
  (hF:∀W,Keeps (Ft cb mb no) w W→Calls Tryz.prog 90 #[.pointer (some ⟨b2,0,none⟩), .pointer (some ⟨b5,0,none⟩)] W fun e w'=>∃v,e= .returned v∧Own w' W.heap.size v (encF V (bytesI key))∧Below W.heap.size W w'):
  Calls Tryz.prog 89 #[.pointer (some ⟨cb,0,none⟩), .string key, .func (.func 90) #[] #[.pointer (some ⟨b2,0,none⟩), .pointer (some ⟨b5,0,none⟩)]] w (LkQ V w base cb mb no room (hits+misses) (encF V (bytesI key)) P):=by
 have h0:=hok.hz
 have m0:=hok.mz
 have hmx:key.size≤maxLen:=by unfold maxLen;omega
 have hRl:(encF V (bytesI key)).length≤1048576:=by have:=encF_le V (bytesI key);rw[bytesI_len]at this;omega
 by_cases hin:∃R,(key,R)∈l
 ·obtain⟨R,hR⟩:=hin
  have hRR:R=encF V (bytesI key):=hok.rows _ hR
  have HG:=Lib.hid (creq_hit hr (Nat.le_refl _) key R hmx hR h0 (by omega))
  have HOK:=Lib.hid (hok.hit hR)
  have HRR:=Lib.hid hRR
  clear hr hP hok hF hR hRR h0 m0
  go_enter Tryz.func89,Tryz.ntmps89
  go_wp2_with (go_at_call 118;refine HG.out.mono ?_;rintro e w1 ⟨vo,vn,vc,rfl,ho,hr1,hk1⟩;have HO:=Lib.hid ho;have HR1:=Lib.hid hr1;have HK1:=Lib.hid hk1;clear ho hr1 hk1)
  refine bodyPost_ret (results_tmp rfl _ _ _) rfl ⟨.slice vo vn vc,no,young l key R,hits+1,misses,rfl,by rw[←HRR.out];exact HO.out,(HR1.out.up HK1.out.size).more (fun q h=> .inl h),HOK.out,by omega,Cch.keeps HK1.out⟩
 ·have hno:∀p∈l,p.1≠key:=fun p hp e=>hin ⟨p.2,by rw[←e];exact hp⟩
  have HG:=Lib.hid (creq_miss hr (Nat.le_refl _) key hmx hno m0 (by omega))
  have HF:=Lib.hid hF
  have HPL:=Lib.hid hP
  have HFT:Hid (∀q,Ft cb mb no q→q<w.heap.size):=Lib.hid fun q hq=>hP q (hr.ft q hq)
  by_cases hz:room=0
  ·subst hz
   have HOK:=Lib.hid hok.missed
   clear hr hP hok hF hin hno h0 m0
   go_enter Tryz.func89,Tryz.ntmps89
   go_wp2_with (first
    | (go_at_call 118;refine HG.out.mono ?_;rintro e w1 ⟨rfl,hr1,hk1⟩;have HR1:=Lib.hid hr1;have HK1:=Lib.hid hk1;clear hr1 hk1)
    | (go_at_call 90;refine(HF.out _ HK1.out).mono ?_;rintro e w2 ⟨v,rfl,ho,hb2⟩;obtain⟨vo,vc,rfl,_⟩:=ho.sl;have HO:=Lib.hid ho;have HB2:=Lib.hid hb2;clear ho hb2)
    | (go_at_call 119;refine(crep_zero ((HR1.out.up HK1.out.size).below (fun q h=>Nat.lt_of_lt_of_le (HPL.out q h) HK1.out.size) HB2.out).rep key _ _ _).mono ?_;rintro e w3 ⟨rfl,hb3⟩;have HB3:=Lib.hid hb3;clear hb3))
   go_ret
   exact⟨_,no,l,hits,misses+1,rfl,(HO.out.below HB3.out).mono HK1.out.size,((((HR1.out.up HK1.out.size).below (fun q h=>Nat.lt_of_lt_of_le (HPL.out q h) HK1.out.size) HB2.out).up HB2.out.size |>.below (fun q h=>Nat.lt_of_lt_of_le (HPL.out q h) (Nat.le_trans HK1.out.size HB2.out.size)) HB3.out).up HB3.out.size).more (fun q h=> .inl h),HOK.out,by omega,((Cch.keeps HK1.out).trans (Cch.below HB2.out)).trans (Cch.below HB3.out)⟩
  ·have hrp:0<room:=by have:=hok.rm;omega
   have HOK:=Lib.hid (hok.put (k:=key) hrp)
   have HLL:Hid ((l.length:Int)≤room∧l.length<1048576):=Lib.hid ⟨hok.rm,by have:=hok.ms;omega⟩
   clear hr hP hok hF hin hno h0 m0
   go_enter Tryz.func89,Tryz.ntmps89
   go_wp2_with (first
    | (go_at_call 118;refine HG.out.mono ?_;rintro e w1 ⟨rfl,hr1,hk1⟩;have HR1:=Lib.hid hr1;have HK1:=Lib.hid hk1;clear hr1 hk1)
    | (go_at_call 90;refine(HF.out _ HK1.out).mono ?_;rintro e w2 ⟨v,rfl,ho,hb2⟩;obtain⟨vo,vc,rfl,hsl⟩:=ho.sl;have HO:=Lib.hid ho;have HB2:=Lib.hid hb2;have HSL:=Lib.hid hsl;clear ho hb2 hsl)
    | (go_at_call 119;refine(creq_put (((HR1.out.up HK1.out.size).below (fun q h=>Nat.lt_of_lt_of_le (HPL.out q h) HK1.out.size) HB2.out).up HB2.out.size) key hmx hrp hroom HLL.out.1 HLL.out.2 HSL.out (fun ad e h0=>by
      subst e
      obtain⟨k1,k2⟩:=World.ownsRow.lt HO.out ad.block (by obtain⟨vb,e⟩:=own_at0 HO.out h0;obtain⟨c',e⟩:=e;rw[e];cases e;rfl)
      exact⟨k2,fun hf=>by have:=HFT.out _ hf;have:=HK1.out.size;omega⟩) hRl).mono ?_;rintro e w3 ⟨rfl,gg,hr3,hk3,hat3⟩;have HR3:=Lib.hid hr3;have HK3:=Lib.hid hk3;have HAT3:=Lib.hid hat3;clear hr3 hk3 hat3))
   go_ret
   refine⟨_,some ⟨gg,0,none⟩,_,hits,misses+1,rfl,?_,HR3.out.more (fun q h=>h.imp id (fun h=>Nat.le_trans (Nat.le_trans HK1.out.size HB2.out.size) h)),HOK.out,by omega,((Cch.keeps HK1.out).trans (Cch.below HB2.out)).trans (Cch.put HK3.out HAT3.out)⟩
   refine Own.mono (own_stay HO.out (fun q hq=> ?_)) HK1.out.size
   obtain⟨k1,k2⟩:=World.ownsRow.lt HO.out q hq
   exact HK3.out.block q k2 (fun hf=>by have:=HFT.out _ hf;have:=HK1.out.size;omega)
def PcQ (w:World) (base g:Nat) (V:Vc) (N:List ByteArray) (kind:Int) (T:List Rg) (room cnt:Int) (P:Nat→Prop) (R:List Int) (d:Int) (e:Ending) (w':World):Prop:=
 ∃v P',e= .returned v∧Own w' w.heap.size v R∧Cdr w' base g V N kind T room (cnt+d) P'∧(∀q,P' q→P q∨w.heap.size≤q)∧Keeps P w w'
theorem pieceQ_mark {P:Nat→Prop} {V:Vc} {N:List ByteArray} {kind:Int} {T:List Rg} {base g:Nat} {room:Int} {cnt x:Int} {ao:Option Addr} {c:Nat} (w:World) (h:Cdr w base g V N kind T room cnt P) (hN:N.length≤16) (hA:SlI w ao 1 c [x]) (hx:256≤x) (hc:checkF V N [x]=0):
  Calls Tryz.prog 59 #[.pointer (some ⟨g,0,none⟩), .slice ao 1 c] w (PcQ w base g V N kind T room cnt P (pieceF V N [x]) (isBy [x])):=by
 obtain⟨w0,hw0⟩:∃w0,w.alloc (.cells #[.pointer (some ⟨g,0,none⟩)] 32)=w0:=⟨_,rfl⟩
 have hb0:Below w.heap.size w w0:=hw0▸below_alloc w _
 have hx0:w0.heap[w.heap.size]?=some (.cells #[.pointer (some ⟨g,0,none⟩)] 32):=by rw[←hw0];exact heap_alloc_new w _
 have z0:w0.cell? ⟨w.heap.size,0,none⟩=some (.pointer (some ⟨g,0,none⟩)):=by simp[World.cell?,hx0]
 have hV:=h.below hb0
 obtain⟨cb,hcod⟩:=hV.cod
 have hCk:=check_calls w0 hcod hN (hA.below hb0) (by omega)
 rw[hc]at hCk
 obtain⟨lo,ta,tc,sa,sc,na,nc,ma,mc,oa,oc,eg,hbx,_,_,_,hom,_⟩:=hcod
 obtain⟨c0,c1,c2,c3,c4,c5,c6,c7,c8,cf⟩:=box9 hbx
 obtain⟨mo,mcap,e0,hsm⟩:=hom.sl
 have hml:=marksOf_len V.specials N
 rw[hml]at e0 hsm
 obtain⟨rfl,_,rfl⟩:=Value.slice.inj e0
 have hfx:faultF V N x=0:=by
  have:=checkF_all.1 hc x (by simp)
  exact this
 have hxl:x<256+(N.length:Int):=by
  rcases Int.lt_or_le x (256+(N.length:Int))with h1 | h1
  ·exact h1
  ·unfold faultF at hfx;rw[if_pos (.inr h1)]at hfx;cases hfx
 obtain⟨k,hk⟩:∃k:Nat,x-256=k:=⟨(x-256).toNat,by omega⟩
 have q2:IntKind.i64.wrap (x-256)=(k:Int):=by rw[IntKind.wrap_i64];omega
 have gk:(k:Int)<(N.length:Int):=by omega
 have gk0:(0:Int)≤(k:Int):=by omega
 obtain⟨bm,om,hmo,hcm⟩:=hsm.at_ (i:=k) (by omega)
 subst hmo
 obtain⟨v,hv⟩:∃v,ix (marksOf V.specials N) k=v:=⟨_,rfl⟩
 rw[hv]at hcm
 have hmk:markAt V N x=v:=by unfold markAt;rw[hk,Int.toNat_natCast,hv]
 have HP:Hid (pieceF V N [x]= [v]):=Lib.hid (by rw[pieceF_mark hc hx,hmk])
 obtain⟨b,o,hao,hca⟩:=(hA.below hb0).at_ (i:=0) (by omega)
 subst hao
 have ha0:w0.cell? ⟨b,o,none⟩=some (.int .i64 x):=by simpa[ix]using hca
 have gx:decide ((256:Int)≤x)=true:=by simpa using hx
 have HCK:=Lib.hid hCk
 have HB0:=Lib.hid hb0
 have HW0:=Lib.hid hw0
 have HV:=Lib.hid hV
 have HX:=Lib.hid hx
 clear h hA hc hbx hom hsm e0 hml hfx hv hmk hca hw0 hb0 hx0 hCk hV hx
 go_enter Tryz.func59,Tryz.ntmps59
 go_wp2_with (fail)
 rw[HW0.out]
 go_wp2_with (go_at_call 33;refine HCK.out.mono ?_;rintro e w1 ⟨rfl,rfl⟩)
 go_region
 all_goals(
  go_wp2_with (fail)
  refine bodyPost_ret (results_tmp rfl _ _ _) rfl ⟨_,P,rfl,by rw[HP.out];exact Own.mono (own_one _ v) HB0.out.size,by rw[isBy_mark HX.out,Int.add_zero];exact HV.out.below (by exact belowA rfl rfl rfl rfl),fun q hq=> .inl hq,Keeps.of_below (HB0.out.trans (Below.mono (by exact belowA rfl rfl rfl rfl) HB0.out.size))⟩)
theorem pieceQ_bytes {P:Nat→Prop} {V:Vc} {N:List ByteArray} {kind:Int} {T:List Rg} {base g:Nat} {room:Int} {cnt:Int} {A:List Int} {ao:Option Addr} {n c:Nat} (w:World) (hh:Cdr w base g V N kind T room cnt P) (hM:May V) (hN:N.length≤16) (hr:room≤1048576)
  (hA:SlI w ao n c A) (hn0:0<n) (hn:n≤100000) (hb:∀y∈A,0≤y∧y<256) (hc:checkF V N A=0) (hcnt:cnt<1000000):
  Calls Tryz.prog 59 #[.pointer (some ⟨g,0,none⟩), .slice ao n c] w (PcQ w base g V N kind T room cnt P (pieceF V N A) (isBy A)):=by
 obtain⟨cb,mb,no,l,hits,misses,h,hok,hsum⟩:=hh
 obtain⟨w0,hw0⟩:∃w0,w.alloc (.cells #[.pointer (some ⟨g,0,none⟩)] 32)=w0:=⟨_,rfl⟩
 have hb0:Below w.heap.size w w0:=hw0▸below_alloc w _
 have hx0:w0.heap[w.heap.size]?=some (.cells #[.pointer (some ⟨g,0,none⟩)] 32):=by rw[←hw0];exact heap_alloc_new w _
 have hz0:w.heap.size<w0.heap.size:=by rw[←hw0];simp
 have z0:w0.cell? ⟨w.heap.size,0,none⟩=some (.pointer (some ⟨g,0,none⟩)):=by simp[World.cell?,hx0]
 have hV:=h.stay (fun q hq=>hb0.block q (h.lt q hq).2) hb0.size
 have hA0:=hA.below hb0
 have hAl:=hA.len
 have hCk:=check_calls w0 hV.codR.cod hN hA0 (by omega)
 rw[hc]at hCk
 have hne:A≠[]:=fun e=>by rw[e]at hAl;simp at hAl;omega
 have HP:Hid (pieceF V N A=encF V A):=Lib.hid (pieceF_bytes hc hne hb)
 have HBY:Hid (isBy A=1):=Lib.hid (isBy_bytes hb)
 obtain⟨b,o,hao,hca⟩:=hA0.at_ (i:=0) hn0
 subst hao
 obtain⟨x,hx⟩:∃x,ix A 0=x:=⟨_,rfl⟩
 rw[hx]at hca
 have hxb:=hb x (by rw[←hx];exact List.mem_of_getElem? (ix_eq (by omega)))
 have ha0:w0.cell? ⟨b,o,none⟩=some (.int .i64 x):=by simpa using hca
 have gx:decide ((256:Int)≤x)=false:=by simp;omega
 have gn0:((n:Int)==0)=false:=by simp;omega
 have HBT:=Lib.hid (bytes13_calls w0 hA0 (fun y hy=>isB_iff.2 (hb y hy)) (by omega))
 have HCK:=Lib.hid hCk
 have HB0:=Lib.hid hb0
 have HW0:=Lib.hid hw0
 have HX0:=Lib.hid hx0
 have HV:=Lib.hid hV
 have HY:=Lib.hid hb
 have HFT:Hid (∀q,Ft cb mb no q→base≤q∧q<w.heap.size):=Lib.hid fun q hq=>h.lt q (h.rep.ft q hq)
 have HPL:=Lib.hid h.lt
 have HOK:=Lib.hid hok
 have HSUM:=Lib.hid hsum
 have HPF:=Lib.hid h.rep.ft
 have HAL:=Lib.hid hAl
 have HM:=Lib.hid hM
 clear h hok hsum hA hA0 hc hca hw0 hb0 hx0 hCk hV hx hAl hne hxb hb hM
 go_enter Tryz.func59,Tryz.ntmps59
 go_wp2_with (fail)
 rw[HW0.out]
 go_wp2_with (go_at_call 33;refine HCK.out.mono ?_;rintro e w1 ⟨rfl,rfl⟩)
 all_goals(
  go_at_call 88
  refine HBT.out.mono ?_
  rintro e w2 ⟨⟨v,rfl,ho⟩,hb2⟩
  obtain⟨gb,bc,rfl,hgb,hgl,hsl⟩:=ownB_at0 ho (by have:=HAL.out;omega)
  obtain⟨W3,hW3⟩:∃W3,w2.alloc (.cells #[.slice (some ⟨gb,0,none⟩) A.length bc] 121)=W3:=⟨_,rfl⟩
  have hb3:Below w2.heap.size w2 W3:=hW3▸below_alloc w2 _
  have hx3:W3.heap[w2.heap.size]?=some (.cells #[.slice (some ⟨gb,0,none⟩) A.length bc] 121):=by rw[←hW3];exact heap_alloc_new w2 _
  have hx2:W3.heap[w.heap.size]?=some (.cells #[.pointer (some ⟨g,0,none⟩)] 32):=(hb3.block _ (Nat.lt_of_lt_of_le hz0 hb2.size)).trans ((hb2.block _ hz0).trans HX0.out)
  have HB3:Hid (Below w0.heap.size w0 W3):=Lib.hid (hb2.trans (hb3.mono hb2.size))
  have hft3:∀q,w.heap.size≤q→¬Ft cb mb no q:=fun q hq hf=>by have:=(HFT.out q hf).2;omega
  have hs02:w.heap.size≤w2.heap.size:=Nat.le_trans (Nat.le_of_lt hz0) hb2.size
  have hcv:∀W,Keeps (Ft cb mb no) W3 W→(convert 121 9 (.slice (some ⟨gb,0,none⟩) A.length bc)).run Tryz.prog W= .ok (.string (keyB A)) W:=fun W hW=>conv_bytes (slB_other (Sl.below hsl hb3) (fun ad e=>by
   obtain rfl:ad=⟨gb,0,none⟩:=(Option.some.inj e).symm
   exact hW.block gb (Nat.lt_of_lt_of_le hgl hb3.size) (hft3 gb (Nat.le_trans (Nat.le_of_lt hz0) hgb)))) (by have:=HAL.out;omega)
  have HLK:Hid (∀W,Ge W3 W→Calls Tryz.prog 89 #[.pointer (some ⟨cb,0,none⟩), .string (keyB A), .func (.func 90) #[] #[.pointer (some ⟨w.heap.size,0,none⟩), .pointer (some ⟨w2.heap.size,0,none⟩)]] W (fun e w'=>PcQ w base g V N kind T room cnt P (encF V A) 1 e w'∧Keeps (Ft cb mb no) W3 w')):=Lib.hid (fun W hW=>by
   have hcr:=(HV.out.stay (fun q hq=>HB3.out.block q (HV.out.lt q hq).2) HB3.out.size).stay (fun q hq=>hW.block q (Nat.lt_of_lt_of_le (HV.out.lt q hq).2 HB3.out.size)) hW.size
   have hsum:=HSUM.out
   have hft:∀q,Ft cb mb no q→q<w.heap.size:=fun q hq=>(HFT.out q hq).2
   have hs2:=hb2.size
   have hsW:=hW.size
   have hs3:=hb3.size
   have hsz3:w2.heap.size<W3.heap.size:=(Array.getElem?_eq_some_iff.1 hx3).1
   refine(lookupQ_calls (keyB A) W hcr.rep (fun q hq=>(hcr.lt q hq).2) HOK.out hr (by omega) (by rw[keyB_size HY.out];have:=HAL.out;omega) (fun W' hk=> ?_)).mono ?_
   ·rw[keyB_bytes HY.out]
    have k2:W'.heap[w.heap.size]?=some (.cells #[.pointer (some ⟨g,0,none⟩)] 32):=(hk.block _ (by omega) (fun hf=>by have:=hft _ hf;omega)).trans ((hW.block _ (by omega)).trans hx2)
    have k5:W'.heap[w2.heap.size]?=some (.cells #[.slice (some ⟨gb,0,none⟩) A.length bc] 121):=(hk.block _ (by omega) (fun hf=>by have:=hft _ hf;omega)).trans ((hW.block _ (by omega)).trans hx3)
    refine piece1_calls W' (hcr.codR.codK hk) HM.out (slB_other (Sl.below (Sl.below hsl hb3) hW) (fun ad e=> ?_)) HY.out (by have:=HAL.out;omega) (by have:=HAL.out;omega) (by simp[World.cell?,k2]) (by simp[World.cell?,k5])
    obtain rfl:ad=⟨gb,0,none⟩:=(Option.some.inj e).symm
    exact hk.block gb (by omega) (fun hf=>by have:=hft _ hf;omega)
   ·rintro e w' ⟨v,no',l',hits',misses',rfl,hown,hrep,hok',hsum',hcch⟩
    rw[keyB_bytes HY.out]at hown
    have hsz:w.heap.size≤W.heap.size:=by omega
    have hkk:Keeps (Ft cb mb no) W3 w':=(Keeps.of_below hW).trans ⟨hcch.os,hcch.tape,hcch.output,hcch.size,hcch.block⟩
    exact⟨⟨v,_,rfl,hown.mono hsz,⟨cb,mb,no',l',hits',misses',hcr.turn hcch hrep,hok',by omega⟩,fun q hq=>hq.1.imp id (fun h=>Nat.le_trans hsz h),(((Keeps.of_below HB0.out).trans (Keeps.of_below HB3.out)).trans hkk).mono (fun k _ hf=>HPF.out k hf)⟩,hkk⟩)
  have z2:W3.cell? ⟨w.heap.size,0,none⟩=some (.pointer (some ⟨g,0,none⟩)):=by simp[World.cell?,hx2]
  have z5:W3.cell? ⟨w2.heap.size,0,none⟩=some (.slice (some ⟨gb,0,none⟩) A.length bc):=by simp[World.cell?,hx3]
  have HW3:=Lib.hid hW3
  have G2:=fun w' (hg:Keeps (Ft cb mb no) W3 w')=>hg.cell z2 (hft3 _ (Nat.le_refl _))
  have G5:=fun w' (hg:Keeps (Ft cb mb no) W3 w')=>hg.cell z5 (hft3 _ hs02)
  have G8:∀w',Keeps (Ft cb mb no) W3 w'→w'.cell? ⟨g,8,none⟩=some (.pointer (some ⟨cb,0,none⟩)):=fun w' hg=>by
   have hcr:=(HV.out.stay (fun q hq=>HB3.out.block q (HV.out.lt q hq).2) HB3.out.size).codR
   obtain⟨_,_,_,_,_,_,_,_,_,_,_,_,hbx',_⟩:=hcr.codK hg
   exact(box9 hbx').2.2.2.2.2.2.2.2.1
  have gr:=Keeps.refl (Ft cb mb no) W3
  clear hW3 hb3 hx3 hx2 ho hb2 hgb hgl hsl z0 ha0 z2 z5 hft3 hs02
  go_wp2_with (fail)
  rw[HW3.out]
  go_region_held3 (Keeps (Ft cb mb no) W3) (first | (with_reducible assumption) | (with_reducible refine Keeps.drew ?_;with_reducible assumption) | (with_reducible refine Keeps.drewN ?_ _;with_reducible assumption)) ((go_at_call 89;refine(HLK.out _ (by exact below_drewN (Below.refl _ _) _)).mono ?_;rintro e w9 ⟨⟨v9,p9,rfl,ho9,hV9,hp9,hc9⟩,hk9⟩;have HP9:=Lib.hid hp9;have HO9:=Lib.hid ho9;have HV9:=Lib.hid hV9;have HC9:=Lib.hid hc9;clear ho9 hV9 hp9 hc9))
  all_goals(
   go_wp2_with (fail)
   go_ret
   exact⟨v9,p9,rfl,by rw[HP.out];exact HO9.out,by rw[HBY.out];exact HV9.out,HP9.out,HC9.out⟩))
open Go
def PcsOk:List (Int×Bool)→List Int→Prop
 | [],A=>A= []
 | p::ps,A=>1≤p.1∧p.1≤A.length∧MayPc (A.take p.1.toNat)∧PcsOk ps (A.drop p.1.toNat)
theorem run_take {text:List Int} {n:Int} (h1:1≤n) (h2:n≤(runOf text).length):text.take n.toNat=(runOf text).take n.toNat:=by
 obtain⟨r,hr⟩:runOf text <+:text:=List.takeWhile_prefix isB
 rw[←hr,List.take_append_of_le_length (by omega)]
 have:runOf (runOf text++r)=runOf text:=by rw[hr]
 rw[this]
theorem splitGo_ok {kind:Int} {t:List Rg} {final:Bool} (ht:MayTab t):∀{k:Nat} {text:List Int} {op:Bool},text.length≤k→(∀y∈text,0≤y)→PcsOk (splitGo kind t final k text op) text
 | 0,text,op,h,_=>by
  have:text= []:=List.eq_nil_of_length_eq_zero (by omega)
  subst this
  rfl
 | k+1,text,op,h,hp=>by
  by_cases h0:text= []
  ·subst h0;rw[splitGo_nil];rfl
  ·have hl:=List.length_pos_iff.2 h0
   by_cases hr:runOf text= []
   ·cases text with
    | nil=>exact absurd rfl h0
    | cons m l=>
     have hm:isB m=false:=by
      cases hb:isB m with
      | false=>rfl
      | true=>simp[runOf,hb]at hr
     rw[splitGo_mark hm]
     have hm2:256≤m:=by
      have h1:=hp m (by simp)
      rcases Int.lt_or_le m 256 with h2 | h2
      ·rw[isB_iff.2 ⟨h1,h2⟩]at hm;cases hm
      ·exact h2
     refine⟨by simp,by simp;omega, .inl ⟨m,by simp,hm2⟩,?_⟩
     exact splitGo_ok ht (by simp only[List.length_cons]at h;show l.length≤k;omega) (fun y hy=>hp y (List.mem_of_mem_drop (i:=(1:Int).toNat) hy))
   ·obtain⟨⟨n,d⟩,hn⟩:∃x,nextF kind t (runOf text) (final || decide ((runOf text).length<text.length))=x:=⟨_,rfl⟩
    have hle:=nextF_le (kind:=kind) ht runOf_b hr (final || decide ((runOf text).length<text.length))
    rw[hn]at hle
    simp only at hle
    have hrl:=runOf_le text
    rw[splitGo_run hr hn]
    refine⟨hle.1,by simp only;omega, .inr ⟨?_,?_⟩,?_⟩
    ·simp only
     intro e
     have h9:=congrArg List.length e
     rw[List.length_take,List.length_nil]at h9
     omega
    ·simp only
     rw[run_take hle.1 hle.2]
     intro y hy
     exact runOf_b y (List.mem_of_mem_take hy)
    ·exact splitGo_ok ht (by simp only[List.length_drop];omega) (fun y hy=>hp y (List.mem_of_mem_drop hy))
theorem faultF_pos {V:Vc} {N:List ByteArray} {s:Int} (h:faultF V N s=0):0≤s∧s<256+(N.length:Int):=by
 unfold faultF at h
 by_cases h1:s<0∨256+(N.length:Int)≤s
 ·rw[if_pos h1]at h;cases h
 ·omega
theorem split_ok {V:Vc} {N:List ByteArray} {kind:Int} {t:List Rg} {final:Bool} (ht:MayTab t) {A:List Int} (hc:checkF V N A=0):PcsOk (splitF kind t A final) A:=
 splitGo_ok ht (Nat.le_refl _) (fun y hy=>(faultF_pos (checkF_all.1 hc y hy)).1)
theorem checkF_take {V:Vc} {N:List ByteArray} {A:List Int} (hc:checkF V N A=0) (k:Nat):checkF V N (A.take k)=0∧checkF V N (A.drop k)=0:=
 ⟨checkF_all.2 (fun s hs=>checkF_all.1 hc s (List.mem_of_mem_take hs)),checkF_all.2 (fun s hs=>checkF_all.1 hc s (List.mem_of_mem_drop hs))⟩
theorem wpList_ints_lies {w:World} {ops:Array Oper} {rest:List Oper} {o:Oper} {a:Act} {Q:Exit→Act→World→Prop} (hgd:o.guard=none) (s x:Operand)
  (ho:o.op= .call {callee:= .builtin .append,args:=#[s,x],argTypes:=#[43,43]})
  {base b m c k:Nat} {v:Value} {A R:List Int} (hs:a.eval s=v) (hown:Own w base v A) (hk:A.length=k) (hx:a.eval x= .slice (some ⟨b,0,none⟩) m c)
  (hl:SlI w (some ⟨b,0,none⟩) m c R) (hm0:0<m) (hm:k+m<1048576) (hbase:base≤w.heap.size)
  (hK:∀g cap' w',Own w' base (.slice (some ⟨g,0,none⟩) (k+m) cap') (A++R)→w.grownBy w' v.ownBlock→(v.ownBlock=some g∨g=w.heap.size)→wpList Tryz.prog ops Q rest (a.put o.dst (.slice (some ⟨g,0,none⟩) (k+m) cap')) w'):
  wpList Tryz.prog ops Q (o::rest) a w:=by
 obtain⟨i0,hi0,hz0,hz1,hz2⟩:=info_parts infoInt3
 subst hk
 have hRl:=hl.len
 refine wpList_append_lies (P:=Tryz.prog) (w:=w) hgd s x 43 ho base 3 i0 _ 1 8 Tryz.underlying43 hi0 hz0 hz1 hz2 rfl (by omega) _ A.length _ hs hown ⟨b,0,none⟩ m c (R.map (.int .i64)) hx (by rw[List.length_map];omega)
  (fun j u hu=> ?_) (int_one R) hm0 (by unfold maxLen;omega) (by omega) hbase w.heap.size rfl ?_
 ·obtain⟨b',o',e,hc⟩:=Sl.at_ hl j u hu
  simp only[Option.some.injEq,Addr.mk.injEq,and_true]at e
  obtain⟨rfl,rfl⟩:=e
  rw[Addr.add_lit];exact hc
 ·intro g cap' w' ho' hgr hat hlt
  refine hK g cap' w' ?_ hgr hat
  unfold Own
  rw[List.length_append,List.map_append,hRl]
  exact ho'
theorem two_sl {w:World} {tb:Nat} {x m:Int} {t:TypeId} (h:w.heap[tb]?=some (.cells #[.int .i64 x, .int .i64 m] t)):SlI w (some ⟨tb,0,none⟩) 2 2 [x,m]:=by
 refine⟨rfl,Nat.le_refl _,by unfold maxLen;omega,fun h=>(by cases h),fun i u hu=>⟨tb,0,rfl,?_⟩⟩
 match i,hu with
 | 0,hu=>simp at hu;subst hu;simp[World.cell?,h]
 | 1,hu=>simp at hu;subst hu;simp[World.cell?,h]
 | i+2,hu=>simp at hu
theorem Cch.base {cb mb base:Nat} {no no':Option Addr} {w w':World} (h:Cch cb mb no no' w w') (hf:∀q,Ft cb mb no q→base≤q) (hb:base≤w.heap.size):Below base w w':=
 ⟨h.os,h.tape,h.output,h.size,fun q hq=>h.block q (by omega) (fun e=>by have:=hf q e;omega)⟩
theorem stepF_pos {M:List Mg} {row r:List Int} (h:stepF M row=some r):0<r.length:=by
 have hl:=stepF_len h
 unfold stepF at h
 split at h
 ·next he=>
  obtain⟨a,b,h1,h2,h3⟩:=he.choose_spec.at_
  have:=(List.getElem?_eq_some_iff.1 h2).1
  omega
 ·cases h
theorem runF_pos {M:List Mg}:∀(k:Nat) (r:List Int),0<r.length→0<(runF M k r).length
 | 0,r,h=>h
 | k+1,r,h=>by
  cases hs:stepF M r with
  | none=>rw[runF_end hs];exact h
  | some r'=>
   have:=runF_pos k r' (stepF_pos hs) (M:=M)
   simp only[runF,hs]
   exact this
theorem encF_pos {V:Vc} {A:List Int} (h:0<A.length):0<(encF V A).length:=
 runF_pos (M:=V.merges) A.length (rowOf V A) (by rw[rowOf_len];exact h)
theorem pieceF_len {V:Vc} {N:List ByteArray} {A:List Int} (hc:checkF V N A=0) (hm:MayPc A):0<(pieceF V N A).length∧(pieceF V N A).length≤A.length:=by
 rcases hm with⟨x,rfl,hx⟩ | ⟨hne,hb⟩
 ·rw[pieceF_mark hc hx];simp
 ·rw[pieceF_bytes hc hne hb]
  exact⟨encF_pos (List.length_pos_iff.2 hne),encF_le V A⟩
def byN:List (Int×Bool)→List Int→Int
 | [],_=>0
 | p::ps,A=>isBy (A.take p.1.toNat)+byN ps (A.drop p.1.toNat)
theorem isBy_01 (A:List Int):0≤isBy A∧isBy A≤1:=by
 unfold isBy;split<;>omega
theorem PcsOk.len:∀{ps:List (Int×Bool)} {A:List Int},PcsOk ps A→ps.length≤A.length
 | [],A,h=>Nat.zero_le _
 | p::ps,A,h=>by
  have:=PcsOk.len h.2.2.2
  have:=h.1
  have:=h.2.1
  simp only[List.length_drop,List.length_cons]at *
  omega
theorem pieceQ_calls {P:Nat→Prop} {V:Vc} {N:List ByteArray} {kind:Int} {T:List Rg} {base g:Nat} {room:Int} {cnt:Int} {A:List Int} {ao:Option Addr} {n c:Nat} (w:World) (h:Cdr w base g V N kind T room cnt P) (hM:May V) (hN:N.length≤16) (hr:room≤1048576)
  (hA:SlI w ao n c A) (hn:n≤100000) (hm:MayPc A) (hc:checkF V N A=0) (hcnt:cnt<1000000):
  Calls Tryz.prog 59 #[.pointer (some ⟨g,0,none⟩), .slice ao n c] w (PcQ w base g V N kind T room cnt P (pieceF V N A) (isBy A)):=by
 have hl:=hA.len
 rcases hm with⟨x,rfl,hx⟩ | ⟨hne,hb⟩
 ·simp only[List.length_singleton]at hl
  subst hl
  exact pieceQ_mark w h hN hA hx hc
 ·exact pieceQ_bytes w h hM hN hr hA (by have:=List.length_pos_iff.2 hne;omega) hn hb hc hcnt
def EncQ (w:World) (base g:Nat) (V:Vc) (N:List ByteArray) (kind:Int) (T:List Rg) (room cnt:Int) (P:Nat→Prop) (R:List Int) (d:Int) (e:Ending) (w':World):Prop:=
 ∃v P',e= .returned (.tuple #[v, .int .i64 0])∧Own w' w.heap.size v R∧Cdr w' base g V N kind T room (cnt+d) P'∧(∀q,P' q→P q∨w.heap.size≤q)∧(∀q,v.ownBlock=some q→¬P' q)∧Keeps P w w'
structure EnL (V:Vc) (N:List ByteArray) (ps:List (Int×Bool)) (w1 wr:World) (base g:Nat) (kind:Int) (T:List Rg) (room cnt:Int) (P:Nat→Prop) (ao:Option Addr) (n c:Nat) (A R:List Int) (D:Int) (k:Nat) (O B:List Int) (bo:Option Addr) (m c':Nat) (P':Nat→Prop) (d:Int) (o:Value):Prop where
 own:Own wr w1.heap.size o O
 cdr:Cdr wr base g V N kind T room (cnt+d) P'
 sub:∀q,P' q→P q∨w1.heap.size≤q
 fresh:∀q,o.ownBlock=some q→¬P' q
 kp:Keeps (fun q=>P q∨w1.heap.size≤q) w1 wr
 sl:∀W,SlI W ao n c A→SlI W bo m c' B
 ok:PcsOk (ps.drop k) B
 ck:checkF V N B=0
 tot:O++piecesT V N (ps.drop k) B=R
 by_:d+byN (ps.drop k) B=D
 le:O.length+B.length≤n∧d+B.length≤n∧0≤d
theorem tencode_calls {P:Nat→Prop} {V:Vc} {N:List ByteArray} {kind:Int} {T:List Rg} {base g:Nat} {room:Int} {cnt:Int} {A:List Int} {ao:Option Addr} {n c:Nat} (w:World) (h:Cdr w base g V N kind T room cnt P) (hM:May V) (hN:N.length≤16) (hT:MayTab T) (hk0:0≤kind) (hk3:kind≤3) (hr:room≤1048576)
  (hA:SlI w ao n c A) (hAo:∀ad,ao=some ad→0<n→ad.block<w.heap.size∧¬P ad.block) (hn:n≤100000) (hcnt:cnt+n<1000000) (hc:checkF V N A=0):
  Calls Tryz.prog 17 #[.pointer (some ⟨g,0,none⟩), .slice ao n c] w (EncQ w base g V N kind T room cnt P (textF V N kind T A) (byN (splitF kind T A true) A)):=by
 obtain⟨ps,hps⟩:∃ps,splitF kind T A true=ps:=⟨_,rfl⟩
 have hok:PcsOk ps A:=hps▸split_ok hT hc
 obtain⟨cb,hcod⟩:=h.cod
 have hCk:=check_calls w hcod hN hA (by omega)
 rw[hc]at hCk
 have hSp:=tsplit_calls true w hcod hA (by omega) hT hk0 hk3
 rw[hps]at hSp
 obtain⟨R,hR⟩:∃R,textF V N kind T A=R:=⟨_,rfl⟩
 have htot:piecesT V N ps A=R:=by rw[←hR,textF,hps]
 rw[hR,hps]
 obtain⟨D,hD⟩:∃D,byN ps A=D:=⟨_,rfl⟩
 rw[hD]
 have hAl:=hA.len
 have hps1:ps.length≤100000:=by have:=hok.len;omega
 have HCK:=Lib.hid hCk
 have HSP:=Lib.hid hSp
 have HV:=Lib.hid h
 have HA:=Lib.hid hA
 have HAL:=Lib.hid hAl
 have HAO:=Lib.hid hAo
 have HMY:=Lib.hid hM
 have HI:=Lib.hid (And.intro hok (And.intro hc (And.intro htot hD)))
 have HCN:=Lib.hid hcnt
 clear h hA hAl hAo hc hps hCk hSp hM hok hR htot hD hcod hcnt
 obtain⟨i0,hi0,hz0,hz1,hz2⟩:=info_parts infoInt3
 go_enter Tryz.func17,Tryz.ntmps17
 go_wp2_with (go_at_call 33;refine HCK.out.mono ?_;rintro e w1 ⟨rfl,rfl⟩)
 go_at_call 18
 refine HSP.out.mono ?_
 rintro e w1 ⟨⟨pv,rfl,ho⟩,hb1⟩
 obtain⟨pa,pc',rfl,hps⟩:=ho.sl
 have hplt:0<ps.length→∀ad,pa=some ad→ad.block<w1.heap.size∧w.heap.size≤ad.block:=fun hl ad e=>by
  obtain⟨pb,pc,hpv,hpb,hpl⟩:=OwnF.at0 ho hl
  obtain⟨rfl,-,rfl⟩:=Value.slice.inj hpv
  obtain rfl:(⟨pb,0,none⟩:Addr)=ad:=Option.some.inj e
  exact⟨hpl,hpb⟩
 have HPS:=Lib.hid hps
 have HPL:=Lib.hid hplt
 have HB1:=Lib.hid hb1
 have HPW:=Lib.hid (fun q (hq:P q)=>(HV.out.lt q hq).2)
 clear ho hps hplt hb1
 go_wp2_with (fail)
 go_loopw [1,7,20] (fun tx o i wr=>∃(k:Nat) (O B:List Int) (bo:Option Addr) (m c':Nat) (P':Nat→Prop) (d:Int),k≤ps.length∧i= .int .i64 k∧tx= .slice bo m c'∧Hid (EnL V N ps w1 wr base g kind T room cnt P ao n c A R D k O B bo m c' P' d o)) (fun _ _ i _=>ps.length-(intOf i).toNat)
 case atStart=>exact⟨0,[],A,ao,n,c,P,0,Nat.zero_le _,rfl,rfl,Lib.hid ⟨Own.nil _ _,by rw[Int.add_zero];exact HV.out.below HB1.out,fun q hq=> .inl hq,fun q hq=>(by cases hq),Keeps.refl _ _,fun W hW=>hW,HI.out.1,HI.out.2.1,HI.out.2.2.1,by rw[Int.zero_add];exact HI.out.2.2.2,by have:=HAL.out;simp;omega⟩⟩
 case round=>
  obtain⟨k,O,B,bo,m,c',P',d,hk,rfl,rfl,HL⟩:=hrel
  obtain⟨ov,hov⟩:∃ov,ov=u7:=⟨_,rfl⟩
  subst hov
  by_cases hlt:k<ps.length
  ·obtain⟨⟨pn,pd⟩,hp⟩:∃x,ps[k]=x:=⟨_,rfl⟩
   have hdr:ps.drop k=(pn,pd)::ps.drop (k+1):=by rw[List.drop_eq_getElem_cons hlt,hp]
   have hok:=HL.out.ok
   rw[hdr]at hok
   obtain⟨h1,h2,h3,h4⟩:=hok
   simp only at h1 h2 h3 h4
   obtain⟨j,rfl⟩:∃j:Nat,pn=j:=⟨pn.toNat,by omega⟩
   rw[Int.toNat_natCast]at h3 h4
   have hBm:B.length=m:=by
    have hs:=HL.out.sl w HA.out
    exact hs.len
   have hjm:j≤m:=by omega
   have htot:=HL.out.tot
   have hby:=HL.out.by_
   rw[hdr]at htot hby
   simp only[piecesT,byN,Int.toNat_natCast]at htot hby
   have hPq:∀q,w.heap.size≤q→q<w1.heap.size→¬(P q∨w1.heap.size≤q):=fun q h1 h2 h3=>by
    rcases h3 with h3 | h3
    ·have:=HPW.out q h3;omega
    ·omega
   have hpw:SlF 2 wr pa ps.length pc' (flat pcEnc ps):=HPS.out.keep0 (fun ad e hl=>by
    obtain⟨a1,a2⟩:=HPL.out hl ad e
    exact HL.out.kp.block _ a1 (hPq _ a2 a1))
   obtain⟨b,of,rfl,hce⟩:=hpw.elem pcEnc_len (by omega) (k:=k) (x:=((j:Int),pd)) (by rw[←hp];exact List.getElem?_eq_getElem hlt)
   have d0:=hce 0 _ rfl
   have d1:=hce 1 _ rfl
   rw[Nat.add_zero]at d0
   simp only at d0 d1
   have gk:(k:Int)<(ps.length:Int):=by omega
   have hAw:SlI wr ao n c A:=(SlI.below HA.out HB1.out).keep0 (fun ad e hl=>by
    obtain⟨a1,a2⟩:=HAO.out ad e hl
    refine HL.out.kp.block _ (Nat.lt_of_lt_of_le a1 HB1.out.size) (fun hq=> ?_)
    rcases hq with hq | hq
    ·exact a2 hq
    ·have:=HB1.out.size;omega)
   have hBw:=HL.out.sl wr hAw
   have hb2:=below_alloc wr (.cells #[.int .i64 j, .bool pd] 51)
   have HSA:Hid (SlI (wr.alloc (.cells #[.int .i64 j, .bool pd] 51)) bo m c' B):=Lib.hid (SlI.below hBw hb2)
   obtain⟨W2,hW2⟩:∃W2,wr.alloc (.cells #[.int .i64 j, .bool pd] 51)=W2:=⟨_,rfl⟩
   have hx2:W2.heap[wr.heap.size]?=some (.cells #[.int .i64 j, .bool pd] 51):=by rw[←hW2];exact heap_alloc_new wr _
   have hS2:wr.heap.size<W2.heap.size:=by rw[←hW2];simp
   rw[hW2]at hb2
   have hcw:=HL.out.cdr
   have hckB:checkF V N (B.take j)=0:=(checkF_take HL.out.ck j).1
   have hckD:checkF V N (B.drop j)=0:=(checkF_take HL.out.ck j).2
   have hpl:=pieceF_len hckB h3
   rw[List.length_take]at hpl
   have hBW2:SlI W2 bo m c' B:=SlI.below hBw hb2
   have HPC:=Lib.hid (pieceQ_calls W2 (hcw.below hb2) HMY.out hN hr (hBW2.take hjm) (by have:=HL.out.le;omega) h3 hckB (by have:=HL.out.le;have:=HCN.out;omega))
   obtain⟨pr,hpr⟩:∃pr,pieceF V N (B.take j)=pr:=⟨_,rfl⟩
   rw[hpr]at HPC hpl htot
   obtain⟨dd,hdd⟩:∃dd,isBy (B.take j)=dd:=⟨_,rfl⟩
   have hd01:=isBy_01 (B.take j)
   rw[hdd]at HPC hby hd01
   have HF:=Lib.hid (And.intro h4 (And.intro hckD (And.intro htot (And.intro hby (And.intro hpl hd01)))))
   have HW2:=Lib.hid hW2
   have HX2:=Lib.hid hx2
   have HS2:=Lib.hid hS2
   have HB2:=Lib.hid hb2
   have HBM:=Lib.hid hBm
   have HLE:=Lib.hid (Sl.le hBw)
   have HCL:=Lib.hid hcw.lt
   clear hce hpw hAw hBw hb2 hW2 hx2 hS2 hcw hckB hckD hpl hBW2 h1 h2 h3 h4 htot hby hPq hp hdr hpr hdd hd01 hBm
   go_wp2_with (with_reducible show wpList _ _ _ (⟨_, .slice _ _ none (some _) none,_,_,_,_⟩::_) _ _;refine wpList_int_high rfl 43 _ _ rfl 3 i0 Tryz.underlying43 hi0 hz1 (k:=j) rfl HSA.out rfl rfl hjm ?_;intro hb';clear hb')
   rw[HW2.out]
   go_at_call 59
   refine HPC.out.mono ?_
   rintro e w3 ⟨v3,P3,rfl,ho3,hV3,hs3,hk3'⟩
   obtain⟨rb,rc,hv3⟩:=own_at0 ho3 HF.out.2.2.2.2.1.1
   subst hv3
   obtain⟨ra,rc',e3,hsl3⟩:=ho3.sl
   obtain⟨rfl,-,rfl⟩:=Value.slice.inj e3
   have h9:w3.cell? ⟨wr.heap.size,0,none⟩=some (.int .i64 j):=by
    have hh:=hk3'.block wr.heap.size HS2.out (fun hq=>by have:=(HCL.out _ hq).2;omega)
    rw[World.cell?_of_block (w:=W2) hh]
    simp[World.cell?,HX2.out]
   have hlt7:∀q,ov.ownBlock=some q→w1.heap.size≤q∧q<wr.heap.size:=fun q hq=>World.ownsRow.lt HL.out.own q hq
   have HO3:Hid (Own w3 w1.heap.size ov O):=Lib.hid (own_stay (HL.out.own.below HB2.out) (fun q hq=>hk3'.block q (Nat.lt_trans (hlt7 q hq).2 HS2.out) (HL.out.fresh q hq)))
   have HS3:Hid (W2.heap.size≤w3.heap.size):=Lib.hid hk3'.size
   have HSL3:=Lib.hid hsl3
   have HV3:=Lib.hid hV3
   have HK3:=Lib.hid hk3'
   have HP3:=Lib.hid hs3
   have H7:=Lib.hid hlt7
   have HBS:Hid (w1.heap.size≤w3.heap.size):=Lib.hid (by have:=HL.out.kp.size;have:=HS2.out;have:=HS3.out;omega)
   have hPL:0<pr.length∧O.length+pr.length<1048576:=⟨HF.out.2.2.2.2.1.1,by have:=HF.out.2.2.2.2.1.2;have:=HL.out.le;have:=HBM.out;omega⟩
   clear ho3 e3 hsl3 hV3 hk3' hs3 hlt7 d0 d1
   obtain⟨oa,oc,hov,-⟩:=HO3.out.sl
   subst hov
   go_wp2_with (first
    | (at_builtin;refine wpList_ints_lies rfl _ _ rfl (base:=w1.heap.size) (v:= .slice oa O.length oc) (k:=O.length) (m:=pr.length) rfl HO3.out rfl rfl HSL3.out hPL.1 hPL.2 HBS.out ?_;intro gg cap w4 ho4 hg4 hat4;have k9:w4.cell? ⟨wr.heap.size,0,none⟩=some (.int .i64 j):=(World.cell?_of_block (w:=w3) (hg4.block wr.heap.size (Nat.lt_of_lt_of_le HS2.out HS3.out) (fun e=>by have:=(H7.out _ e.symm).2;omega))).trans h9;have HO4:=Lib.hid ho4;have HG4:=Lib.hid hg4;have HAT4:=Lib.hid hat4;clear ho4 hg4 hat4)
    | (with_reducible show wpList _ _ _ (⟨_, .slice _ _ (some _) none none,_,_,_,_⟩::_) _ _;refine wpList_slice_low_at rfl 43 _ _ rfl 3 i0 Tryz.underlying43 hi0 hz1 bo m c' rfl HLE.out .i64 (j:Int) j rfl rfl hjm ?_;intro bo' hbo;have HBO:=Lib.hid hbo;clear hbo))
   have hnP:∀q,(Value.slice oa O.length oc).ownBlock=some q→¬P3 q:=fun q hq h3=>by
    rcases HP3.out q h3 with h3 | h3
    ·exact HL.out.fresh q hq h3
    ·have:=(H7.out q hq).2;have:=HS2.out;omega
   have HEN:Hid (EnL V N ps w1 w4 base g kind T room cnt P ao n c A R D (k+1) (O++pr) (B.drop j) bo' (m-j) (c'-j) P3 (d+dd) (.slice (some ⟨gg,0,none⟩) (O.length+pr.length) cap)):=Lib.hid (by
    obtain⟨f1,f2,f3,f4,f5,f6⟩:=HF.out
    refine⟨HO4.out,?_,fun q hq=> ?_,fun q hq h3=> ?_,?_,fun W hW=> ?_,f1,f2,by rw[List.append_assoc];exact f3,by rw[Int.add_assoc];exact f4,?_⟩
    ·have h:=HV3.out
     rw[Int.add_assoc]at h
     exact h.stay (fun q hq=>HG4.out.block q (h.lt q hq).2 (fun e=>hnP q e.symm hq)) HG4.out.size
    ·rcases HP3.out q hq with h3 | h3
     ·exact HL.out.sub q h3
     ·exact .inr (by have:=HL.out.kp.size;have:=HS2.out;omega)
    ·obtain rfl:gg=q:=by simpa[Value.ownBlock]using hq
     rcases HAT4.out with h5 | h5
     ·exact hnP gg h5 h3
     ·have:=(HV3.out.lt gg h3).2;omega
    ·refine Keeps.grown (((HL.out.kp.trans (Keeps.of_below HB2.out)).trans (HK3.out.mono (fun q _ hq=>HL.out.sub q hq)))) HG4.out (fun q e hq=> .inr (H7.out q e).1)
    ·have:=HBO.out W _ (HL.out.sl W hW)
     unfold SlI
     rw[List.map_drop]
     exact this
    ·have:=HL.out.le
     have:=HBM.out
     rw[List.length_append,List.length_drop]
     omega)
   clear hnP k9 h9
   go_wp2_with (fail)
   go_roundw
   case rel=>exact⟨k+1,_,_,bo',m-j,c'-j,P3,d+dd,by omega,by go_num,rfl,HEN⟩
   case measure=>simp[intOf];omega
  ·obtain rfl:k=ps.length:=by omega
   have HE:Hid (O=R∧d=D):=Lib.hid (by
    have h1:=HL.out.tot
    have h2:=HL.out.by_
    rw[List.drop_length]at h1 h2
    simp only[piecesT,byN,List.append_nil]at h1 h2
    exact⟨h1,by omega⟩)
   go_wp2_with (fail)
   refine bodyPost_ret (v:= .tuple #[ov, .int .i64 0]) ?_ rfl ⟨ov,P',rfl,?_,?_,fun q hq=> ?_,HL.out.fresh,?_⟩
   ·simp[results,Tryz.results17,go_sem]
   ·rw[←HE.out.1];exact HL.out.own.mono HB1.out.size
   ·rw[←HE.out.2];exact HL.out.cdr
   ·exact(HL.out.sub q hq).imp id (fun h=>Nat.le_trans HB1.out.size h)
   ·exact((Keeps.of_below HB1.out).trans HL.out.kp).mono (fun q h1 h2=>h2.resolve_right (fun h3=>by have:=HB1.out.size;omega))
theorem tencode_fault {V:Vc} {N:List ByteArray} {kind:Int} {T:List Rg} {base g cb:Nat} {A:List Int} {ao:Option Addr} {n c:Nat} (w:World) (hcod:TCod w base g V N kind T cb) (hN:N.length≤16)
  (hA:SlI w ao n c A) (hn:n≤100000) (hc:checkF V N A≠0):
  Calls Tryz.prog 17 #[.pointer (some ⟨g,0,none⟩), .slice ao n c] w (fun e w'=>e= .returned (.tuple #[.slice none 0 0, .int .i64 (checkF V N A)])∧w'=w):=by
 have hCk:=check_calls w hcod hN hA (by omega)
 obtain⟨x,hx⟩:∃x,checkF V N A=x:=⟨_,rfl⟩
 rw[hx]at hCk hc ⊢
 have gx:(x==0)=false:=by simpa using hc
 have HCK:=Lib.hid hCk
 clear hCk hx hc
 go_enter Tryz.func17,Tryz.ntmps17
 go_wp2_with (go_at_call 33;refine HCK.out.mono ?_;rintro e w1 ⟨rfl,rfl⟩)
 refine bodyPost_ret (v:= .tuple #[.slice none 0 0, .int .i64 x]) ?_ rfl ⟨rfl,rfl⟩
 simp[results,Tryz.results17,go_sem]
def rowsN (n:Nat):List Rw:=(List.range n).map fun b=>⟨one b,(b:Int)⟩
theorem rowsN_succ (n:Nat):rowsN (n+1)=rowsN n++ [⟨one n,(n:Int)⟩]:=by
 unfold rowsN;rw[List.range_succ,List.map_append];rfl
theorem rowsN_mem {n:Nat} {r:Rw} (h:r∈rowsN n):∃b,b<n∧r=⟨one b,(b:Int)⟩:=by
 unfold rowsN at h
 obtain⟨b,hb,rfl⟩:=List.mem_map.1 h
 exact⟨b,List.mem_range.1 hb,rfl⟩
theorem rowsN_len (n:Nat):(rowsN n).length=n:=by simp[rowsN]
theorem rowsN_tok (n i:Nat):tokAt (rowsN n) i=if i<n then one i else ByteArray.empty:=by
 induction n with
 | zero=>rfl
 | succ n ih=>
  rw[rowsN_succ]
  by_cases e:i=n
  ·subst e
   rw[tokAt_snoc (fun r hr=>by obtain⟨b,hb,rfl⟩:=rowsN_mem hr;simp only;omega)]
   simp
  ·rw[tokAt_snoc_other (by simp only;omega),ih]
   by_cases h:i<n
   ·rw[if_pos h,if_pos (by omega)]
   ·rw[if_neg h,if_neg (by omega)]
def abS:ByteArray:=⟨#[97,98]⟩
def R0:List Rw:=rowsN 256++ [⟨abS,256⟩]
def T0:List ByteArray:=(List.range 256).map one++ [abS]
theorem T0_len:T0.length=257:=by simp[T0]
theorem T0_low {i:Nat} (h:i<256):tk T0 i=one i:=by
 unfold tk T0
 rw[List.getD_eq_getElem?_getD,List.getElem?_append_left (by simpa using h)]
 simp[h]
theorem T0_top:tk T0 256=abS:=by
 unfold tk T0
 rw[List.getD_eq_getElem?_getD,List.getElem?_append_right (by simp)]
 simp
theorem one_inj {i j:Nat} (hi:i<256) (hj:j<256) (h:one i=one j):i=j:=by
 unfold one at h
 simp only[ByteArray.mk.injEq,Array.mk.injEq,List.cons.injEq,and_true]at h
 have:=congrArg UInt8.toNat h
 simp at this
 omega
theorem uniq_T0:Uniq T0:=fun i j h1 h2 e=>by
 rw[T0_len]at h2
 by_cases hj:j=256
 ·subst hj
  rw[T0_low (by omega),T0_top]at e
  have:=congrArg ByteArray.size e
  simp[one,abS,ByteArray.size]at this
 ·rw[T0_low (by omega),T0_low (by omega)]at e
  have:=one_inj (by omega) (by omega) e
  omega
def m0:Mg:=⟨97,98,256,256⟩
theorem ok_R0:OkRows R0 []:=by
 refine⟨by simp,fun r hr=> ?_,?_⟩
 ·rcases List.mem_append.1 hr with h | h
  ·obtain⟨b,hb,rfl⟩:=rowsN_mem h
   simp only;omega
  ·obtain rfl:=List.mem_singleton.1 h
   simp only;omega
 ·unfold R0
  rw[List.pairwise_append]
  refine⟨?_,by simp,fun a ha b hb=> ?_⟩
  ·unfold rowsN
   rw[List.pairwise_map]
   exact List.pairwise_lt_range.imp (fun h=>by simp only;omega)
  ·obtain⟨q,hq,rfl⟩:=rowsN_mem ha
   obtain rfl:=List.mem_singleton.1 hb
   simp only;omega
theorem infoRwL:(Tryz.prog.info? 123).map (fun i=>(i.zero.map (·.cells.size),i.size,i.bytes))=some (some 2,2,24):=by kernel_rfl
theorem infoSpL:(Tryz.prog.info? 58).map (fun i=>(i.zero.map (·.cells.size),i.size,i.bytes))=some (some 2,2,24):=by kernel_rfl
theorem Rw.enc_oneL (x:Rw):∀v∈x.enc,v.oneCell'=true:=by
 intro v hv
 simp[Rw.enc]at hv
 rcases hv with rfl | rfl<;>rfl
theorem Sp.enc_oneL (x:Sp):∀v∈x.enc,v.oneCell'=true:=by
 intro v hv
 simp[Sp.enc]at hv
 rcases hv with rfl | rfl<;>rfl
def moreN (M:List ByteArray) (k:Nat):List Rw:=(List.range k).map fun i=>⟨tk M i,256+(i:Int)⟩
def namesN (M N:List ByteArray) (k:Nat):List Sp:=(List.range k).map fun i=>⟨tk N i,256+(M.length:Int)+(i:Int)⟩
def lettersR (M:List ByteArray):List Rw:=rowsN 256++moreN M M.length
def lettersS (M N:List ByteArray):List Sp:=namesN M N N.length
theorem moreN_succ (M:List ByteArray) (k:Nat):moreN M (k+1)=moreN M k++ [⟨tk M k,256+(k:Int)⟩]:=by
 unfold moreN;rw[List.range_succ,List.map_append];rfl
theorem namesN_succ (M N:List ByteArray) (k:Nat):namesN M N (k+1)=namesN M N k++ [⟨tk N k,256+(M.length:Int)+(k:Int)⟩]:=by
 unfold namesN;rw[List.range_succ,List.map_append];rfl
theorem moreN_len (M:List ByteArray) (k:Nat):(moreN M k).length=k:=by simp[moreN]
theorem namesN_len (M N:List ByteArray) (k:Nat):(namesN M N k).length=k:=by simp[namesN]
theorem not_slice {w:World} {g b k:Nat} {u:Value} {a0 a1 a2:Option Addr} {n0 n1 n2 c0 c1 c2:Nat} {t:TypeId} (hg:w.heap[g]?=some (.cells #[.slice a0 n0 c0, .slice a1 n1 c1, .slice a2 n2 c2] t)) (hc:w.cell? ⟨b,k,none⟩=some u) (hv:∀a n c,u≠ .slice a n c):b≠g:=by
 rintro rfl
 simp only[World.cell?,hg]at hc
 have:=Array.mem_of_getElem? hc
 simp at this
 rcases this with h | h | h<;>exact hv _ _ _ h
theorem Sl.notSl {w w':World} {g:Nat} {ao:Option Addr} {n cap:Nat} {vs:List Value} (h:Sl w ao n cap vs) (hv:∀u∈vs,∀a n c,u≠ .slice a n c) {a0 a1 a2:Option Addr} {n0 n1 n2 c0 c1 c2:Nat} {t:TypeId} (hg:w.heap[g]?=some (.cells #[.slice a0 n0 c0, .slice a1 n1 c1, .slice a2 n2 c2] t)) (hk:∀q,q≠g→w'.heap[q]?=w.heap[q]?):Sl w' ao n cap vs:=
 ⟨h.len,h.le,h.max,h.nil,fun i u hu=>let ⟨b,o,e,hc⟩:=h.at_ i u hu;⟨b,o,e,(World.cell?_of_block (a:=⟨b,o+i, .none⟩) (hk b (not_slice hg hc (hv u (List.mem_of_getElem? hu))))).trans hc⟩⟩
theorem SlF.notSl {s:Nat} {w w':World} {g:Nat} {ao:Option Addr} {n cap:Nat} {vs:List Value} (h:SlF s w ao n cap vs) (hv:∀u∈vs,∀a n c,u≠ .slice a n c) {a0 a1 a2:Option Addr} {n0 n1 n2 c0 c1 c2:Nat} {t:TypeId} (hg:w.heap[g]?=some (.cells #[.slice a0 n0 c0, .slice a1 n1 c1, .slice a2 n2 c2] t)) (hk:∀q,q≠g→w'.heap[q]?=w.heap[q]?):SlF s w' ao n cap vs:=
 ⟨h.len,h.le,h.max,h.nil,fun i u hu=>let ⟨b,o,e,hc⟩:=h.at_ i u hu;⟨b,o,e,(World.cell?_of_block (a:=⟨b,o+i, .none⟩) (hk b (not_slice hg hc (hv u (List.mem_of_getElem? hu))))).trans hc⟩⟩
theorem VocR.notSl {w w':World} {g:Nat} {d:Vd} {V:Vc} (h:VocR w d V) {a0 a1 a2:Option Addr} {n0 n1 n2 c0 c1 c2:Nat} {t:TypeId} (hg:w.heap[g]?=some (.cells #[.slice a0 n0 c0, .slice a1 n1 c1, .slice a2 n2 c2] t)) (hk:∀q,q≠g→w'.heap[q]?=w.heap[q]?):VocR w' d V:=by
 refine⟨Sl.notSl h.tok (fun u hu=> ?_) hg hk,SlF.notSl h.mrg (fun u hu=> ?_) hg hk,SlF.notSl h.spc (fun u hu=> ?_) hg hk⟩
 ·obtain⟨x,_,rfl⟩:=List.mem_map.1 hu
  intro a n c e;cases e
 ·obtain⟨x,_,hx⟩:=List.mem_flatMap.1 hu
  simp[Mg.enc]at hx
  rcases hx with rfl | rfl | rfl | rfl<;>(intro a n c e;cases e)
 ·obtain⟨x,_,hx⟩:=List.mem_flatMap.1 hu
  simp[Sp.enc]at hx
  rcases hx with rfl | rfl<;>(intro a n c e;cases e)
theorem letters_calls {M N:List ByteArray} {mo no:Option Addr} {mn mc nn nc:Nat} (w:World) (hM:SlS w mo mn mc M) (hN:SlS w no nn nc N) (hMs:∀s∈M,s.size≤maxLen) (hNs:∀s∈N,s.size≤maxLen) (hmn:mn≤1000) (hnn:nn≤20):
  Calls Tryz.prog 45 #[.slice mo mn mc, .slice no nn nc] w (RFromPost (lettersR M) (lettersS M N) w):=by
 obtain⟨i0,z0,hi,hz0,hz1,hz2,hz3⟩:=info_row infoRwL
 obtain⟨j0,y0,hj,hy0,hy1,hy2,hy3⟩:=info_row infoSpL
 obtain⟨wa,hwa⟩:∃wa,w.alloc (.cells #[.slice none 0 0, .slice none 0 0, .slice none 0 0] 26)=wa:=⟨_,rfl⟩
 obtain⟨w0,hw0⟩:∃w0,wa.alloc (.cells #[] 123)=w0:=⟨_,rfl⟩
 have hba:Below w.heap.size w wa:=hwa▸below_alloc w _
 have hsa:wa.heap.size=w.heap.size+1:=by rw[←hwa];simp
 have HXA:Hid (wa.heap[w.heap.size]?=some (.cells #[.slice none 0 0, .slice none 0 0, .slice none 0 0] 26)):=Lib.hid (by rw[←hwa];exact heap_alloc_new w _)
 have HO0:Hid (OwnF Rw.enc 2 123 w0 wa.heap.size (.slice (some ⟨w.heap.size+1,0,none⟩) 0 0) []):=Lib.hid (by rw[←hw0,←hsa];exact OwnF.made0 wa)
 have HBA:Hid (Below w.heap.size w wa):=Lib.hid hba
 have HBA0:Hid (Below wa.heap.size wa w0):=Lib.hid (by rw[←hw0];exact below_alloc wa _)
 have HSZ1:Hid (w.heap.size<wa.heap.size):=Lib.hid (by omega)
 have HMR:=Lib.hid (Sl.below hM hba)
 have HNR:=Lib.hid (Sl.below hN hba)
 have HML:Hid (M.length=mn):=Lib.hid hM.count
 have HNL:Hid (N.length=nn):=Lib.hid hN.count
 have HMS:=Lib.hid hMs
 have HNS:=Lib.hid hNs
 have HW0:=Lib.hid hw0
 have HWA:=Lib.hid hwa
 clear hba hw0 hwa hsa hM hN hMs hNs
 go_enter Tryz.func45,Tryz.ntmps45
 go_wp2_with (fail)
 rw[HWA.out,HW0.out]
 go_loopw [6,7] (fun v i wr=>∃k:Nat,k≤256∧i= .int .i64 k∧OwnF Rw.enc 2 123 wr wa.heap.size v (rowsN k)∧Below wa.heap.size wa wr) (fun _ i _=>256-(intOf i).toNat)
 case atStart=>exact⟨0,by omega,rfl,HO0.out,HBA0.out⟩
 case round=>
  obtain⟨k,hk,rfl,ho,hb⟩:=hrel
  by_cases hlt:k<256
  ·have hw8:IntKind.u8.wrap (k:Int)=(k:Int):=by rw[IntKind.wrap_u8];omega
   have hcv:=conv_one wr k
   have hln:=rowsN_len k
   obtain⟨Ls,hLs⟩:∃Ls,rowsN k=Ls:=⟨_,rfl⟩
   rw[hLs]at ho hln
   have HLS:=Lib.hid hLs
   obtain⟨vo,vc,rfl,_⟩:=ho.sl
   have HLN:=Lib.hid hln
   rw[hln]at ho ⊢
   have HBS:=Lib.hid hb.size
   have HO3:Hid (OwnF Rw.enc 2 123 ((wr.alloc (.cells #[.int .u8 (k:Int)] 5)).alloc (.cells #[.string (one k), .int .i64 (k:Int)] 123)) wa.heap.size (.slice vo k vc) Ls):=Lib.hid ((ho.alloc _).alloc _)
   have HS3:Hid (SlF 2 ((wr.alloc (.cells #[.int .u8 (k:Int)] 5)).alloc (.cells #[.string (one k), .int .i64 (k:Int)] 123)) (some ⟨wr.heap.size+1,0,none⟩) 1 1 (flat Rw.enc [⟨one k,k⟩])):=Lib.hid (by
    have:=SlF.one Rw.enc_len (wr.alloc (.cells #[.int .u8 (k:Int)] 5)) ⟨one k,k⟩ 123 (cs:=#[.string (one k), .int .i64 (k:Int)]) rfl
    simpa using this)
   have HB:=Lib.hid hb
   clear ho hb hln hLs
   go_wp2_with (at_builtin;go_loud (refine wpList_flat_app rfl _ _ 120 rfl i0 z0 24 Tryz.underlying120 hi hz0 hz1 hz2 hz3 Rw.enc_len (by omega) Rw.enc_oneL rfl HO3.out rfl HS3.out (by have:=HLN.out;unfold maxLen;omega) (by have:=HLN.out;omega) (by have:=HBS.out;simp;omega) ?_))
   intro v' w' ho' hg' hb'
   have HO':=Lib.hid ho'
   have HB':=Lib.hid (((HB.out.alloc HB.out.size _).alloc (by have:=HBS.out;simp;omega) _).trans hb')
   clear ho' hg' hb'
   go_wp2_with (fail)
   go_roundw
   case rel=>exact⟨k+1,by omega,by go_num,by rw[rowsN_succ,HLS.out];exact HO'.out,HB'.out⟩
   case measure=>simp[intOf];omega
  ·have HK:Hid (k=256):=Lib.hid (by omega)
   have hln:=rowsN_len k
   obtain⟨Ls,hLs⟩:∃Ls,rowsN k=Ls:=⟨_,rfl⟩
   rw[hLs]at ho hln
   have HLS:Hid (rowsN 256=Ls):=Lib.hid (by rw[←hLs,HK.out])
   have HLN:Hid (Ls.length=256):=Lib.hid (by rw[hln,HK.out])
   have HO:=Lib.hid ho
   have HB:=Lib.hid hb
   clear hLs hln ho hb
   go_wp2_with (fail)
   go_loopw [6,27] (fun v i wr=>∃k:Nat,k≤mn∧i= .int .i64 k∧OwnF Rw.enc 2 123 wr wa.heap.size v (Ls++moreN M k)∧Below wa.heap.size wa wr) (fun _ i _=>mn-(intOf i).toNat)
   case atStart=>exact⟨0,Nat.zero_le _,rfl,by simpa[moreN]using HO.out,HB.out⟩
   case round=>
    obtain⟨k',hk,rfl,ho,hb⟩:=hrel
    obtain⟨X,hX⟩:∃X,Ls++moreN M k'=X:=⟨_,rfl⟩
    have hxl:X.length=256+k':=by rw[←hX,List.length_append,HLN.out,moreN_len]
    rw[hX]at ho
    have HX:=Lib.hid hX
    have HXL:=Lib.hid hxl
    have HO:=Lib.hid ho
    have HB:=Lib.hid hb
    clear hX hxl ho hb
    by_cases hlt:k'<mn
    ·have hkM:k'<M.length:=by have:=HML.out;omega
     obtain⟨b,of,hao,hce⟩:=(HMR.out.below HB.out).at_ k' _ (by rw[List.getElem?_map,tk_eq hkM];rfl)
     subst hao
     obtain⟨s,hs⟩:∃s,tk M k'=s:=⟨_,rfl⟩
     rw[hs]at hce
     have HN:Hid (X++ [⟨s,256+(k':Int)⟩]=Ls++moreN M (k'+1)):=Lib.hid (by rw[moreN_succ,←List.append_assoc,HX.out,hs])
     have hwr:IntKind.i64.wrap (256+(k':Int))=256+(k':Int):=by rw[IntKind.wrap_i64];omega
     have HBS:=Lib.hid HB.out.size
     have HO3:Hid (OwnF Rw.enc 2 123 (wr.alloc (.cells #[.string s, .int .i64 (256+(k':Int))] 123)) wa.heap.size u6 X):=Lib.hid (HO.out.alloc _)
     have HS3:Hid (SlF 2 (wr.alloc (.cells #[.string s, .int .i64 (256+(k':Int))] 123)) (some ⟨wr.heap.size,0,none⟩) 1 1 (flat Rw.enc [⟨s,256+(k':Int)⟩])):=Lib.hid (SlF.one Rw.enc_len wr ⟨s,256+(k':Int)⟩ 123 (cs:=#[.string s, .int .i64 (256+(k':Int))]) rfl)
     clear hs hkM
     go_wp2_with (at_builtin;go_loud (refine wpList_flat_app rfl _ _ 120 rfl i0 z0 24 Tryz.underlying120 hi hz0 hz1 hz2 hz3 Rw.enc_len (by omega) Rw.enc_oneL rfl HO3.out rfl HS3.out (by have:=HXL.out;unfold maxLen;omega) (by have:=HXL.out;omega) (by have:=HBS.out;simp;omega) ?_))
     intro v' w' ho' hg' hb'
     rw[HN.out]at ho'
     have HO':=Lib.hid ho'
     have HB':=Lib.hid ((HB.out.alloc HB.out.size _).trans hb')
     clear ho' hg' hb'
     go_wp2_with (fail)
     go_roundw
     case rel=>exact⟨k'+1,by omega,by go_num,HO'.out,HB'.out⟩
     case measure=>simp[intOf];omega
    ·obtain rfl:k'=mn:=by omega
     have HRF:Hid (X=lettersR M):=Lib.hid (by rw[←HX.out,←HLS.out,←HML.out];rfl)
     rw[HRF.out]at HO
     obtain⟨ro,rc,rfl,hrs⟩:=HO.out.sl
     obtain⟨rn,hrn⟩:∃rn,(lettersR M).length=rn:=⟨_,rfl⟩
     rw[hrn]at hrs ⊢
     obtain⟨ws,hws⟩:∃ws,wr=ws:=⟨_,rfl⟩
     rw[hws]at HO HB hrs ⊢
     have HRS:=Lib.hid hrs
     clear hws
     obtain⟨wb,hwb⟩:∃wb,ws.alloc (.cells #[] 58)=wb:=⟨_,rfl⟩
     have HWB:=Lib.hid hwb
     have HBR:Hid (Below ws.heap.size ws wb):=Lib.hid (by rw[←hwb];exact below_alloc ws _)
     have HOS:Hid (OwnF Sp.enc 2 58 wb ws.heap.size (.slice (some ⟨ws.heap.size,0,none⟩) 0 0) []):=Lib.hid (by rw[←hwb];exact OwnF.made0 ws)
     clear hrn hwb hrs
     go_wp2_with (fail)
     rw[HWB.out]
     go_loopw [9,44] (fun v i wr2=>∃k2:Nat,k2≤nn∧i= .int .i64 k2∧OwnF Sp.enc 2 58 wr2 ws.heap.size v (namesN M N k2)∧Below ws.heap.size ws wr2) (fun _ i _=>nn-(intOf i).toNat)
     case atStart=>exact⟨0,Nat.zero_le _,rfl,HOS.out,HBR.out⟩
     case round=>
      obtain⟨q,hq,rfl,ho,hb⟩:=hrel
      obtain⟨Y,hY⟩:∃Y,namesN M N q=Y:=⟨_,rfl⟩
      have hyl:Y.length=q:=by rw[←hY,namesN_len]
      rw[hY]at ho
      have HY:=Lib.hid hY
      have HYL:=Lib.hid hyl
      have HO2:=Lib.hid ho
      have HB2:=Lib.hid hb
      have HBW:Hid (Below wa.heap.size wa wr):=Lib.hid (HB.out.trans (hb.mono HB.out.size))
      clear hY hyl ho hb
      by_cases hlt:q<nn
      ·have hqN:q<N.length:=by have:=HNL.out;omega
       obtain⟨b,of,hao,hce⟩:=(HNR.out.below HBW.out).at_ q _ (by rw[List.getElem?_map,tk_eq hqN];rfl)
       subst hao
       obtain⟨s,hs⟩:∃s,tk N q=s:=⟨_,rfl⟩
       rw[hs]at hce
       obtain⟨r,hr⟩:∃r:Nat,256+k'+q=r:=⟨_,rfl⟩
       have HN:Hid (Y++ [⟨s,(r:Int)⟩]=namesN M N (q+1)):=Lib.hid (by rw[namesN_succ,HY.out,hs,HML.out,←hr];simp)
       have hwr:IntKind.i64.wrap (256+(k':Int))=256+(k':Int):=by rw[IntKind.wrap_i64];omega
       have hwr2:IntKind.i64.wrap (256+(k':Int)+(q:Int))=(r:Int):=by rw[IntKind.wrap_i64];omega
       have HBS:=Lib.hid HB2.out.size
       have HO3:Hid (OwnF Sp.enc 2 58 (wr.alloc (.cells #[.string s, .int .i64 (r:Int)] 58)) ws.heap.size u9 Y):=Lib.hid (HO2.out.alloc _)
       have HS3:Hid (SlF 2 (wr.alloc (.cells #[.string s, .int .i64 (r:Int)] 58)) (some ⟨wr.heap.size,0,none⟩) 1 1 (flat Sp.enc [⟨s,(r:Int)⟩])):=Lib.hid (SlF.one Sp.enc_len wr ⟨s,(r:Int)⟩ 58 (cs:=#[.string s, .int .i64 (r:Int)]) rfl)
       clear hs hqN hr
       go_wp2_with (at_builtin;go_loud (refine wpList_flat_app rfl _ _ 24 rfl j0 y0 24 Tryz.underlying24 hj hy0 hy1 hy2 hy3 Sp.enc_len (by omega) Sp.enc_oneL rfl HO3.out rfl HS3.out (by have:=HYL.out;unfold maxLen;omega) (by have:=HYL.out;omega) (by have:=HBS.out;simp;omega) ?_))
       intro v' w' ho' hg' hb'
       rw[HN.out]at ho'
       have HO':=Lib.hid ho'
       have HB':=Lib.hid ((HB2.out.alloc HB2.out.size _).trans hb')
       clear ho' hg' hb'
       go_wp2_with (fail)
       go_roundw
       case rel=>exact⟨q+1,by omega,by go_num,HO'.out,HB'.out⟩
       case measure=>simp[intOf];omega
      ·obtain rfl:q=nn:=by omega
       have HSF:Hid (Y=lettersS M N):=Lib.hid (by rw[←HY.out,←HNL.out];rfl)
       rw[HSF.out]at HO2
       have HSL:Hid ((lettersS M N).length=q):=Lib.hid (by rw[←HSF.out];exact HYL.out)
       obtain⟨so,sc,rfl,hss⟩:=HO2.out.sl
       rw[HSL.out]at hss ⊢
       have hfr:=rfromRows_calls wr (HRS.out.below HB2.out) hss (fun r hr=>by
        rcases List.mem_append.1 hr with h | h
        ·obtain⟨b,_,rfl⟩:=rowsN_mem h
         show 1≤maxLen
         unfold maxLen;omega
        ·unfold moreN at h
         obtain⟨i,hi,rfl⟩:=List.mem_map.1 h
         exact HMS.out _ (tk_mem (List.mem_range.1 hi))) (fun s hs=>by
        unfold lettersS namesN at hs
        obtain⟨i,hi,rfl⟩:=List.mem_map.1 hs
        exact HNS.out _ (tk_mem (List.mem_range.1 hi))) hnn
       have HX4:=Lib.hid ((HBW.out.block w.heap.size HSZ1.out).trans HXA.out)
       clear hss
       go_wp2_with (fail)
       refine hfr.mono ?_
       rintro e w9 ⟨hpost,hb9⟩
       have hx9:=(hb9.block w.heap.size (Array.getElem?_eq_some_iff.1 HX4.out).1).trans HX4.out
       have HB9:Hid (Below w.heap.size w w9):=Lib.hid (HBA.out.trans ((HBW.out.trans (hb9.mono HBW.out.size)).mono HBA.out.size))
       obtain⟨c0,c1,c2⟩:=box3v hx9
       have cf:∀o,w9.frozen? ⟨w.heap.size,o,none⟩=false:=by intro o;simp[World.frozen?,hx9]
       have HX9:=Lib.hid hx9
       clear hb9 hx9 hfr
       rcases hpost with⟨hg,⟨ta,tn,tc,ma,mn2,mc2,sa,sn,sc2⟩,rfl,hv⟩ | ⟨hg,rfl⟩
       ·have HV:=Lib.hid hv
        have HG:=Lib.hid hg
        clear hv hg
        go_wp2_with (fail)
        refine bodyPost_ret (v:= .tuple #[Vd.val ⟨ta,tn,tc,ma,mn2,mc2,sa,sn,sc2⟩, .bool true]) ?_ rfl ⟨.inl ⟨HG.out,⟨ta,tn,tc,ma,mn2,mc2,sa,sn,sc2⟩,rfl,?_⟩,?_⟩
        ·simp[results,Tryz.results45,go_sem,Vd.val,c0,c1,c2]
        ·exact HV.out.notSl HX9.out (fun q hq=>(Below.heap_setCell _ _ _ _ hq).trans ((Below.heap_setCell _ _ _ _ hq).trans (Below.heap_setCell _ _ _ _ hq)))
        ·exact((HB9.out.setCell (p:=⟨w.heap.size,0,none⟩) (Nat.le_refl _) _).setCell (p:=⟨w.heap.size,1,none⟩) (Nat.le_refl _) _).setCell (p:=⟨w.heap.size,2,none⟩) (Nat.le_refl _) _
       ·have HG:=Lib.hid hg
        clear hg
        unfold noVd Vd.val
        go_wp2_with (fail)
        refine bodyPost_ret (v:= .tuple #[noVd.val, .bool false]) ?_ rfl ⟨.inr ⟨HG.out,rfl⟩,?_⟩
        ·simp[results,Tryz.results45,go_sem,noVd,Vd.val,c0,c1,c2]
        ·exact((HB9.out.setCell (p:=⟨w.heap.size,0,none⟩) (Nat.le_refl _) _).setCell (p:=⟨w.heap.size,1,none⟩) (Nat.le_refl _) _).setCell (p:=⟨w.heap.size,2,none⟩) (Nat.le_refl _) _
def abcS:ByteArray:=⟨#[97,98,99]⟩
def R1:List Rw:=R0++ [⟨abcS,257⟩]
def m1:Mg:=⟨256,99,257,257⟩
def Mg.tup (m:Mg):Int×Int×Int×Int:=(m.left,m.right,m.out,m.order)
theorem Mg.tup_inj (a b:Mg) (h:a.tup=b.tup):a=b:=by
 cases a;cases b
 simp only[Mg.tup,Prod.mk.injEq]at h
 obtain⟨rfl,rfl,rfl,rfl⟩:=h
 rfl
theorem mgs_inj {L M:List Mg} (h:L.map Mg.tup=M.map Mg.tup):L=M:=(List.map_inj_right Mg.tup_inj).1 h
end Go.Proofs.YtimkkkdabmhedaaGreatDoor
