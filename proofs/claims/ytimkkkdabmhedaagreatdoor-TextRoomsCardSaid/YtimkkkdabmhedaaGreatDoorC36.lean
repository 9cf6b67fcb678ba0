/- Walks: the coder of texts: a piece's tokens, by the cache. -/
import Derived.Test.YtimkkkdabmhedaaGreatDoorC35
import Derived.Test.YtimkkkdabmhedaaGreatDoorC18
set_option linter.unusedVariables false
set_option maxHeartbeats 2000000
set_option maxRecDepth 100000
namespace Go.Proofs.YtimkkkdabmhedaaGreatDoor
open Go.RowKit
def keyB (A:List Int):ByteArray:=A.foldl (fun r n=>r.push (UInt8.ofNat n.toNat)) ByteArray.empty
theorem keyB_go:∀(A:List Int) (r:ByteArray),(∀y∈A,0≤y∧y<256)→bytesI (A.foldl (fun r n=>r.push (UInt8.ofNat n.toNat)) r)=bytesI r++A
 | [],r,_=>by simp
 | a::A,r,h=>by
  obtain⟨h0,h1⟩:=h a (by simp)
  rw[List.foldl_cons,keyB_go A _ (fun y hy=>h y (by simp[hy]))]
  have:bytesI (r.push (UInt8.ofNat a.toNat))=bytesI r++ [a]:=by
   unfold bytesI
   have:(r.push (UInt8.ofNat a.toNat)).data=r.data.push (UInt8.ofNat a.toNat):=rfl
   rw[this]
   simp
   omega
  rw[this]
  simp
theorem keyB_bytes {A:List Int} (h:∀y∈A,0≤y∧y<256):bytesI (keyB A)=A:=by
 have:=keyB_go A ByteArray.empty h
 rw[show bytesI ByteArray.empty= [] from rfl,List.nil_append]at this
 exact this
theorem keyB_size {A:List Int} (h:∀y∈A,0≤y∧y<256):(keyB A).size=A.length:=by
 rw[←bytesI_len,keyB_bytes h]
theorem conv_bytes {w:World} {ao:Option Addr} {n c:Nat} {A:List Int} (h:SlB w ao n c A) (hn:0<n):(convert 121 9 (.slice ao n c)).run Tryz.prog w= .ok (.string (keyB A)) w:=by
 have hl:=h.len
 obtain⟨b,o,hao,_⟩:=Sl.at_ h 0 (.int .u8 (ix A 0)) (by rw[List.getElem?_map,ix_eq (by omega)];rfl)
 subst hao
 rw[run_convert_bytes_string (P:=Tryz.prog) _ 121 9 5 _ _ _ Tryz.underlying121 Tryz.underlying5 Tryz.underlying9]
 rw[run_bytesToString _ _ _ _ A (by
  have:=run_loadCells_list (w:=w) (P:=Tryz.prog) ⟨b,o,none⟩ (A.map (.int .u8)) (fun j v hj=>by
   obtain⟨b',o',e,hc⟩:=Sl.at_ h j v hj
   simp only[Option.some.injEq,Addr.mk.injEq,and_true]at e
   obtain⟨rfl,rfl⟩:=e
   rw[Addr.add_lit];exact hc)
  rw[List.length_map,hl]at this
  exact this)]
 rfl
theorem runF_le {M:List Mg}:∀(k:Nat) (r:List Int),(runF M k r).length≤r.length
 | 0,r=>Nat.le_refl _
 | k+1,r=>by
  cases hs:stepF M r with
  | none=>rw[runF_end hs];exact Nat.le_refl _
  | some r'=>
   have h1:=stepF_len hs
   have h2:=runF_le k r' (M:=M)
   simp only[runF,hs]
   omega
theorem encF_le (V:Vc) (A:List Int):(encF V A).length≤A.length:=by
 have:=runF_le (M:=V.merges) A.length (rowOf V A)
 rw[rowOf_len]at this
 exact this
structure CacheOk (V:Vc) (l:List Row) (room hits misses:Int):Prop where
 rows:∀p∈l,p.2=encF V (bytesI p.1)
 rm:(l.length:Int)≤room
 ms:(l.length:Int)≤misses
 hz:0≤hits
 mz:0≤misses
 zr:room=0→hits=0∧l= []
theorem young_len (l:List Row) (k:ByteArray) (A:List Int):(young l k A).length≤l.length+1:=by
 unfold young
 rw[List.length_append]
 have:=List.length_filter_le (fun p:Row=>decide (p.1≠k)) l
 simp only[List.length_singleton]
 omega
theorem young_mem {l:List Row} {k:ByteArray} {A:List Int} {p:Row} (h:p∈young l k A):p∈l∨p=(k,A):=by
 unfold young at h
 rcases List.mem_append.1 h with h1 | h1
 ·exact .inl (List.mem_filter.1 h1).1
 ·exact .inr (List.mem_singleton.1 h1)
theorem young_hit {l:List Row} {k:ByteArray} {A:List Int} (h:(k,A)∈l):(young l k A).length≤l.length:=by
 unfold young
 rw[List.length_append]
 have:(l.filter (fun p:Row=>decide (p.1≠k))).length<l.length:=by
  rw[List.length_filter_lt_length_iff_exists]
  exact⟨(k,A),h,by simp⟩
 simp only[List.length_singleton]
 omega
theorem CacheOk.hit {V:Vc} {l:List Row} {room hits misses:Int} {k:ByteArray} {A:List Int} (h:CacheOk V l room hits misses) (hm:(k,A)∈l):CacheOk V (young l k A) room (hits+1) misses:=by
 have hl:=young_hit hm
 refine⟨fun p hp=> ?_,by have:=h.rm;omega,by have:=h.ms;omega,by have:=h.hz;omega,h.mz,fun e=> ?_⟩
 ·rcases young_mem hp with h1 | h1
  ·exact h.rows p h1
  ·subst h1;exact h.rows _ hm
 ·obtain⟨_,e2⟩:=h.zr e
  rw[e2]at hm;cases hm
theorem CacheOk.put {V:Vc} {l:List Row} {room hits misses:Int} {k:ByteArray} (h:CacheOk V l room hits misses) (h0:0<room):CacheOk V (putL l room k (encF V (bytesI k))) room hits (misses+1):=by
 have hl:=young_len l k (encF V (bytesI k))
 have hr:=h.rm
 have hm:=h.ms
 have key:∀p∈putL l room k (encF V (bytesI k)),p∈young l k (encF V (bytesI k)):=fun p hp=>by
  unfold putL at hp
  split at hp
  ·exact List.mem_of_mem_drop hp
  ·exact hp
 refine⟨fun p hp=> ?_,?_,?_,h.hz,by have:=h.mz;omega,fun e=>by omega⟩
 ·rcases young_mem (key p hp)with h1 | h1
  ·exact h.rows p h1
  ·subst h1;rfl
 ·unfold putL
  split
  ·rw[List.length_drop];omega
  ·omega
 ·unfold putL
  split
  ·rw[List.length_drop];omega
  ·omega
theorem CacheOk.missed {V:Vc} {l:List Row} {room hits misses:Int} (h:CacheOk V l room hits misses):CacheOk V l room hits (misses+1):=
 ⟨h.rows,h.rm,by have:=h.ms;omega,h.hz,by have:=h.mz;omega,h.zr⟩
structure Cch (cb mb:Nat) (no no':Option Addr) (w w':World):Prop where
 os:w'.os=w.os
 tape:w'.tape=w.tape
 output:w'.output=w.output
 size:w.heap.size≤w'.heap.size
 block:∀q,q<w.heap.size→¬Ft cb mb no q→w'.heap[q]?=w.heap[q]?
 new:∀q,q<w.heap.size→¬Ft cb mb no q→¬Ft cb mb no' q
theorem Cch.keeps {cb mb:Nat} {no:Option Addr} {w w':World} (h:Keeps (Ft cb mb no) w w'):Cch cb mb no no w w':=⟨h.os,h.tape,h.output,h.size,h.block,fun _ _ h=>h⟩
theorem Cch.below {cb mb:Nat} {no:Option Addr} {w w':World} (h:Below w.heap.size w w'):Cch cb mb no no w w':=Cch.keeps (Keeps.of_below h)
theorem Cch.trans {cb mb:Nat} {no n1 n2:Option Addr} {w w1 w2:World} (h:Cch cb mb no n1 w w1) (k:Cch cb mb n1 n2 w1 w2):Cch cb mb no n2 w w2:=
 ⟨k.os.trans h.os,k.tape.trans h.tape,k.output.trans h.output,Nat.le_trans h.size k.size,fun q hq hn=>(k.block q (Nat.lt_of_lt_of_le hq h.size) (h.new q hq hn)).trans (h.block q hq hn),fun q hq hn=>k.new q (Nat.lt_of_lt_of_le hq h.size) (h.new q hq hn)⟩
theorem Cch.put {cb mb g:Nat} {no:Option Addr} {w w':World} (h:Keeps (Ft cb mb no) w w') (ha:Go.Proofs.YtimkkkdabmhedaaGreatDoor.At no g w.heap.size):Cch cb mb no (some ⟨g,0,none⟩) w w':=
 ⟨h.os,h.tape,h.output,h.size,h.block,fun q hq hn hf=>by
  rcases hf with h1 | h1 | h1
  ·exact hn (.inl h1)
  ·exact hn (.inr (.inl h1))
  ·obtain rfl:g=q:=by simpa using h1
   rcases ha with h2 | h2
   ·exact hn (.inr (.inr h2))
   ·omega⟩
theorem CodR.turn {w w':World} {base g:Nat} {V:Vc} {N:List ByteArray} {kind:Int} {T:List Rg} {room:Int} {cb mb:Nat} {no no':Option Addr} {l l':List Row} {hits misses hits' misses':Int} (h:CodR w base g V N kind T room cb mb no l hits misses)
  (hc:Cch cb mb no no' w w') (hr:CRep w' base w'.heap.size cb mb no' l' room hits' misses'):CodR w' base g V N kind T room cb mb no' l' hits' misses':=by
 obtain⟨⟨S,h1,h2⟩,_⟩:=h
 exact⟨⟨S,h1.next (fun q hq=>hc.block q (h2 q hq).1.2 (h2 q hq).2) hc.size,fun q hq=>⟨⟨(h2 q hq).1.1,Nat.lt_of_lt_of_le (h2 q hq).1.2 hc.size⟩,hc.new q (h2 q hq).1.2 (h2 q hq).2⟩⟩,hr⟩
theorem CodR.below {w w':World} {base g:Nat} {V:Vc} {N:List ByteArray} {kind:Int} {T:List Rg} {room:Int} {cb mb:Nat} {no:Option Addr} {l:List Row} {hits misses:Int} (h:CodR w base g V N kind T room cb mb no l hits misses) (hb:Below w.heap.size w w'):CodR w' base g V N kind T room cb mb no l hits misses:=
 h.turn (Cch.below hb) ((h.rep.below hb).up hb.size)
theorem CodR.cod {w:World} {base g:Nat} {V:Vc} {N:List ByteArray} {kind:Int} {T:List Rg} {room:Int} {cb mb:Nat} {no:Option Addr} {l:List Row} {hits misses:Int} (h:CodR w base g V N kind T room cb mb no l hits misses):TCod w base g V N kind T cb:=by
 obtain⟨⟨S,h1,_⟩,_⟩:=h
 exact h1.self
theorem piece1_calls {V:Vc} {N:List ByteArray} {kind:Int} {T:List Rg} {base g cb b2 b5:Nat} {A:List Int} {bo:Option Addr} {n c:Nat} (w:World) (hC:TCod w base g V N kind T cb) (hM:May V) (hS:SlB w bo n c A) (hby:∀y∈A,0≤y∧y<256) (hn0:0<n) (hn:n≤100000)
  (h2:w.cell? ⟨b2,0,none⟩=some (.pointer (some ⟨g,0,none⟩))) (h5:w.cell? ⟨b5,0,none⟩=some (.slice bo n c)):
  Calls Tryz.prog 90 #[.pointer (some ⟨b2,0,none⟩), .pointer (some ⟨b5,0,none⟩)] w fun e w'=>∃v,e= .returned v∧Own w' w.heap.size v (encF V A)∧Below w.heap.size w w':=by
 obtain⟨lo,ta,tc,sa,sc,na,nc,ma,mc,oa,oc,eg,hx,_,_,_,_,_,hec⟩:=hC
 obtain⟨c0,c1,c2,c3,c4,c5,c6,c7,c8,cf⟩:=box9 hx
 have HE:Hid (∀W,Ge w W→Calls Tryz.prog 91 #[.pointer (some ⟨eg,0,none⟩), .slice bo n c] W fun e w'=>∃v,e= .returned v∧Own w' w.heap.size v (encF V A)∧Below w.heap.size w w'):=Lib.hid (fun W hW=>(encode_some W (hec.keep (fun q _ hq=>hW.block q hq) hW.size) hM (Sl.below hS hW) hby hn0 hn).mono (by
  rintro e w' ⟨v,rfl,h1,h2⟩
  exact⟨v,rfl,h1.mono hW.size,hW.below h2⟩))
 clear hx hec hS hby hM
 go_enter Tryz.func90,Tryz.ntmps90
 go_wp2_with (fail)
 go_region_with (go_at_call 91;refine(HE.out _ (by exact below_drewN (Below.refl _ _) _)).mono ?_;rintro e w2 ⟨v,rfl,ho,hb2⟩;have HO:=Lib.hid ho;have HB2:=Lib.hid hb2;clear ho hb2)
 all_goals(
  go_wp2_with (fail)
  go_ret
  exact⟨v,rfl,HO.out,HB2.out⟩)
structure TxV (w:World) (base g:Nat) (V:Vc) (N:List ByteArray) (kind:Int) (T:List Rg) (room:Int) (cb mb:Nat) (no:Option Addr) (cnt:Int) (hit0:Prop):Prop where
 ex:∃l hits misses,CodR w base g V N kind T room cb mb no l hits misses∧CacheOk V l room hits misses∧hits+misses=cnt∧(hit0→room=0→hits=0)
theorem TxV.below {w w':World} {base g:Nat} {V:Vc} {N:List ByteArray} {kind:Int} {T:List Rg} {room:Int} {cb mb:Nat} {no:Option Addr} {cnt:Int} {h0:Prop} (h:TxV w base g V N kind T room cb mb no cnt h0) (hb:Below w.heap.size w w'):TxV w' base g V N kind T room cb mb no cnt h0:=by
 obtain⟨l,hits,misses,h1,h2,h3,h4⟩:=h
 exact⟨l,hits,misses,h1.below hb,h2,h3,h4⟩
theorem TxV.cod {w:World} {base g:Nat} {V:Vc} {N:List ByteArray} {kind:Int} {T:List Rg} {room:Int} {cb mb:Nat} {no:Option Addr} {cnt:Int} {h0:Prop} (h:TxV w base g V N kind T room cb mb no cnt h0):TCod w base g V N kind T cb:=by
 obtain⟨l,hits,misses,h1,h2,h3,h4⟩:=h
 exact h1.cod
theorem TxV.ft {w:World} {base g:Nat} {V:Vc} {N:List ByteArray} {kind:Int} {T:List Rg} {room:Int} {cb mb:Nat} {no:Option Addr} {cnt:Int} {h0:Prop} (h:TxV w base g V N kind T room cb mb no cnt h0):∀q,Ft cb mb no q→base≤q∧q<w.heap.size:=by
 obtain⟨l,hits,misses,h1,h2,h3,h4⟩:=h
 exact h1.rep.ft
theorem TxV.new {w:World} {base g:Nat} {V:Vc} {N:List ByteArray} {kind:Int} {T:List Rg} {room:Int} {cb mb:Nat} (h:CodR w base g V N kind T room cb mb none [] 0 0) (h0:0≤room):TxV w base g V N kind T room cb mb none 0 True:=
 ⟨[],0,0,h,⟨fun p hp=>(by cases hp),by simpa using h0,by simp,by omega,by omega,fun _=>⟨rfl,rfl⟩⟩,rfl,fun _ _=>rfl⟩
def MayPc (A:List Int):Prop:=(∃x,A= [x]∧256≤x)∨(A≠[]∧∀y∈A,0≤y∧y<256)
theorem pieceF_mark {V:Vc} {N:List ByteArray} {x:Int} (hc:checkF V N [x]=0) (hx:256≤x):pieceF V N [x]= [markAt V N x]:=by
 unfold pieceF
 rw[if_neg (by simp[hc]),if_pos ⟨rfl,hx⟩];rfl
theorem pieceF_bytes {V:Vc} {N:List ByteArray} {A:List Int} (hc:checkF V N A=0) (hA:A≠[]) (hb:∀y∈A,0≤y∧y<256):pieceF V N A=encF V A:=by
 unfold pieceF
 rw[if_neg (by simp[hc,hA]),if_neg,if_pos]
 ·rw[List.all_eq_true];intro y hy;exact isB_iff.2 (hb y hy)
 ·rintro⟨h1,h2⟩
  have h3:ix A 0∈A:=List.mem_of_getElem? (ix_eq (by omega))
  have:=hb _ h3
  omega
def isBy (A:List Int):Int:=if A.all isB=true then 1 else 0
theorem isBy_bytes {A:List Int} (hb:∀y∈A,0≤y∧y<256):isBy A=1:=by
 unfold isBy;rw[if_pos];rw[List.all_eq_true];intro y hy;exact isB_iff.2 (hb y hy)
theorem isBy_mark {x:Int} (hx:256≤x):isBy [x]=0:=by
 unfold isBy;rw[if_neg];simp[isB];omega
theorem ownB_at0 {w:World} {base:Nat} {v:Value} {A:List Int} (h:w.ownsRow base 5 1 v A.length (A.map (.int .u8))) (hn:0<A.length):∃gb cap,v= .slice (some ⟨gb,0,none⟩) A.length cap∧base≤gb∧gb<w.heap.size∧SlB w (some ⟨gb,0,none⟩) A.length cap A:=by
 have hlt:=World.ownsRow.lt h
 obtain⟨ao,c,e,hs⟩:=Sl.of_own h
 obtain⟨h1,h2⟩:=h
 rcases h2 with⟨_,h3⟩ | ⟨gb,cap,cur,hv,_⟩
 ·omega
 ·subst hv
  obtain⟨rfl,_,rfl⟩:=Value.slice.inj e
  obtain⟨k1,k2⟩:=hlt gb rfl
  exact⟨gb,cap,rfl,k1,k2,hs⟩
theorem CodR.codK {w w':World} {base g:Nat} {V:Vc} {N:List ByteArray} {kind:Int} {T:List Rg} {room:Int} {cb mb:Nat} {no:Option Addr} {l:List Row} {hits misses:Int} (h:CodR w base g V N kind T room cb mb no l hits misses) (hk:Keeps (Ft cb mb no) w w'):TCod w' base g V N kind T cb:=by
 obtain⟨⟨S,h1,h2⟩,_⟩:=h
 exact h1 w' (fun q hq=>hk.block q (h2 q hq).1.2 (h2 q hq).2) hk.size
theorem Keeps.cell {S:Nat→Prop} {w w':World} (h:Keeps S w w') {p:Addr} {u:Value} (hc:w.cell? p=some u) (hn:¬S p.block):w'.cell? p=some u:=by
 rw[World.cell?_of_block (w:=w) (h.block _ (World.block_lt_of_cell? w p hc) hn)];exact hc
theorem CReq.below {w w':World} {base top cb mb B:Nat} {no:Option Addr} {l:List Row} {room hits misses:Int} {P:Nat→Prop} (h:CReq w base top cb mb no l room hits misses P) (hp:∀q,P q→q<B) (hb:Below B w w'):CReq w' base top cb mb no l room hits misses P:=
 h.stay (fun q hq=>hb.block q (hp q hq))
theorem CReq.cut {w:World} {base top cb mb:Nat} {no:Option Addr} {l:List Row} {room hits misses:Int} {P:Nat→Prop} (h:CReq w base top cb mb no l room hits misses P):CReq w base top cb mb no l room hits misses (fun q=>P q∧base≤q∧q<top):=by
 have hft:=h.rep.ft
 obtain⟨m,cap,N,e,y,ord,sz,f,R,hc,hg,hl⟩:=h
 exact⟨m,cap,N,e,y,ord,sz,f,R,⟨hc.1,fun k hk=>⟨hc.2.1 k hk,hft k hk⟩,fun i hi ad e=>⟨hc.2.2 i hi ad e,((hc.1.rows i hi).2 ad e).1,((hc.1.rows i hi).2 ad e).2.1⟩⟩,hg,hl⟩
structure CodQ (w:World) (base g:Nat) (V:Vc) (N:List ByteArray) (kind:Int) (T:List Rg) (room:Int) (cb mb:Nat) (no:Option Addr) (l:List Row) (hits misses:Int) (P:Nat→Prop):Prop where
 sta:∃S,Sta S (fun w=>TCod w base g V N kind T cb) w∧(∀q,S q→P q∧¬Ft cb mb no q)
 rep:CReq w base w.heap.size cb mb no l room hits misses P
 lt:∀q,P q→base≤q∧q<w.heap.size
def Cdr (w:World) (base g:Nat) (V:Vc) (N:List ByteArray) (kind:Int) (T:List Rg) (room cnt:Int) (P:Nat→Prop):Prop:=
 ∃cb mb no l hits misses,CodQ w base g V N kind T room cb mb no l hits misses P∧CacheOk V l room hits misses∧hits+misses=cnt
section
variable {w:World} {base g:Nat} {V:Vc} {N:List ByteArray} {kind:Int} {T:List Rg} {room:Int} {cb mb:Nat} {no:Option Addr} {l:List Row} {hits misses cnt:Int} {P:Nat→Prop}
theorem CodQ.codR (h:CodQ w base g V N kind T room cb mb no l hits misses P):CodR w base g V N kind T room cb mb no l hits misses:=by
 obtain⟨⟨S,h1,h2⟩,h3,h4⟩:=h
 exact⟨⟨S,h1,fun q hq=>⟨h4 q (h2 q hq).1,(h2 q hq).2⟩⟩,h3.rep⟩
theorem CodR.codQ (h:CodR w base g V N kind T room cb mb no l hits misses):CodQ w base g V N kind T room cb mb no l hits misses (fun q=>base≤q∧q<w.heap.size):=by
 have hr:=h.rep
 obtain⟨⟨S,h1,h2⟩,_⟩:=h
 exact⟨⟨S,h1,fun q hq=>⟨(h2 q hq).1,(h2 q hq).2⟩⟩,hr.req,fun q hq=>hq⟩
theorem CodQ.stay {w':World} (h:CodQ w base g V N kind T room cb mb no l hits misses P) (hk:∀q,P q→w'.heap[q]?=w.heap[q]?) (hs:w.heap.size≤w'.heap.size):CodQ w' base g V N kind T room cb mb no l hits misses P:=by
 obtain⟨⟨S,h1,h2⟩,h3,h4⟩:=h
 exact⟨⟨S,h1.next (fun q hq=>hk q (h2 q hq).1) hs,h2⟩,(h3.stay hk).up hs,fun q hq=>⟨(h4 q hq).1,Nat.lt_of_lt_of_le (h4 q hq).2 hs⟩⟩
theorem Cdr.new (h:CodR w base g V N kind T room cb mb none [] 0 0) (h0:0≤room):Cdr w base g V N kind T room 0 (fun q=>base≤q∧q<w.heap.size):=
 ⟨cb,mb,none,[],0,0,h.codQ,⟨fun p hp=>(by cases hp),by simpa using h0,by simp,by omega,by omega,fun _=>⟨rfl,rfl⟩⟩,rfl⟩
theorem Cdr.stay {w':World} (h:Cdr w base g V N kind T room cnt P) (hk:∀q,P q→w'.heap[q]?=w.heap[q]?) (hs:w.heap.size≤w'.heap.size):Cdr w' base g V N kind T room cnt P:=by
 obtain⟨cb,mb,no,l,hits,misses,h1,h2⟩:=h
 exact⟨cb,mb,no,l,hits,misses,h1.stay hk hs,h2⟩
theorem Cdr.lt (h:Cdr w base g V N kind T room cnt P):∀q,P q→base≤q∧q<w.heap.size:=by
 obtain⟨cb,mb,no,l,hits,misses,h1,h2⟩:=h
 exact h1.lt
theorem Cdr.below {w':World} (h:Cdr w base g V N kind T room cnt P) (hb:Below w.heap.size w w'):Cdr w' base g V N kind T room cnt P:=
 h.stay (fun q hq=>hb.block q (h.lt q hq).2) hb.size
theorem Cdr.cod (h:Cdr w base g V N kind T room cnt P):∃cb,TCod w base g V N kind T cb:=by
 obtain⟨cb,mb,no,l,hits,misses,h1,h2⟩:=h
 exact⟨cb,h1.codR.cod⟩
theorem CodQ.turn {w':World} {no':Option Addr} {l':List Row} {hits' misses':Int} (h:CodQ w base g V N kind T room cb mb no l hits misses P)
  (hc:Cch cb mb no no' w w') (hr:CReq w' base w'.heap.size cb mb no' l' room hits' misses' (fun q=>P q∨w.heap.size≤q)):CodQ w' base g V N kind T room cb mb no' l' hits' misses' (fun q=>(P q∨w.heap.size≤q)∧base≤q∧q<w'.heap.size):=by
 obtain⟨⟨S,h1,h2⟩,h3,h4⟩:=h
 exact⟨⟨S,h1.next (fun q hq=>hc.block q (h4 q (h2 q hq).1).2 (h2 q hq).2) hc.size,fun q hq=>⟨⟨.inl (h2 q hq).1,(h4 q (h2 q hq).1).1,Nat.lt_of_lt_of_le (h4 q (h2 q hq).1).2 hc.size⟩,hc.new q (h4 q (h2 q hq).1).2 (h2 q hq).2⟩⟩,hr.cut,fun q hq=>hq.2⟩
end
def LkQ (V:Vc) (w:World) (base cb mb:Nat) (no:Option Addr) (room cnt:Int) (R:List Int) (P:Nat→Prop) (e:Ending) (w':World):Prop:=
 ∃v no' l' hits' misses',e= .returned v∧Own w' w.heap.size v R∧CReq w' base w'.heap.size cb mb no' l' room hits' misses' (fun q=>P q∨w.heap.size≤q)∧CacheOk V l' room hits' misses'∧hits'+misses'=cnt+1∧Cch cb mb no no' w w'
theorem lookupQ_calls {P:Nat→Prop} {V:Vc} {base cb mb b2 b5:Nat} {no:Option Addr} {l:List Row} {room hits misses:Int} (key:ByteArray) (w:World) (hr:CReq w base w.heap.size cb mb no l room hits misses P) (hP:∀q,P q→q<w.heap.size) (hok:CacheOk V l room hits misses) (hroom:room≤1048576) (hcnt:hits+misses<1000000) (hks:key.size≤100000)
  (hF:∀W,Keeps (Ft cb mb no) w W→Calls Tryz.prog 90 #[.pointer (some ⟨b2,0,none⟩), .pointer (some ⟨b5,0,none⟩)] W fun e w'=>∃v,e= .returned v∧Own w' W.heap.size v (encF V (bytesI key))∧Below W.heap.size W w'):
  Calls Tryz.prog 89 #[.pointer (some ⟨cb,0,none⟩), .string key, .func (.func 90) #[] #[.pointer (some ⟨b2,0,none⟩), .pointer (some ⟨b5,0,none⟩)]] w (LkQ V w base cb mb no room (hits+misses) (encF V (bytesI key)) P):=by
 have h0:=hok.hz
 have m0:=hok.mz
 have hmx:key.size≤maxLen:=by unfold maxLen;omega
 have hRl:(encF V (bytesI key)).length≤1048576:=by have:=encF_le V (bytesI key);rw[bytesI_len]at this;omega
 by_cases hin:∃R,(key,R)∈l
 ·obtain⟨R,hR⟩:=hin
  have hRR:R=encF V (bytesI key):=hok.rows _ hR
  have HG:=Lib.hid (creq_hit hr (Nat.le_refl _) key R hmx hR h0 (by omega))
  have HOK:=Lib.hid (hok.hit hR)
  have HRR:=Lib.hid hRR
  clear hr hP hok hF hR hRR h0 m0
  go_enter Tryz.func89,Tryz.ntmps89
  go_wp2_with (go_at_call 118;refine HG.out.mono ?_;rintro e w1 ⟨vo,vn,vc,rfl,ho,hr1,hk1⟩;have HO:=Lib.hid ho;have HR1:=Lib.hid hr1;have HK1:=Lib.hid hk1;clear ho hr1 hk1)
  refine bodyPost_ret (results_tmp rfl _ _ _) rfl ⟨.slice vo vn vc,no,young l key R,hits+1,misses,rfl,by rw[←HRR.out];exact HO.out,(HR1.out.up HK1.out.size).more (fun q h=> .inl h),HOK.out,by omega,Cch.keeps HK1.out⟩
 ·have hno:∀p∈l,p.1≠key:=fun p hp e=>hin ⟨p.2,by rw[←e];exact hp⟩
  have HG:=Lib.hid (creq_miss hr (Nat.le_refl _) key hmx hno m0 (by omega))
  have HF:=Lib.hid hF
  have HPL:=Lib.hid hP
  have HFT:Hid (∀q,Ft cb mb no q→q<w.heap.size):=Lib.hid fun q hq=>hP q (hr.ft q hq)
  by_cases hz:room=0
  ·subst hz
   have HOK:=Lib.hid hok.missed
   clear hr hP hok hF hin hno h0 m0
   go_enter Tryz.func89,Tryz.ntmps89
   go_wp2_with (first
    | (go_at_call 118;refine HG.out.mono ?_;rintro e w1 ⟨rfl,hr1,hk1⟩;have HR1:=Lib.hid hr1;have HK1:=Lib.hid hk1;clear hr1 hk1)
    | (go_at_call 90;refine(HF.out _ HK1.out).mono ?_;rintro e w2 ⟨v,rfl,ho,hb2⟩;obtain⟨vo,vc,rfl,_⟩:=ho.sl;have HO:=Lib.hid ho;have HB2:=Lib.hid hb2;clear ho hb2)
    | (go_at_call 119;refine(crep_zero ((HR1.out.up HK1.out.size).below (fun q h=>Nat.lt_of_lt_of_le (HPL.out q h) HK1.out.size) HB2.out).rep key _ _ _).mono ?_;rintro e w3 ⟨rfl,hb3⟩;have HB3:=Lib.hid hb3;clear hb3))
   go_ret
   exact⟨_,no,l,hits,misses+1,rfl,(HO.out.below HB3.out).mono HK1.out.size,((((HR1.out.up HK1.out.size).below (fun q h=>Nat.lt_of_lt_of_le (HPL.out q h) HK1.out.size) HB2.out).up HB2.out.size |>.below (fun q h=>Nat.lt_of_lt_of_le (HPL.out q h) (Nat.le_trans HK1.out.size HB2.out.size)) HB3.out).up HB3.out.size).more (fun q h=> .inl h),HOK.out,by omega,((Cch.keeps HK1.out).trans (Cch.below HB2.out)).trans (Cch.below HB3.out)⟩
  ·have hrp:0<room:=by have:=hok.rm;omega
   have HOK:=Lib.hid (hok.put (k:=key) hrp)
   have HLL:Hid ((l.length:Int)≤room∧l.length<1048576):=Lib.hid ⟨hok.rm,by have:=hok.ms;omega⟩
   clear hr hP hok hF hin hno h0 m0
   go_enter Tryz.func89,Tryz.ntmps89
   go_wp2_with (first
    | (go_at_call 118;refine HG.out.mono ?_;rintro e w1 ⟨rfl,hr1,hk1⟩;have HR1:=Lib.hid hr1;have HK1:=Lib.hid hk1;clear hr1 hk1)
    | (go_at_call 90;refine(HF.out _ HK1.out).mono ?_;rintro e w2 ⟨v,rfl,ho,hb2⟩;obtain⟨vo,vc,rfl,hsl⟩:=ho.sl;have HO:=Lib.hid ho;have HB2:=Lib.hid hb2;have HSL:=Lib.hid hsl;clear ho hb2 hsl)
    | (go_at_call 119;refine(creq_put (((HR1.out.up HK1.out.size).below (fun q h=>Nat.lt_of_lt_of_le (HPL.out q h) HK1.out.size) HB2.out).up HB2.out.size) key hmx hrp hroom HLL.out.1 HLL.out.2 HSL.out (fun ad e h0=>by
      subst e
      obtain⟨k1,k2⟩:=World.ownsRow.lt HO.out ad.block (by obtain⟨vb,e⟩:=own_at0 HO.out h0;obtain⟨c',e⟩:=e;rw[e];cases e;rfl)
      exact⟨k2,fun hf=>by have:=HFT.out _ hf;have:=HK1.out.size;omega⟩) hRl).mono ?_;rintro e w3 ⟨rfl,gg,hr3,hk3,hat3⟩;have HR3:=Lib.hid hr3;have HK3:=Lib.hid hk3;have HAT3:=Lib.hid hat3;clear hr3 hk3 hat3))
   go_ret
   refine⟨_,some ⟨gg,0,none⟩,_,hits,misses+1,rfl,?_,HR3.out.more (fun q h=>h.imp id (fun h=>Nat.le_trans (Nat.le_trans HK1.out.size HB2.out.size) h)),HOK.out,by omega,((Cch.keeps HK1.out).trans (Cch.below HB2.out)).trans (Cch.put HK3.out HAT3.out)⟩
   refine Own.mono (own_stay HO.out (fun q hq=> ?_)) HK1.out.size
   obtain⟨k1,k2⟩:=World.ownsRow.lt HO.out q hq
   exact HK3.out.block q k2 (fun hf=>by have:=HFT.out _ hf;have:=HK1.out.size;omega)
def PcQ (w:World) (base g:Nat) (V:Vc) (N:List ByteArray) (kind:Int) (T:List Rg) (room cnt:Int) (P:Nat→Prop) (R:List Int) (d:Int) (e:Ending) (w':World):Prop:=
 ∃v P',e= .returned v∧Own w' w.heap.size v R∧Cdr w' base g V N kind T room (cnt+d) P'∧(∀q,P' q→P q∨w.heap.size≤q)∧Keeps P w w'
theorem pieceQ_mark {P:Nat→Prop} {V:Vc} {N:List ByteArray} {kind:Int} {T:List Rg} {base g:Nat} {room:Int} {cnt x:Int} {ao:Option Addr} {c:Nat} (w:World) (h:Cdr w base g V N kind T room cnt P) (hN:N.length≤16) (hA:SlI w ao 1 c [x]) (hx:256≤x) (hc:checkF V N [x]=0):
  Calls Tryz.prog 59 #[.pointer (some ⟨g,0,none⟩), .slice ao 1 c] w (PcQ w base g V N kind T room cnt P (pieceF V N [x]) (isBy [x])):=by
 obtain⟨w0,hw0⟩:∃w0,w.alloc (.cells #[.pointer (some ⟨g,0,none⟩)] 32)=w0:=⟨_,rfl⟩
 have hb0:Below w.heap.size w w0:=hw0▸below_alloc w _
 have hx0:w0.heap[w.heap.size]?=some (.cells #[.pointer (some ⟨g,0,none⟩)] 32):=by rw[←hw0];exact heap_alloc_new w _
 have z0:w0.cell? ⟨w.heap.size,0,none⟩=some (.pointer (some ⟨g,0,none⟩)):=by simp[World.cell?,hx0]
 have hV:=h.below hb0
 obtain⟨cb,hcod⟩:=hV.cod
 have hCk:=check_calls w0 hcod hN (hA.below hb0) (by omega)
 rw[hc]at hCk
 obtain⟨lo,ta,tc,sa,sc,na,nc,ma,mc,oa,oc,eg,hbx,_,_,_,hom,_⟩:=hcod
 obtain⟨c0,c1,c2,c3,c4,c5,c6,c7,c8,cf⟩:=box9 hbx
 obtain⟨mo,mcap,e0,hsm⟩:=hom.sl
 have hml:=marksOf_len V.specials N
 rw[hml]at e0 hsm
 obtain⟨rfl,_,rfl⟩:=Value.slice.inj e0
 have hfx:faultF V N x=0:=by
  have:=checkF_all.1 hc x (by simp)
  exact this
 have hxl:x<256+(N.length:Int):=by
  rcases Int.lt_or_le x (256+(N.length:Int))with h1 | h1
  ·exact h1
  ·unfold faultF at hfx;rw[if_pos (.inr h1)]at hfx;cases hfx
 obtain⟨k,hk⟩:∃k:Nat,x-256=k:=⟨(x-256).toNat,by omega⟩
 have q2:IntKind.i64.wrap (x-256)=(k:Int):=by rw[IntKind.wrap_i64];omega
 have gk:(k:Int)<(N.length:Int):=by omega
 have gk0:(0:Int)≤(k:Int):=by omega
 obtain⟨bm,om,hmo,hcm⟩:=hsm.at_ (i:=k) (by omega)
 subst hmo
 obtain⟨v,hv⟩:∃v,ix (marksOf V.specials N) k=v:=⟨_,rfl⟩
 rw[hv]at hcm
 have hmk:markAt V N x=v:=by unfold markAt;rw[hk,Int.toNat_natCast,hv]
 have HP:Hid (pieceF V N [x]= [v]):=Lib.hid (by rw[pieceF_mark hc hx,hmk])
 obtain⟨b,o,hao,hca⟩:=(hA.below hb0).at_ (i:=0) (by omega)
 subst hao
 have ha0:w0.cell? ⟨b,o,none⟩=some (.int .i64 x):=by simpa[ix]using hca
 have gx:decide ((256:Int)≤x)=true:=by simpa using hx
 have HCK:=Lib.hid hCk
 have HB0:=Lib.hid hb0
 have HW0:=Lib.hid hw0
 have HV:=Lib.hid hV
 have HX:=Lib.hid hx
 clear h hA hc hbx hom hsm e0 hml hfx hv hmk hca hw0 hb0 hx0 hCk hV hx
 go_enter Tryz.func59,Tryz.ntmps59
 go_wp2_with (fail)
 rw[HW0.out]
 go_wp2_with (go_at_call 33;refine HCK.out.mono ?_;rintro e w1 ⟨rfl,rfl⟩)
 go_region
 all_goals(
  go_wp2_with (fail)
  refine bodyPost_ret (results_tmp rfl _ _ _) rfl ⟨_,P,rfl,by rw[HP.out];exact Own.mono (own_one _ v) HB0.out.size,by rw[isBy_mark HX.out,Int.add_zero];exact HV.out.below (by exact belowA rfl rfl rfl rfl),fun q hq=> .inl hq,Keeps.of_below (HB0.out.trans (Below.mono (by exact belowA rfl rfl rfl rfl) HB0.out.size))⟩)
theorem pieceQ_bytes {P:Nat→Prop} {V:Vc} {N:List ByteArray} {kind:Int} {T:List Rg} {base g:Nat} {room:Int} {cnt:Int} {A:List Int} {ao:Option Addr} {n c:Nat} (w:World) (hh:Cdr w base g V N kind T room cnt P) (hM:May V) (hN:N.length≤16) (hr:room≤1048576)
  (hA:SlI w ao n c A) (hn0:0<n) (hn:n≤100000) (hb:∀y∈A,0≤y∧y<256) (hc:checkF V N A=0) (hcnt:cnt<1000000):
  Calls Tryz.prog 59 #[.pointer (some ⟨g,0,none⟩), .slice ao n c] w (PcQ w base g V N kind T room cnt P (pieceF V N A) (isBy A)):=by
 obtain⟨cb,mb,no,l,hits,misses,h,hok,hsum⟩:=hh
 obtain⟨w0,hw0⟩:∃w0,w.alloc (.cells #[.pointer (some ⟨g,0,none⟩)] 32)=w0:=⟨_,rfl⟩
 have hb0:Below w.heap.size w w0:=hw0▸below_alloc w _
 have hx0:w0.heap[w.heap.size]?=some (.cells #[.pointer (some ⟨g,0,none⟩)] 32):=by rw[←hw0];exact heap_alloc_new w _
 have hz0:w.heap.size<w0.heap.size:=by rw[←hw0];simp
 have z0:w0.cell? ⟨w.heap.size,0,none⟩=some (.pointer (some ⟨g,0,none⟩)):=by simp[World.cell?,hx0]
 have hV:=h.stay (fun q hq=>hb0.block q (h.lt q hq).2) hb0.size
 have hA0:=hA.below hb0
 have hAl:=hA.len
 have hCk:=check_calls w0 hV.codR.cod hN hA0 (by omega)
 rw[hc]at hCk
 have hne:A≠[]:=fun e=>by rw[e]at hAl;simp at hAl;omega
 have HP:Hid (pieceF V N A=encF V A):=Lib.hid (pieceF_bytes hc hne hb)
 have HBY:Hid (isBy A=1):=Lib.hid (isBy_bytes hb)
 obtain⟨b,o,hao,hca⟩:=hA0.at_ (i:=0) hn0
 subst hao
 obtain⟨x,hx⟩:∃x,ix A 0=x:=⟨_,rfl⟩
 rw[hx]at hca
 have hxb:=hb x (by rw[←hx];exact List.mem_of_getElem? (ix_eq (by omega)))
 have ha0:w0.cell? ⟨b,o,none⟩=some (.int .i64 x):=by simpa using hca
 have gx:decide ((256:Int)≤x)=false:=by simp;omega
 have gn0:((n:Int)==0)=false:=by simp;omega
 have HBT:=Lib.hid (bytes13_calls w0 hA0 (fun y hy=>isB_iff.2 (hb y hy)) (by omega))
 have HCK:=Lib.hid hCk
 have HB0:=Lib.hid hb0
 have HW0:=Lib.hid hw0
 have HX0:=Lib.hid hx0
 have HV:=Lib.hid hV
 have HY:=Lib.hid hb
 have HFT:Hid (∀q,Ft cb mb no q→base≤q∧q<w.heap.size):=Lib.hid fun q hq=>h.lt q (h.rep.ft q hq)
 have HPL:=Lib.hid h.lt
 have HOK:=Lib.hid hok
 have HSUM:=Lib.hid hsum
 have HPF:=Lib.hid h.rep.ft
 have HAL:=Lib.hid hAl
 have HM:=Lib.hid hM
 clear h hok hsum hA hA0 hc hca hw0 hb0 hx0 hCk hV hx hAl hne hxb hb hM
 go_enter Tryz.func59,Tryz.ntmps59
 go_wp2_with (fail)
 rw[HW0.out]
 go_wp2_with (go_at_call 33;refine HCK.out.mono ?_;rintro e w1 ⟨rfl,rfl⟩)
 all_goals(
  go_at_call 88
  refine HBT.out.mono ?_
  rintro e w2 ⟨⟨v,rfl,ho⟩,hb2⟩
  obtain⟨gb,bc,rfl,hgb,hgl,hsl⟩:=ownB_at0 ho (by have:=HAL.out;omega)
  obtain⟨W3,hW3⟩:∃W3,w2.alloc (.cells #[.slice (some ⟨gb,0,none⟩) A.length bc] 121)=W3:=⟨_,rfl⟩
  have hb3:Below w2.heap.size w2 W3:=hW3▸below_alloc w2 _
  have hx3:W3.heap[w2.heap.size]?=some (.cells #[.slice (some ⟨gb,0,none⟩) A.length bc] 121):=by rw[←hW3];exact heap_alloc_new w2 _
  have hx2:W3.heap[w.heap.size]?=some (.cells #[.pointer (some ⟨g,0,none⟩)] 32):=(hb3.block _ (Nat.lt_of_lt_of_le hz0 hb2.size)).trans ((hb2.block _ hz0).trans HX0.out)
  have HB3:Hid (Below w0.heap.size w0 W3):=Lib.hid (hb2.trans (hb3.mono hb2.size))
  have hft3:∀q,w.heap.size≤q→¬Ft cb mb no q:=fun q hq hf=>by have:=(HFT.out q hf).2;omega
  have hs02:w.heap.size≤w2.heap.size:=Nat.le_trans (Nat.le_of_lt hz0) hb2.size
  have hcv:∀W,Keeps (Ft cb mb no) W3 W→(convert 121 9 (.slice (some ⟨gb,0,none⟩) A.length bc)).run Tryz.prog W= .ok (.string (keyB A)) W:=fun W hW=>conv_bytes (slB_other (Sl.below hsl hb3) (fun ad e=>by
   obtain rfl:ad=⟨gb,0,none⟩:=(Option.some.inj e).symm
   exact hW.block gb (Nat.lt_of_lt_of_le hgl hb3.size) (hft3 gb (Nat.le_trans (Nat.le_of_lt hz0) hgb)))) (by have:=HAL.out;omega)
  have HLK:Hid (∀W,Ge W3 W→Calls Tryz.prog 89 #[.pointer (some ⟨cb,0,none⟩), .string (keyB A), .func (.func 90) #[] #[.pointer (some ⟨w.heap.size,0,none⟩), .pointer (some ⟨w2.heap.size,0,none⟩)]] W (fun e w'=>PcQ w base g V N kind T room cnt P (encF V A) 1 e w'∧Keeps (Ft cb mb no) W3 w')):=Lib.hid (fun W hW=>by
   have hcr:=(HV.out.stay (fun q hq=>HB3.out.block q (HV.out.lt q hq).2) HB3.out.size).stay (fun q hq=>hW.block q (Nat.lt_of_lt_of_le (HV.out.lt q hq).2 HB3.out.size)) hW.size
   have hsum:=HSUM.out
   have hft:∀q,Ft cb mb no q→q<w.heap.size:=fun q hq=>(HFT.out q hq).2
   have hs2:=hb2.size
   have hsW:=hW.size
   have hs3:=hb3.size
   have hsz3:w2.heap.size<W3.heap.size:=(Array.getElem?_eq_some_iff.1 hx3).1
   refine(lookupQ_calls (keyB A) W hcr.rep (fun q hq=>(hcr.lt q hq).2) HOK.out hr (by omega) (by rw[keyB_size HY.out];have:=HAL.out;omega) (fun W' hk=> ?_)).mono ?_
   ·rw[keyB_bytes HY.out]
    have k2:W'.heap[w.heap.size]?=some (.cells #[.pointer (some ⟨g,0,none⟩)] 32):=(hk.block _ (by omega) (fun hf=>by have:=hft _ hf;omega)).trans ((hW.block _ (by omega)).trans hx2)
    have k5:W'.heap[w2.heap.size]?=some (.cells #[.slice (some ⟨gb,0,none⟩) A.length bc] 121):=(hk.block _ (by omega) (fun hf=>by have:=hft _ hf;omega)).trans ((hW.block _ (by omega)).trans hx3)
    refine piece1_calls W' (hcr.codR.codK hk) HM.out (slB_other (Sl.below (Sl.below hsl hb3) hW) (fun ad e=> ?_)) HY.out (by have:=HAL.out;omega) (by have:=HAL.out;omega) (by simp[World.cell?,k2]) (by simp[World.cell?,k5])
    obtain rfl:ad=⟨gb,0,none⟩:=(Option.some.inj e).symm
    exact hk.block gb (by omega) (fun hf=>by have:=hft _ hf;omega)
   ·rintro e w' ⟨v,no',l',hits',misses',rfl,hown,hrep,hok',hsum',hcch⟩
    rw[keyB_bytes HY.out]at hown
    have hsz:w.heap.size≤W.heap.size:=by omega
    have hkk:Keeps (Ft cb mb no) W3 w':=(Keeps.of_below hW).trans ⟨hcch.os,hcch.tape,hcch.output,hcch.size,hcch.block⟩
    exact⟨⟨v,_,rfl,hown.mono hsz,⟨cb,mb,no',l',hits',misses',hcr.turn hcch hrep,hok',by omega⟩,fun q hq=>hq.1.imp id (fun h=>Nat.le_trans hsz h),(((Keeps.of_below HB0.out).trans (Keeps.of_below HB3.out)).trans hkk).mono (fun k _ hf=>HPF.out k hf)⟩,hkk⟩)
  have z2:W3.cell? ⟨w.heap.size,0,none⟩=some (.pointer (some ⟨g,0,none⟩)):=by simp[World.cell?,hx2]
  have z5:W3.cell? ⟨w2.heap.size,0,none⟩=some (.slice (some ⟨gb,0,none⟩) A.length bc):=by simp[World.cell?,hx3]
  have HW3:=Lib.hid hW3
  have G2:=fun w' (hg:Keeps (Ft cb mb no) W3 w')=>hg.cell z2 (hft3 _ (Nat.le_refl _))
  have G5:=fun w' (hg:Keeps (Ft cb mb no) W3 w')=>hg.cell z5 (hft3 _ hs02)
  have G8:∀w',Keeps (Ft cb mb no) W3 w'→w'.cell? ⟨g,8,none⟩=some (.pointer (some ⟨cb,0,none⟩)):=fun w' hg=>by
   have hcr:=(HV.out.stay (fun q hq=>HB3.out.block q (HV.out.lt q hq).2) HB3.out.size).codR
   obtain⟨_,_,_,_,_,_,_,_,_,_,_,_,hbx',_⟩:=hcr.codK hg
   exact(box9 hbx').2.2.2.2.2.2.2.2.1
  have gr:=Keeps.refl (Ft cb mb no) W3
  clear hW3 hb3 hx3 hx2 ho hb2 hgb hgl hsl z0 ha0 z2 z5 hft3 hs02
  go_wp2_with (fail)
  rw[HW3.out]
  go_region_held3 (Keeps (Ft cb mb no) W3) (first | (with_reducible assumption) | (with_reducible refine Keeps.drew ?_;with_reducible assumption) | (with_reducible refine Keeps.drewN ?_ _;with_reducible assumption)) ((go_at_call 89;refine(HLK.out _ (by exact below_drewN (Below.refl _ _) _)).mono ?_;rintro e w9 ⟨⟨v9,p9,rfl,ho9,hV9,hp9,hc9⟩,hk9⟩;have HP9:=Lib.hid hp9;have HO9:=Lib.hid ho9;have HV9:=Lib.hid hV9;have HC9:=Lib.hid hc9;clear ho9 hV9 hp9 hc9))
  all_goals(
   go_wp2_with (fail)
   go_ret
   exact⟨v9,p9,rfl,by rw[HP.out];exact HO9.out,by rw[HBY.out];exact HV9.out,HP9.out,HC9.out⟩))
end Go.Proofs.YtimkkkdabmhedaaGreatDoor
