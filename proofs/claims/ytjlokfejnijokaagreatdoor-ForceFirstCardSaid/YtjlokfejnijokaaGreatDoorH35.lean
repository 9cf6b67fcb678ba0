/- Walks: the coder of texts: a piece's tokens, by the cache. -/
import Derived.Test.YtjlokfejnijokaaGreatDoorH34
import Derived.Test.YtjlokfejnijokaaGreatDoorH23
import Derived.Deep.RegionHeld3
import Derived.Deep.CutRange
import Derived.WalkArith
import Derived.Deep.DeepCutAuto
set_option linter.unusedVariables false
set_option maxHeartbeats 4000000
set_option maxRecDepth 100000
namespace Go.Proofs.YtjlokfejnijokaaGreatDoor
open Go.RowKit
def aBU (A:List Int):ByteArray:=A.foldl (fun r n=>r.push (UInt8.ofNat n.toNat)) ByteArray.empty
theorem aAP:∀(A:List Int) (r:ByteArray),(∀y∈A,0<=y/\y<256)->qA (A.foldl (fun r n=>r.push (UInt8.ofNat n.toNat)) r)=qA r++A
 | [],r,_=>by simp
 | a::A,r,h=>by
  obtain⟨h0,h1⟩:=h a (by simp);rw[List.foldl_cons,aAP A _ (fun y hy=>h y (by simp[hy]))];have:qA (r.push (UInt8.ofNat a.toNat))=qA r++ [a]:=by
   unfold qA;have:(r.push (UInt8.ofNat a.toNat)).data=r.data.push (UInt8.ofNat a.toNat):=rfl;rw[this];simp;omega
  rw[this];simp
theorem qL {A:List Int} (h:∀y∈A,0<=y/\y<256):qA (aBU A)=A:=by
 have:=aAP A ByteArray.empty h;rw[show qA ByteArray.empty= [] from rfl,List.nil_append]at this;exact this
theorem aBT {A:List Int} (h:∀y∈A,0<=y/\y<256):(aBU A).size=A.length:=by
 rw[<-C8,qL h]
theorem Z6 {w:World} {ao:Option Addr} {n c:Nat} {A:List Int} (h:SlB w ao n c A) (hn:0<n):(convert 129 9 (.slice ao n c)).run Tryz.prog w= .ok (.string (aBU A)) w:=by
 have hl:=h.len;obtain⟨b,o,hao,_⟩:=Sl.at_ h 0 (.int .u8 (ix A 0)) (by rw[List.getElem?_map,xE (by omega)];rfl);subst hao;rw[run_convert_bytes_string (P:=Tryz.prog) _ 129 9 5 _ _ _ Tryz.underlying129 Tryz.underlying5 Tryz.underlying9];rw[run_bytesToString _ _ _ _ A (by
  have:=run_loadCells_list (w:=w) (P:=Tryz.prog) ⟨b,o,none⟩ (A.map (.int .u8)) (fun j v hj=>by
   obtain⟨b',o',e,hc⟩:=Sl.at_ h j v hj;simp only[Option.some.injEq,Addr.mk.injEq,and_true]at e;obtain⟨rfl,rfl⟩:=e;rw[Addr.add_lit];exact hc)
  rw[List.length_map,hl]at this;exact this)]
 rfl
theorem aAw {M:List Mg}:∀(k:Nat) (r:List Int),(kK M k r).length<=r.length
 | 0,r=>Nat.le_refl _
 | k+1,r=>by
  cases hs:wE M r with
  | none=>rw[wP hs];exact Nat.le_refl _
  | some r'=>
   have h1:=aN hs;have h2:=aAw k r' (M:=M);simp only[kK,hs];omega
theorem aAV (V:Vc) (A:List Int):(vH V A).length<=A.length:=by
 have:=aAw (M:=V.merges) A.length (pB V A);rw[zF]at this;exact this
structure D2 (V:Vc) (l:List Row) (room hits misses:Int):Prop where
 rows:∀p∈l,p.2=vH V (qA p.1)
 rm:(l.length:Int)<=room
 ms:(l.length:Int)<=misses
 hz:0<=hits
 mz:0<=misses
 zr:room=0->hits=0/\l= []
theorem aBh (l:List Row) (k:ByteArray) (A:List Int):(iE l k A).length<=l.length+1:=by
 unfold iE;rw[List.length_append];have:=List.length_filter_le (fun p:Row=>decide (p.1≠k)) l;simp only[List.length_singleton];omega
theorem iS {l:List Row} {k:ByteArray} {A:List Int} {p:Row} (h:p∈iE l k A):p∈l\/p=(k,A):=by
 unfold iE at h;rcases List.mem_append.1 h with h1 | h1
 ·exact .inl (List.mem_filter.1 h1).1
 ·exact .inr (List.mem_singleton.1 h1)
theorem aBi {l:List Row} {k:ByteArray} {A:List Int} (h:(k,A)∈l):(iE l k A).length<=l.length:=by
 unfold iE;rw[List.length_append];have:(l.filter (fun p:Row=>decide (p.1≠k))).length<l.length:=by
  rw[List.length_filter_lt_length_iff_exists];exact⟨(k,A),h,by simp⟩
 simp only[List.length_singleton];omega
theorem D2.hit {V:Vc} {l:List Row} {room hits misses:Int} {k:ByteArray} {A:List Int} (h:D2 V l room hits misses) (hm:(k,A)∈l):D2 V (iE l k A) room (hits+1) misses:=by
 have hl:=aBi hm;refine⟨fun p hp=> ?_,by have:=h.rm;omega,by have:=h.ms;omega,by have:=h.hz;omega,h.mz,fun e=> ?_⟩
 ·rcases iS hp with h1 | h1
  ·exact h.rows p h1
  ·subst h1;exact h.rows _ hm
 ·obtain⟨_,e2⟩:=h.zr e;rw[e2]at hm;cases hm
theorem D2.put {V:Vc} {l:List Row} {room hits misses:Int} {k:ByteArray} (h:D2 V l room hits misses) (h0:0<room):D2 V (bU l room k (vH V (qA k))) room hits (misses+1):=by
 have hl:=aBh l k (vH V (qA k));have hr:=h.rm;have hm:=h.ms;have key:∀p∈bU l room k (vH V (qA k)),p∈iE l k (vH V (qA k)):=fun p hp=>by
  unfold bU at hp;split at hp
  ·exact List.mem_of_mem_drop hp
  ·exact hp
 refine⟨fun p hp=> ?_,?_,?_,h.hz,by have:=h.mz;omega,fun e=>by omega⟩
 ·rcases iS (key p hp)with h1 | h1
  ·exact h.rows p h1
  ·subst h1;rfl
 ·unfold bU;split
  ·rw[List.length_drop];omega
  ·omega
 ·unfold bU;split
  ·rw[List.length_drop];omega
  ·omega
theorem D2.missed {V:Vc} {l:List Row} {room hits misses:Int} (h:D2 V l room hits misses):D2 V l room hits (misses+1):=
 ⟨h.rows,h.rm,by have:=h.ms;omega,h.hz,by have:=h.mz;omega,h.zr⟩
structure Cch (cb mb:Nat) (no no':Option Addr) (w w':World):Prop where
 os:w'.os=w.os
 tape:w'.tape=w.tape
 output:w'.output=w.output
 size:w.heap.size<=w'.heap.size
 block:∀q,q<w.heap.size->¬Ft cb mb no q->w'.heap[q]?=w.heap[q]?
 new:∀q,q<w.heap.size->¬Ft cb mb no q->¬Ft cb mb no' q
theorem Cch.keeps {cb mb:Nat} {no:Option Addr} {w w':World} (h:kA (Ft cb mb no) w w'):Cch cb mb no no w w':=⟨h.os,h.tape,h.output,h.size,h.block,fun _ _ h=>h⟩
theorem Cch.below {cb mb:Nat} {no:Option Addr} {w w':World} (h:Below w.heap.size w w'):Cch cb mb no no w w':=Cch.keeps (kA.of_below h)
theorem Cch.trans {cb mb:Nat} {no n1 n2:Option Addr} {w w1 w2:World} (h:Cch cb mb no n1 w w1) (k:Cch cb mb n1 n2 w1 w2):Cch cb mb no n2 w w2:=
 ⟨k.os.trans h.os,k.tape.trans h.tape,k.output.trans h.output,Nat.le_trans h.size k.size,fun q hq hn=>(k.block q (Nat.lt_of_lt_of_le hq h.size) (h.new q hq hn)).trans (h.block q hq hn),fun q hq hn=>k.new q (Nat.lt_of_lt_of_le hq h.size) (h.new q hq hn)⟩
theorem Cch.put {cb mb g:Nat} {no:Option Addr} {w w':World} (h:kA (Ft cb mb no) w w') (ha:Go.Proofs.YtjlokfejnijokaaGreatDoor.At no g w.heap.size):Cch cb mb no (some ⟨g,0,none⟩) w w':=
 ⟨h.os,h.tape,h.output,h.size,h.block,fun q hq hn hf=>by
  rcases hf with h1 | h1 | h1
  ·exact hn (.inl h1)
  ·exact hn (.inr (.inl h1))
  ·obtain rfl:g=q:=by simpa using h1
   rcases ha with h2 | h2
   ·exact hn (.inr (.inr h2))
   ·omega⟩
theorem qI.cod {w:World} {base g:Nat} {V:Vc} {N:List ByteArray} {kind:Int} {T:List Rg} {room:Int} {cb mb:Nat} {no:Option Addr} {l:List Row} {hits misses:Int} (h:qI w base g V N kind T room cb mb no l hits misses):mG w base g V N kind T cb:=by
 obtain⟨⟨S,h1,_⟩,_⟩:=h;exact h1.self
theorem fU {V:Vc} {N:List ByteArray} {kind:Int} {T:List Rg} {base g cb b2 b5:Nat} {A:List Int} {bo:Option Addr} {n c:Nat} (w:World) (hC:mG w base g V N kind T cb) (hM:May V) (hS:SlB w bo n c A) (hby:∀y∈A,0<=y/\y<256) (hn0:0<n) (hn:n<=100000)
  (h2:w.cell? ⟨b2,0,none⟩=some (.pointer (some ⟨g,0,none⟩))) (h5:w.cell? ⟨b5,0,none⟩=some (.slice bo n c)):
  Calls Tryz.prog 111 #[.pointer (some ⟨b2,0,none⟩), .pointer (some ⟨b5,0,none⟩)] w fun e w'=>∃v,e= .returned v/\Own w' w.heap.size v (vH V A)/\Below w.heap.size w w':=by
 obtain⟨lo,ta,tc,sa,sc,na,nc,ma,mc,oa,oc,eg,hx,_,_,_,_,_,hec⟩:=hC;obtain⟨c0,c1,c2,c3,c4,c5,c6,c7,c8,cf⟩:=zM hx;have HE:Hid (∀W,Ge w W->Calls Tryz.prog 112 #[.pointer (some ⟨eg,0,none⟩), .slice bo n c] W fun e w'=>∃v,e= .returned v/\Own w' w.heap.size v (vH V A)/\Below w.heap.size w w'):=hW_ (fun W hW=>(oX W (hec.keep (fun q _ hq=>hW.block q hq) hW.size) hM (Sl.below hS hW) hby hn0 hn).mono (by
  rintro e w' ⟨v,rfl,h1,h2⟩;exact⟨v,rfl,h1.mono hW.size,hW.below h2⟩))
 clear hx hec hS hby hM;go_enter Tryz.func111,Tryz.ntmps111;go_wp2_with (fail)
 go_region_with (go_at_call 112;refine(HE.out _ (by exact bA (Below.refl _ _) _)).mono ?_;rintro e w2 ⟨v,rfl,ho,hb2⟩;have HO:=hW_ ho;have HB2:=hW_ hb2;clear ho hb2)
 all_goals(
  go_wp2_with (fail);go_ret;exact⟨v,rfl,HO.out,HB2.out⟩)
def aBf (A:List Int):Prop:=(∃x,A= [x]/\256<=x)\/(A≠[]/\∀y∈A,0<=y/\y<256)
theorem jO {V:Vc} {N:List ByteArray} {x:Int} (hc:vA V N [x]=0) (hx:256<=x):oD V N [x]= [jH V N x]:=by
 unfold oD;rw[if_neg (by simp[hc]),if_pos ⟨rfl,hx⟩];rfl
theorem eM {V:Vc} {N:List ByteArray} {A:List Int} (hc:vA V N A=0) (hA:A≠[]) (hb:∀y∈A,0<=y/\y<256):oD V N A=vH V A:=by
 unfold oD;rw[if_neg (by simp[hc,hA]),if_neg,if_pos]
 ·rw[List.all_eq_true];intro y hy;exact eD.2 (hb y hy)
 ·rintro⟨h1,h2⟩;have h3:ix A 0∈A:=List.mem_of_getElem? (xE (by omega));have:=hb _ h3;omega
def nN (A:List Int):Int:=if A.all isB=true then 1 else 0
theorem vZ {A:List Int} (hb:∀y∈A,0<=y/\y<256):nN A=1:=by
 unfold nN;rw[if_pos];rw[List.all_eq_true];intro y hy;exact eD.2 (hb y hy)
theorem aBW {x:Int} (hx:256<=x):nN [x]=0:=by
 unfold nN;rw[if_neg];simp[isB];omega
theorem ownB_at0 {w:World} {base:Nat} {v:Value} {A:List Int} (h:w.ownsRow base 5 1 v A.length (A.map (.int .u8))) (hn:0<A.length):∃gb cap,v= .slice (some ⟨gb,0,none⟩) A.length cap/\base<=gb/\gb<w.heap.size/\SlB w (some ⟨gb,0,none⟩) A.length cap A:=by
 have hlt:=World.ownsRow.lt h;obtain⟨ao,c,e,hs⟩:=Sl.of_own h;obtain⟨h1,h2⟩:=h;rcases h2 with⟨_,h3⟩ | ⟨gb,cap,cur,hv,_⟩
 ·omega
 ·subst hv;obtain⟨rfl,_,rfl⟩:=Value.slice.inj e;obtain⟨k1,k2⟩:=hlt gb rfl;exact⟨gb,cap,rfl,k1,k2,hs⟩
theorem qI.codK {w w':World} {base g:Nat} {V:Vc} {N:List ByteArray} {kind:Int} {T:List Rg} {room:Int} {cb mb:Nat} {no:Option Addr} {l:List Row} {hits misses:Int} (h:qI w base g V N kind T room cb mb no l hits misses) (hk:kA (Ft cb mb no) w w'):mG w' base g V N kind T cb:=by
 obtain⟨⟨S,h1,h2⟩,_⟩:=h;exact h1 w' (fun q hq=>hk.block q (h2 q hq).1.2 (h2 q hq).2) hk.size
theorem kA.cell {S:Nat->Prop} {w w':World} (h:kA S w w') {p:Addr} {u:Value} (hc:w.cell? p=some u) (hn:¬S p.block):w'.cell? p=some u:=by
 rw[World.cell?_of_block (w:=w) (h.block _ (World.block_lt_of_cell? w p hc) hn)];exact hc
open Go
def M4:List (Int×Bool)->List Int->Prop
 | [],A=>A= []
 | p::ps,A=>1<=p.1/\p.1<=A.length/\aBf (A.take p.1.toNat)/\M4 ps (A.drop p.1.toNat)
theorem run_take {text:List Int} {n:Int} (h1:1<=n) (h2:n<=(oB text).length):text.take n.toNat=(oB text).take n.toNat:=by
 obtain⟨r,hr⟩:oB text <+:text:=List.takeWhile_prefix isB;rw[<-hr,List.take_append_of_le_length (by omega)];have:oB (oB text++r)=oB text:=by rw[hr]
 rw[this]
theorem dL {kind:Int} {t:List Rg} {final:Bool} (ht:mA t):∀{k:Nat} {text:List Int} {op:Bool},text.length<=k->(∀y∈text,0<=y)->M4 (nB kind t final k text op) text
 | 0,text,op,h,_=>by
  have:text= []:=List.eq_nil_of_length_eq_zero (by omega);subst this;rfl
 | k+1,text,op,h,hp=>by
  by_cases h0:text= []
  ·subst h0;rw[eF];rfl
  ·have hl:=List.length_pos_iff.2 h0
   by_cases hr:oB text= []
   ·cases text with
    | nil=>exact absurd rfl h0
    | cons m l=>
     have hm:isB m=false:=by
      cases hb:isB m with
      | false=>rfl
      | true=>simp[oB,hb]at hr
     rw[H8 hm];have hm2:256<=m:=by
      have h1:=hp m (by simp);rcases Int.lt_or_le m 256 with h2 | h2
      ·rw[eD.2 ⟨h1,h2⟩]at hm;cases hm
      ·exact h2
     refine⟨by simp,by simp;omega, .inl ⟨m,by simp,hm2⟩,?_⟩;exact dL ht (by simp only[List.length_cons]at h;show l.length<=k;omega) (fun y hy=>hp y (List.mem_of_mem_drop (i:=(1:Int).toNat) hy))
   ·obtain⟨⟨n,d⟩,hn⟩:∃x,bB kind t (oB text) (final || decide ((oB text).length<text.length))=x:=⟨_,rfl⟩;have hle:=uH (kind:=kind) ht T6 hr (final || decide ((oB text).length<text.length));rw[hn]at hle;simp only at hle;have hrl:=runOf_le text;rw[I6 hr hn];refine⟨hle.1,by simp only;omega, .inr ⟨?_,?_⟩,?_⟩
    ·simp only;intro e;have h9:=congrArg List.length e;rw[List.length_take,List.length_nil]at h9;omega
    ·simp only;rw[run_take hle.1 hle.2];intro y hy;exact T6 y (List.mem_of_mem_take hy)
    ·exact dL ht (by simp only[List.length_drop];omega) (fun y hy=>hp y (List.mem_of_mem_drop hy))
theorem pQ {V:Vc} {N:List ByteArray} {s:Int} (h:sB V N s=0):0<=s/\s<256+(N.length:Int):=by
 unfold sB at h
 by_cases h1:s<0\/256+(N.length:Int)<=s
 ·rw[if_pos h1]at h;cases h
 ·omega
theorem rV {V:Vc} {N:List ByteArray} {kind:Int} {t:List Rg} {final:Bool} (ht:mA t) {A:List Int} (hc:vA V N A=0):M4 (F4 kind t A final) A:=
 dL ht (Nat.le_refl _) (fun y hy=>(pQ (C7.1 hc y hy)).1)
theorem vJ {V:Vc} {N:List ByteArray} {A:List Int} (hc:vA V N A=0) (k:Nat):vA V N (A.take k)=0/\vA V N (A.drop k)=0:=
 ⟨C7.2 (fun s hs=>C7.1 hc s (List.mem_of_mem_take hs)),C7.2 (fun s hs=>C7.1 hc s (List.mem_of_mem_drop hs))⟩
theorem jZ {N:List ByteArray} (hN:A6 N) {k:Nat} (hk:k<N.length):E4 N (tk N k)=some k:=
 fF hk rfl (fun j hj e=>by
  have h:=List.pairwise_iff_getElem.1 hN.2.2 j k (by omega) hk hj;have e1:N[j]=tk N j:=by simp[tk,List.getD,show j<N.length by omega]
  have e2:N[k]=tk N k:=by simp[tk,List.getD,hk]
  rw[e1,e2,e,cD]at h
  cases h)
theorem mV {V:Vc} {N:List ByteArray} (hS:dE V.tokens V.specials) (hN:A6 N) {k:Nat} (hk:k<N.length) {s:Sp} (h:D0 V.specials (tk N k)=some s):iA V N s.id=([256+(k:Int)],0):=by
 have hm:s∈V.specials:=List.mem_of_find?_eq_some h;have hnm:s.name=tk N k:=by
  have h9:=List.find?_some (p:=fun s:Sp=>decide (s.name=tk N k)) h;simpa using h9
 have ho:=hS.2.1 s hm;unfold iA;rw[if_neg (fun g=>by
  obtain⟨_,_,g3⟩:=A8.1 g;exact g3 ho.2.2.2),spBy_mem hS hm]
 simp only;rw[hnm,jZ hN hk]
set_option linter.unusedSimpArgs false
theorem Own.from {w:World} {base:Nat} {vo:Option Addr} {n vc:Nat} {A:List Int} (h:Own w base (.slice vo n vc) A) (ad:Addr) (e:vo=some ad):base<=ad.block:=by
 subst e;obtain⟨_,h2⟩:=h.block;rcases h2 with⟨h3,_⟩ | ⟨g,cur,h3,h4,_⟩
 ·cases h3
 ·simp at h3;subst h3;exact h4
def aAn (w:World) (base cb mb:Nat) (no:Option Addr) (N:Nat->Nd) (room hits misses:Int) (i:Nat) (key:ByteArray) (m':Nat) (ord':List Nat) (sz':Nat) (f':ByteArray->Option Int) (R':Nat->List Int) (w':World):Prop:=
 ∃g cap' N' e' y',CSt w' base w'.heap.size cb mb (some ⟨g,0,none⟩) m' cap' N' e' y' room hits misses ord' sz' f' R'/\
  (∀j,j≠i->(N' j).held=(N j).held)/\(N' i).key=key/\(∀ad,(N' i).ro=some ad->w.heap.size<=ad.block)/\kA (Ft cb mb no) w w'/\At no g w.heap.size
section
variable {w:World} {base cb mb m cap sz:Nat} {no:Option Addr} {N:Nat->Nd} {e y room hits misses:Int} {ord:List Nat} {f:ByteArray->Option Int} {R:Nat->List Int}
theorem put_oldB {pre post ord1:List Nat} {i:Nat} (h:CSt w base w.heap.size cb mb no m cap N e y room hits misses (pre++i::post) sz f R) (key:ByteArray) (hkl:key.size<=maxLen) (hroom:0<room)
  {ao:Option Addr} {n c:Nat} {A:List Int} (hA:SlI w ao n c A) (hAo:∀ad,ao=some ad->0<n->ad.block<w.heap.size/\¬Ft cb mb no ad.block) (hlim:n<=1048576) (hsz:sz<1048576) (hf:f key=some (i:Int)) (hord:pre++post=ord1):
  Calls Tryz.prog 168 #[.pointer (some ⟨cb,0,none⟩), .string key, .slice ao n c] w fun en w'=>en= .returned (.tuple #[])/\aAn w base cb mb no N room hits misses i key m (ord1++ [i]) sz (fun t=>if t=key then some (i:Int)else f t) (upd R i A) w':=by
 have him:i<m:=h.lt i (by simp);obtain⟨nb,rfl,hc,hmn,hbn,hbn2⟩:=h.cmem (by omega);obtain⟨hel,hyo⟩:=h.ch.at_ pre i post rfl;have hpost:∀k∈pre++post,k<m:=fun k hk=>h.lt k (by simp at hk |-;rcases hk with h | h<;>simp[h])
 have pel:Pl m (N i).el:=by rw[hel];exact cK fun k hk=>hpost k (by simp[hk])
 have pyo:Pl m (N i).yo:=by rw[hyo];exact zZ fun k hk=>hpost k (by simp[hk])
 have hni:i∉pre++post:=by
  have:=h.ch.nd;have h2:(i::(pre++post)).Nodup:=(List.perm_middle.nodup_iff).1 this;exact(List.nodup_cons.1 h2).1
 obtain⟨f0,f1,f2,f3,f4,f5,f6,ff⟩:=id h.fl;have hmp:=h.mp;have hr1:(room==0)=false:=by simp;omega
 have HC:=hW_ h;clear h;go_enter Tryz.func168,Tryz.ntmps168;go_wp2_with (with_reducible show wpList _ _ _ (⟨_, .lookup _ _ _ _,_,_,_,_⟩::_) _ _;refine jE rfl _ _ rfl rfl hmp rfl hkl ?_;rw[hf]);refine(H4 w hc i him pel pyo).mono ?_
 rintro en w1 ⟨rfl,hc1,hk1⟩;rw[hord]at hni;have H1:=hW_ ((HC.out.relink (ord':=ord1) (Nat.le_refl _) hmn ⟨hbn,hbn2⟩ hc1 hk1 (E0 N i) (by rw[<-hord];exact HC.out.ch.unlink) (by rw[<-hord];exact hpost)).up hk1.size);have HK1:Hid (kA (Ft cb mb (some ⟨nb,0,none⟩)) w w1):=hW_ (hk1.mono fun k _ hk=>by
  rcases hk with h | h
  ·exact .inl h
  ·exact .inr (.inr (by rw[h])))
 have hno:At (some (⟨nb,0,none⟩:Addr)) nb w.heap.size:= .inl rfl;have him1:i<m:=him;have HKEY:∀j,j≠i->(cL N i j).held=(N j).held:=fun j _=>E0 N i j
 clear hord hc1 hk1 hc f0 f1 f2 f3 f4 f5 f6 ff hmp;generalize cL N i=N1 at H1 HKEY;generalize (if(N i).el= -1 then(N i).yo else e)=e1 at H1;generalize (if(N i).yo= -1 then(N i).el else y)=y1 at H1;obtain⟨hc1,hmn1,hbn1,hbn21⟩:=H1.out.cmem' (by omega);have hA1:SlI w1 ao n c A:=hA.keep0 fun ad e h0=>HK1.out.block _ (hAo ad e h0).1 (hAo ad e h0).2
 have hne1:∀ad,ao=some ad->0<n->ad.block≠nb:=by
  intro ad e h0 e2;rcases hno with h | h
  ·exact(hAo ad e h0).2 (.inr (.inr (by rw[h,e2])))
  ·have:=(hAo ad e h0).1;omega
 have hA1k:SlI (w1.setCell ⟨nb,i*4,none⟩ (.string key)).drew ao n c A:=hA1.keep0 fun ad e h0=>rA (hne1 ad e h0)
 have HC1:=hW_ hc1;have HCk:=hW_ (hc1.setKey him1 key);obtain⟨c0,c1,c2,c3⟩:=hc1.cells him1;obtain⟨f0,f1,f2,f3,f4,f5,f6,ff⟩:=id hc1.f;have nf:=hc1.n.free;have hle1:=hc1.n.le;have hmax1:=hc1.n.max;unfold maxLen at hmax1;have him2:(i:Int)<(m:Int):=by omega
 have hcn:=hc1.ne;have hcn2:=hcn.symm;clear hc1;go_wp2_with (fail);go_cut [6] (fun s6 wx=>s6= .int .i64 i/\Mid w1 cb nb mb m cap N1 i key n A e1 y1 room hits misses wx)
 case first=>
  go_region_held3 (fun w'=>w'.cell? ⟨cb,0,none⟩=some (.slice (some ⟨nb,0,none⟩) m cap)/\w'.cell? ⟨cb,0,none⟩=some (.slice (some ⟨nb,0,none⟩) m cap)) (first | exact⟨by assumption,by assumption⟩ | exact⟨f0,f0⟩ | (simp[go_sem,hcn,f0];done) | go_keep)
   (first | (go_at_call 41;refine(yG (A:=A) _ ?_ (by omega)).mono ?_;(first | exact hA1.drew | exact hA1k);rintro e w3 ⟨vo,vc,rfl,ho3,hb3⟩;(first | have hcm3:=HC1.out.drew.below hb3 | have hcm3:=HCk.out.drew.below hb3);obtain⟨c03,c13,c23,c33⟩:=hcm3.cells him1;have nf3:=hcm3.n.free;have g03:=hcm3.f.f0))
  all_goals(go_wp2_with fail;go_meet)
  all_goals exact⟨rfl,by first | exact mid_a him1 hcm3 hb3 hbn21 ho3 | exact mid_b him1 hcm3 hb3 hbn21 ho3 | exact mid_c him1 hcm3 hb3 hbn21 ho3⟩
 case rest=>
  obtain⟨rfl,vo,vc,N2,hcm,hN2,hN2',hown,hkk⟩:=hcut;have hcbm:=H1.out.cm;have hmbl:=H1.out.bm;have hmc:tE wc mb sz f:=H1.out.mp.stay (hkk.block mb hmbl.2 hmn1);have hwf:(Lit.int .i64 (i:Int)).wf=true:=WalkArith.wf_i64 (by omega);clear c0 c1 c2 c3 f0 f1 f2 f3 f4 f5 f6 ff nf;have f1:=hcm.f.f1;go_wp2_with (with_reducible show wpList _ _ _ (⟨_, .mapUpdate _ _ _ _,_,_,_,_⟩::_) _ _;refine bH rfl _ _ _ rfl rfl hmc rfl hkl rfl hwf (by unfold maxLen;omega) ?_);intro w3 hmp3 hgr3
  try simp only[hf,Option.isSome_some,if_true]at hmp3
  have K3:kA (fun k=>k=mb) wc w3:=(kA.refl _ _).grown hgr3 fun k hk _=>by simp at hk;exact hk.symm
  have hszc:w1.heap.size<=wc.heap.size:=hkk.size;have hc3:B2 w3 cb nb mb m cap N2 e1 y1 room hits misses:=hcm.stay (K3.block cb hcm.lt hcbm) (K3.block nb hcm.n.lt (fun e=>hmn1 e.symm));have hown3:Own w3 w1.heap.size (.slice vo n vc) A:=hown.stay fun k h1 h2=>K3.block k h2 (by omega)
  have h3:=H1.out.reput him1 hni (Nat.le_refl _) (Nat.le_trans hszc K3.size) hc3 hN2 hN2' hmp3 (fun k h1 h2 h3=>(K3.block k (by omega) h3).trans (hkk.block k h1 h2)) hown3 hmn1 ⟨hbn1,hbn21⟩ hkl;have hsz3:w1.heap.size<=w3.heap.size:=Nat.le_trans hszc K3.size;have hK3:Hid (kA (Ft cb mb (some ⟨nb,0,none⟩)) w w3):=hW_ ((HK1.out.then hkk (fun k _ hk=> .inr (.inr (by rw[hk])))).then K3 fun k _ hk=> .inr (.inl hk));have H3:=hW_ h3;have hpy:Pl m y1:=by rw[H1.out.ch.y_];exact cK H1.out.lt
  have hyi:y1≠(i:Int):=by
   rw[H1.out.ch.y_];intro e2;rcases A5 (ord1)with e | ⟨l',x,e⟩
   ·rw[e,qD]at e2;omega
   ·rw[e,A9]at e2;exact hni (by rw[e];simp;omega)
  clear h3 hmc f1 hmp3 hgr3;go_wp2_with (fail);refine(dI _ hc3 i him1 hpy hyi).mono ?_
  rintro en w4 ⟨rfl,hc4,hk4⟩;have hlt4:∀k∈ord1++ [i],k<m:=by
   intro k hk;rcases List.mem_append.1 hk with h | h
   ·exact H1.out.lt k h
   ·simp at h;omega
  have h4:=H3.out.relink (Nat.le_refl _) hmn1 ⟨hbn1,by omega⟩ hc4 hk4 (D9 N2 i y1) (H3.out.ch.link hni) hlt4;have HH:∀j,(lJ N2 i y1 j).held=(N2 j).held:=fun j=>D9 N2 i y1 j
  go_wp2_with (fail)
  go_end0
  refine⟨rfl,nb,_,_,_,_,h4.up hk4.size,fun j hj=> ?_,?_,?_,?_,hno⟩
  ·rw[HH,hN2' j hj];exact HKEY j hj
  ·have:=HH i;simp only[Nd.held,Prod.mk.injEq]at this;rw[this.1,hN2]
  ·intro ad had;have h9:=HH i;simp only[Nd.held,Prod.mk.injEq]at h9;rw[h9.2.1,hN2]at had;have h10:vo=some ad:=had;exact Nat.le_trans HK1.out.size (hown3.from ad h10)
  ·exact hK3.out.then hk4 fun k hkl' hk=>by
    rcases hk with h | h
    ·exact .inl h
    ·rcases hno with h' | h'
     ·exact .inr (.inr (by rw[h',h]))
     ·omega
theorem put_newB {R1:Nat->List Int} (h:CSt w base w.heap.size cb mb no m cap N e y room hits misses ord sz f R) (key:ByteArray) (hkl:key.size<=maxLen) (hroom:0<room)
  {ao:Option Addr} {n c:Nat} {A:List Int} (hA:SlI w ao n c A) (hAo:∀ad,ao=some ad->0<n->ad.block<w.heap.size/\¬Ft cb mb no ad.block) (hlim:n<=1048576) (hsz:sz<1048576) (hf:f key=none) (hsr:(sz:Int)<room) (hm0:m<1048576) (hR1:upd R m []=R1):
  Calls Tryz.prog 168 #[.pointer (some ⟨cb,0,none⟩), .string key, .slice ao n c] w fun en w'=>en= .returned (.tuple #[])/\aAn w base cb mb no N room hits misses m key (m+1) (ord++ [m]) (sz+1) (fun t=>if t=key then some (m:Int)else f t) (upd R1 m A) w':=by
 have him1:m<m+1:=by omega
 have hni:m∉ord:=fun hi=>by have:=h.lt m hi;omega
 obtain⟨f0,f1,f2,f3,f4,f5,f6,ff⟩:=id h.fl;have hmp:=h.mp;have hr1:(room==0)=false:=by simp;omega
 have HC:=hW_ h;clear h;go_enter Tryz.func168,Tryz.ntmps168;go_wp2_with (with_reducible show wpList _ _ _ (⟨_, .lookup _ _ _ _,_,_,_,_⟩::_) _ _;refine jE rfl _ _ rfl rfl hmp rfl hkl ?_;rw[hf]);refine(free_new HC.out hsr hm0).mono ?_
 rintro en w1 ⟨rfl,g,cap1,h1,hk1,hat⟩;rw[hR1]at h1;have H1:=hW_ h1;have HK1:=hW_ hk1;have hno:At no g w.heap.size:=hat;have HKEY:∀j,j≠m->(upd N m O3 j).held=(N j).held:=fun j hj=>by rw[mB _ _ _ _ hj]
 clear h1 hk1 hat f0 f1 f2 f3 f4 f5 f6 ff hmp;generalize upd N m O3=N1 at H1 HKEY;obtain⟨hc1,hmn1,hbn1,hbn21⟩:=H1.out.cmem' (by omega);have hA1:SlI w1 ao n c A:=hA.keep0 fun ad e h0=>HK1.out.block _ (hAo ad e h0).1 (hAo ad e h0).2
 have hne1:∀ad,ao=some ad->0<n->ad.block≠g:=by
  intro ad e h0 e2;rcases hno with h | h
  ·exact(hAo ad e h0).2 (.inr (.inr (by rw[h,e2])))
  ·have:=(hAo ad e h0).1;omega
 have hA1k:SlI (w1.setCell ⟨g,m*4,none⟩ (.string key)).drew ao n c A:=hA1.keep0 fun ad e h0=>rA (hne1 ad e h0)
 have HC1:=hW_ hc1;have HCk:=hW_ (hc1.setKey him1 key);obtain⟨c0,c1,c2,c3⟩:=hc1.cells him1;obtain⟨f0,f1,f2,f3,f4,f5,f6,ff⟩:=id hc1.f;have nf:=hc1.n.free;have hle1:=hc1.n.le;have hmax1:=hc1.n.max;unfold maxLen at hmax1;have him2:(m:Int)<((m+1):Int):=by omega
 have hcn:=hc1.ne;have hcn2:=hcn.symm;clear hc1;go_wp2_with (fail);go_cut [6] (fun s6 wx=>s6= .int .i64 m/\Mid w1 cb g mb (m+1) cap1 N1 m key n A e y room hits misses wx)
 case first=>
  go_region_held3 (fun w'=>w'.cell? ⟨cb,0,none⟩=some (.slice (some ⟨g,0,none⟩) (m+1) cap1)/\w'.cell? ⟨cb,0,none⟩=some (.slice (some ⟨g,0,none⟩) (m+1) cap1)) (first | exact⟨by assumption,by assumption⟩ | exact⟨f0,f0⟩ | (simp[go_sem,hcn,f0];done) | go_keep)
   (first | (go_at_call 41;refine(yG (A:=A) _ ?_ (by omega)).mono ?_;(first | exact hA1.drew | exact hA1k);rintro e w3 ⟨vo,vc,rfl,ho3,hb3⟩;(first | have hcm3:=HC1.out.drew.below hb3 | have hcm3:=HCk.out.drew.below hb3);obtain⟨c03,c13,c23,c33⟩:=hcm3.cells him1;have nf3:=hcm3.n.free;have g03:=hcm3.f.f0))
  all_goals(go_wp2_with fail;go_meet)
  all_goals exact⟨rfl,by first | exact mid_a him1 hcm3 hb3 hbn21 ho3 | exact mid_b him1 hcm3 hb3 hbn21 ho3 | exact mid_c him1 hcm3 hb3 hbn21 ho3⟩
 case rest=>
  obtain⟨rfl,vo,vc,N2,hcm,hN2,hN2',hown,hkk⟩:=hcut;have hcbm:=H1.out.cm;have hmbl:=H1.out.bm;have hmc:tE wc mb sz f:=H1.out.mp.stay (hkk.block mb hmbl.2 hmn1);have hwf:(Lit.int .i64 (m:Int)).wf=true:=WalkArith.wf_i64 (by omega);clear c0 c1 c2 c3 f0 f1 f2 f3 f4 f5 f6 ff nf;have f1:=hcm.f.f1;go_wp2_with (with_reducible show wpList _ _ _ (⟨_, .mapUpdate _ _ _ _,_,_,_,_⟩::_) _ _;refine bH rfl _ _ _ rfl rfl hmc rfl hkl rfl hwf (by unfold maxLen;omega) ?_);intro w3 hmp3 hgr3
  try simp only[hf,Option.isSome_none,Bool.false_eq_true,if_false]at hmp3
  have K3:kA (fun k=>k=mb) wc w3:=(kA.refl _ _).grown hgr3 fun k hk _=>by simp at hk;exact hk.symm
  have hszc:w1.heap.size<=wc.heap.size:=hkk.size;have hc3:B2 w3 cb g mb (m+1) cap1 N2 e y room hits misses:=hcm.stay (K3.block cb hcm.lt hcbm) (K3.block g hcm.n.lt (fun e=>hmn1 e.symm));have hown3:Own w3 w1.heap.size (.slice vo n vc) A:=hown.stay fun k h1 h2=>K3.block k h2 (by omega)
  have h3:=H1.out.reput him1 hni (Nat.le_refl _) (Nat.le_trans hszc K3.size) hc3 hN2 hN2' hmp3 (fun k h1 h2 h3=>(K3.block k (by omega) h3).trans (hkk.block k h1 h2)) hown3 hmn1 ⟨hbn1,hbn21⟩ hkl;have hsz3:w1.heap.size<=w3.heap.size:=Nat.le_trans hszc K3.size;have hK3:Hid (kA (Ft cb mb no) w w3):=hW_ ((HK1.out.then hkk (fun k hk0 hk=>by rcases hno with h | h;exact .inr (.inr (by rw[hk];exact h));omega)).then K3 fun k _ hk=> .inr (.inl hk));have H3:=hW_ h3;have hpy:Pl (m+1) y:=by rw[H1.out.ch.y_];exact cK H1.out.lt
  have hyi:y≠(m:Int):=by
   rw[H1.out.ch.y_];intro e2;rcases A5 (ord)with e | ⟨l',x,e⟩
   ·rw[e,qD]at e2;omega
   ·rw[e,A9]at e2;exact hni (by rw[e];simp;omega)
  clear h3 hmc f1 hmp3 hgr3;go_wp2_with (fail);refine(dI _ hc3 m him1 hpy hyi).mono ?_
  rintro en w4 ⟨rfl,hc4,hk4⟩;have hlt4:∀k∈ord++ [m],k<(m+1):=by
   intro k hk;rcases List.mem_append.1 hk with h | h
   ·exact H1.out.lt k h
   ·simp at h;omega
  have h4:=H3.out.relink (Nat.le_refl _) hmn1 ⟨hbn1,by omega⟩ hc4 hk4 (D9 N2 m y) (H3.out.ch.link hni) hlt4;have HH:∀j,(lJ N2 m y j).held=(N2 j).held:=fun j=>D9 N2 m y j
  go_wp2_with (fail)
  go_end0
  refine⟨rfl,g,_,_,_,_,h4.up hk4.size,fun j hj=> ?_,?_,?_,?_,hno⟩
  ·rw[HH,hN2' j hj];exact HKEY j hj
  ·have:=HH m;simp only[Nd.held,Prod.mk.injEq]at this;rw[this.1,hN2]
  ·intro ad had;have h9:=HH m;simp only[Nd.held,Prod.mk.injEq]at h9;rw[h9.2.1,hN2]at had;have h10:vo=some ad:=had;exact Nat.le_trans HK1.out.size (hown3.from ad h10)
  ·exact hK3.out.then hk4 fun k hkl' hk=>by
    rcases hk with h | h
    ·exact .inl h
    ·rcases hno with h' | h'
     ·exact .inr (.inr (by rw[h',h]))
     ·omega
theorem aZ {i sz1:Nat} {post:List Nat} {fv:ByteArray->Option Int} (h:CSt w base w.heap.size cb mb no m cap N e y room hits misses (i::post) sz f R) (key:ByteArray) (hkl:key.size<=maxLen) (hroom:0<room)
  {ao:Option Addr} {n c:Nat} {A:List Int} (hA:SlI w ao n c A) (hAo:∀ad,ao=some ad->0<n->ad.block<w.heap.size/\¬Ft cb mb no ad.block) (hlim:n<=1048576) (hsz:sz<1048576) (hf:f key=none) (hsr:room<=(sz:Int)) (hfk:(f (N i).key).isSome=true) (hfv:(fun t=>if t=(N i).key then none else f t)=fv) (hs1:sz-1=sz1):
  Calls Tryz.prog 168 #[.pointer (some ⟨cb,0,none⟩), .string key, .slice ao n c] w fun en w'=>en= .returned (.tuple #[])/\aAn w base cb mb no N room hits misses i key m (post++ [i]) (sz1+1) (fun t=>if t=key then some (i:Int)else fv t) (upd R i A) w':=by
 have him1:i<m:=h.lt i (by simp);obtain⟨nb,rfl,hc,hmn,hbn,hbn2⟩:=h.cmem (by omega);have hni:i∉post:=(List.nodup_cons.1 h.ch.nd).1;have hfv0:fv key=none:=by rw[<-hfv];simp[hf]
 obtain⟨f0,f1,f2,f3,f4,f5,f6,ff⟩:=id h.fl;have hmp:=h.mp;have hr1:(room==0)=false:=by simp;omega
 have HC:=hW_ h;clear h hc;go_enter Tryz.func168,Tryz.ntmps168;go_wp2_with (with_reducible show wpList _ _ _ (⟨_, .lookup _ _ _ _,_,_,_,_⟩::_) _ _;refine jE rfl _ _ rfl rfl hmp rfl hkl ?_;rw[hf]);refine(free_old HC.out hsr hfk).mono ?_
 rintro en w1 ⟨rfl,N1,e1,y1,h1,hheld,hk1⟩;rw[hfv,hs1]at h1;have H1:=hW_ h1;have HK1:=hW_ hk1;have hno:At (some (⟨nb,0,none⟩:Addr)) nb w.heap.size:= .inl rfl;have HKEY:∀j,j≠i->(N1 j).held=(N j).held:=fun j _=>hheld j
 have hsz0:sz1<1048576:=by omega
 clear hs1;clear h1 hk1 hheld f0 f1 f2 f3 f4 f5 f6 ff hmp hfv;obtain⟨hc1,hmn1,hbn1,hbn21⟩:=H1.out.cmem' (by omega);have hA1:SlI w1 ao n c A:=hA.keep0 fun ad e h0=>HK1.out.block _ (hAo ad e h0).1 (hAo ad e h0).2
 have hne1:∀ad,ao=some ad->0<n->ad.block≠nb:=by
  intro ad e h0 e2;rcases hno with h | h
  ·exact(hAo ad e h0).2 (.inr (.inr (by rw[h,e2])))
  ·have:=(hAo ad e h0).1;omega
 have hA1k:SlI (w1.setCell ⟨nb,i*4,none⟩ (.string key)).drew ao n c A:=hA1.keep0 fun ad e h0=>rA (hne1 ad e h0)
 have HC1:=hW_ hc1;have HCk:=hW_ (hc1.setKey him1 key);obtain⟨c0,c1,c2,c3⟩:=hc1.cells him1;obtain⟨f0,f1,f2,f3,f4,f5,f6,ff⟩:=id hc1.f;have nf:=hc1.n.free;have hle1:=hc1.n.le;have hmax1:=hc1.n.max;unfold maxLen at hmax1;have him2:(i:Int)<(m:Int):=by omega
 have hcn:=hc1.ne;have hcn2:=hcn.symm;clear hc1;go_wp2_with (fail);go_cut [6] (fun s6 wx=>s6= .int .i64 i/\Mid w1 cb nb mb m cap N1 i key n A e1 y1 room hits misses wx)
 case first=>
  go_region_held3 (fun w'=>w'.cell? ⟨cb,0,none⟩=some (.slice (some ⟨nb,0,none⟩) m cap)/\w'.cell? ⟨cb,0,none⟩=some (.slice (some ⟨nb,0,none⟩) m cap)) (first | exact⟨by assumption,by assumption⟩ | exact⟨f0,f0⟩ | (simp[go_sem,hcn,f0];done) | go_keep)
   (first | (go_at_call 41;refine(yG (A:=A) _ ?_ (by omega)).mono ?_;(first | exact hA1.drew | exact hA1k);rintro e w3 ⟨vo,vc,rfl,ho3,hb3⟩;(first | have hcm3:=HC1.out.drew.below hb3 | have hcm3:=HCk.out.drew.below hb3);obtain⟨c03,c13,c23,c33⟩:=hcm3.cells him1;have nf3:=hcm3.n.free;have g03:=hcm3.f.f0))
  all_goals(go_wp2_with fail;go_meet)
  all_goals exact⟨rfl,by first | exact mid_a him1 hcm3 hb3 hbn21 ho3 | exact mid_b him1 hcm3 hb3 hbn21 ho3 | exact mid_c him1 hcm3 hb3 hbn21 ho3⟩
 case rest=>
  obtain⟨rfl,vo,vc,N2,hcm,hN2,hN2',hown,hkk⟩:=hcut;have hcbm:=H1.out.cm;have hmbl:=H1.out.bm;have hmc:tE wc mb sz1 fv:=H1.out.mp.stay (hkk.block mb hmbl.2 hmn1);have hwf:(Lit.int .i64 (i:Int)).wf=true:=WalkArith.wf_i64 (by omega);clear c0 c1 c2 c3 f0 f1 f2 f3 f4 f5 f6 ff nf;have f1:=hcm.f.f1;go_wp2_with (with_reducible show wpList _ _ _ (⟨_, .mapUpdate _ _ _ _,_,_,_,_⟩::_) _ _;refine bH rfl _ _ _ rfl rfl hmc rfl hkl rfl hwf (by unfold maxLen;omega) ?_);intro w3 hmp3 hgr3
  try simp only[hfv0,Option.isSome_none,Bool.false_eq_true,if_false]at hmp3
  have K3:kA (fun k=>k=mb) wc w3:=(kA.refl _ _).grown hgr3 fun k hk _=>by simp at hk;exact hk.symm
  have hszc:w1.heap.size<=wc.heap.size:=hkk.size;have hc3:B2 w3 cb nb mb m cap N2 e1 y1 room hits misses:=hcm.stay (K3.block cb hcm.lt hcbm) (K3.block nb hcm.n.lt (fun e=>hmn1 e.symm));have hown3:Own w3 w1.heap.size (.slice vo n vc) A:=hown.stay fun k h1 h2=>K3.block k h2 (by omega)
  have h3:=H1.out.reput him1 hni (Nat.le_refl _) (Nat.le_trans hszc K3.size) hc3 hN2 hN2' hmp3 (fun k h1 h2 h3=>(K3.block k (by omega) h3).trans (hkk.block k h1 h2)) hown3 hmn1 ⟨hbn1,hbn21⟩ hkl;have hsz3:w1.heap.size<=w3.heap.size:=Nat.le_trans hszc K3.size;have hK3:Hid (kA (Ft cb mb (some ⟨nb,0,none⟩)) w w3):=hW_ ((HK1.out.then hkk (fun k _ hk=> .inr (.inr (by rw[hk])))).then K3 fun k _ hk=> .inr (.inl hk));have H3:=hW_ h3;have hpy:Pl m y1:=by rw[H1.out.ch.y_];exact cK H1.out.lt
  have hyi:y1≠(i:Int):=by
   rw[H1.out.ch.y_];intro e2;rcases A5 (post)with e | ⟨l',x,e⟩
   ·rw[e,qD]at e2;omega
   ·rw[e,A9]at e2;exact hni (by rw[e];simp;omega)
  clear h3 hmc f1 hmp3 hgr3;go_wp2_with (fail);refine(dI _ hc3 i him1 hpy hyi).mono ?_
  rintro en w4 ⟨rfl,hc4,hk4⟩;have hlt4:∀k∈post++ [i],k<m:=by
   intro k hk;rcases List.mem_append.1 hk with h | h
   ·exact H1.out.lt k h
   ·simp at h;omega
  have h4:=H3.out.relink (Nat.le_refl _) hmn1 ⟨hbn1,by omega⟩ hc4 hk4 (D9 N2 i y1) (H3.out.ch.link hni) hlt4;have HH:∀j,(lJ N2 i y1 j).held=(N2 j).held:=fun j=>D9 N2 i y1 j
  go_wp2_with (fail)
  go_end0
  refine⟨rfl,nb,_,_,_,_,h4.up hk4.size,fun j hj=> ?_,?_,?_,?_,hno⟩
  ·rw[HH,hN2' j hj];exact HKEY j hj
  ·have:=HH i;simp only[Nd.held,Prod.mk.injEq]at this;rw[this.1,hN2]
  ·intro ad had;have h9:=HH i;simp only[Nd.held,Prod.mk.injEq]at h9;rw[h9.2.1,hN2]at had;have h10:vo=some ad:=had;exact Nat.le_trans HK1.out.size (hown3.from ad h10)
  ·exact hK3.out.then hk4 fun k hkl' hk=>by
    rcases hk with h | h
    ·exact .inl h
    ·rcases hno with h' | h'
     ·exact .inr (.inr (by rw[h',h]))
     ·omega
end
theorem CSt.among {w w':World} {base top cb mb m cap sz:Nat} {no:Option Addr} {N:Nat->Nd} {e y room hits misses:Int} {ord:List Nat} {f:ByteArray->Option Int} {R:Nat->List Int}
  (h:CSt w base top cb mb no m cap N e y room hits misses ord sz f R) (h1:∀k,Ft cb mb no k->w'.heap[k]?=w.heap[k]?) (h2:∀i,i<m->∀ad,(N i).ro=some ad->w'.heap[ad.block]?=w.heap[ad.block]?):
  CSt w' base top cb mb no m cap N e y room hits misses ord sz f R:=by
 refine⟨h.fl.stay (h1 cb (.inl rfl)),?_,h.mp.stay (h1 mb (.inr (.inl rfl))),h.ch,h.lt,h.cm,h.bc,h.bm,fun i hi=> ?_,h.keys⟩
 ·rcases h.nd with h' | ⟨nb,e1,e2,e3,e4,e5,e6⟩
  ·exact .inl h'
  ·exact .inr ⟨nb,e1,e2.stay (h1 nb (.inr (.inr e1))),e3,e4,e5,e6⟩
 ·obtain⟨a1,a2⟩:=h.rows i hi;exact⟨a1.keep fun ad e=>h2 i hi ad e,a2⟩
theorem oG.hi {w w':World} {base top cb mb:Nat} {no:Option Addr} {l:List Row} {room hits misses:Int} (h:oG w base top cb mb no l room hits misses) (hk:∀q,base<=q->q<top->w'.heap[q]?=w.heap[q]?):oG w' base top cb mb no l room hits misses:=by
 have hft:=h.ft;obtain⟨m,cap,N,e,y,ord,sz,f,R,hc,hg,hl⟩:=h;refine⟨m,cap,N,e,y,ord,sz,f,R,hc.among (fun k hf=>hk k (hft k hf).1 (hft k hf).2) (fun i hi ad e=> ?_),hg,hl⟩;obtain⟨a,b,_⟩:=(hc.rows i hi).2 ad e;exact hk _ a b
theorem qI.hi {w w':World} {base base' g:Nat} {V:Vc} {N:List ByteArray} {kind:Int} {T:List Rg} {room:Int} {cb mb:Nat} {no:Option Addr} {l:List Row} {hits misses:Int} (h:qI w base g V N kind T room cb mb no l hits misses)
  (hk:∀q,base<=q->q<w.heap.size->w'.heap[q]?=w.heap[q]?) (hs:w.heap.size<=w'.heap.size) (hb:base'<=base):qI w' base' g V N kind T room cb mb no l hits misses:=by
 have hr:=h.rep;obtain⟨⟨S,h1,h2⟩,_⟩:=h;refine⟨⟨S,fun w'' e1 e2=>((h1.next (fun q hq=>hk q (h2 q hq).1.1 (h2 q hq).1.2) hs) w'' e1 e2).mono hb,fun q hq=>⟨⟨by have:=(h2 q hq).1.1;omega,Nat.lt_of_lt_of_le (h2 q hq).1.2 hs⟩,(h2 q hq).2⟩⟩,?_⟩;exact((hr.hi hk).up hs).base hb
theorem tab_off {w:World} {q o n1 c1 n2 c2 n3 c3 n4 c4 n5 c5:Nat} {a1 a2 a3 a4 a5:Option Addr} {z u v:Int} {t:TypeId} (hx:w.heap[q]?=some (.cells #[.slice a1 n1 c1, .slice a2 n2 c2, .slice a3 n3 c3, .slice a4 n4 c4, .int .i64 z, .slice a5 n5 c5] t))
  (h0:w.cell? ⟨q,o,none⟩=some (.int .i64 u)) (h1:w.cell? ⟨q,o+1,none⟩=some (.int .i64 v)):False:=by
 simp only[World.cell?,hx]at h0 h1
 match o,h0,h1 with
 | 0,h0,_=>simp at h0
 | 1,h0,_=>simp at h0
 | 2,h0,_=>simp at h0
 | 3,h0,_=>simp at h0
 | 4,_,h1=>simp at h1
 | 5,h0,_=>simp at h0
 | o+6,h0,_=>simp at h0
theorem SlF.not_at {w:World} {T:List Rg} {ao:Option Addr} {n c q n1 c1 n2 c2 n3 c3 n4 c4 n5 c5:Nat} {a1 a2 a3 a4 a5:Option Addr} {z:Int} {t:TypeId} (h:SlF 3 w ao n c (flat Rg.enc T)) (hx:w.heap[q]?=some (.cells #[.slice a1 n1 c1, .slice a2 n2 c2, .slice a3 n3 c3, .slice a4 n4 c4, .int .i64 z, .slice a5 n5 c5] t)):
  ∀ad,ao=some ad->0<n->ad.block≠q:=fun ad e h0 hq=>by
 have hT:0<T.length:=by have:=h.count Rg.enc_len (by omega);omega
 obtain⟨b,o,hao,hce⟩:=h.elem Rg.enc_len (by omega) (List.getElem?_eq_getElem hT);obtain rfl:ad=⟨b,o,none⟩:=Option.some.inj (e.symm.trans hao);obtain rfl:b=q:=hq;have h1:=hce 0 _ rfl;have h2:=hce 1 _ rfl;exact tab_off hx h1 h2
def aCy (dd:Vd) (no:Option Addr) (nn nc:Nat) (V:Vc) (N:List ByteArray) (kind:Int) (T:List Rg) (room:Int) (w:World) (e:Ending) (w':World):Prop:=
 ((e= .returned (.tuple #[.pointer none,noC, .bool false])/\¬(May V/\cE N kind T room/\¬nI V N T))\/
  (May V/\cE N kind T room/\¬nI V N T/\∃g cb mb to_ tn tc,e= .returned (.tuple #[.pointer (some ⟨g,0,none⟩),X4 dd no nn nc kind to_ tn tc, .bool true])/\qI w' w.heap.size g V N kind (C3 T) room cb mb none [] 0 0/\CR w' dd no nn nc V N/\SlF 3 w' to_ tn tc (flat Rg.enc (C3 T))/\∃bs,w.heap.size<=bs/\bs<=w'.heap.size/\qI w' bs g V N kind (C3 T) room cb mb none [] 0 0/\∀ad,to_=some ad->0<tn->ad.block<bs))/\Below w.heap.size w w'
theorem rW {V:Vc} {dd:Vd} {N:List ByteArray} {kind:Int} {T:List Rg} {room:Int} {no to_:Option Addr} {nn nc tn tc:Nat} (w:World) (hV:eE w dd V) (hok:(∀s∈V.tokens,s.size<=maxLen)/\M3 V.specials) (hN:SlS w no nn nc N) (hNs:∀s∈N,s.size<=maxLen)
  (hT:SlF 3 w to_ tn tc (flat Rg.enc T)) (hU:Usu w):
  Calls Tryz.prog 5 #[.agg #[.slice dd.ta dd.tn dd.tc, .slice dd.ma dd.mn dd.mc, .slice dd.sa dd.sn dd.sc, .slice no nn nc, .int .i64 kind, .slice to_ tn tc, .int .i64 room]] w (aCy dd no nn nc V N kind T room w):=by
 obtain⟨ta,tn',tc',ma,mn,mc,sa,sn,sc⟩:=dd;obtain⟨w0,hw0⟩:∃w0,(w.alloc (.cells #[.slice ta tn' tc', .slice ma mn mc, .slice sa sn sc, .slice no nn nc, .int .i64 kind, .slice to_ tn tc, .int .i64 room] 29)).alloc (.cells #[.slice none 0 0, .slice none 0 0, .slice none 0 0, .slice none 0 0, .int .i64 0, .slice none 0 0] 32)=w0:=⟨_,rfl⟩;have hb0:Below w.heap.size w w0:=hw0▸(aA w _).alloc (by simp) _;have hx0:w0.heap[w.heap.size]?=some (.cells #[.slice ta tn' tc', .slice ma mn mc, .slice sa sn sc, .slice no nn nc, .int .i64 kind, .slice to_ tn tc, .int .i64 room] 29):=by rw[<-hw0];exact(Below.heap_alloc _ _ _ (by simp)).trans (heap_alloc_new w _)
 have hx1:w0.heap[w.heap.size+1]?=some (.cells #[.slice none 0 0, .slice none 0 0, .slice none 0 0, .slice none 0 0, .int .i64 0, .slice none 0 0] 32):=by
  rw[<-hw0];have:=heap_alloc_new (w.alloc (.cells #[.slice ta tn' tc', .slice ma mn mc, .slice sa sn sc, .slice no nn nc, .int .i64 kind, .slice to_ tn tc, .int .i64 room] 29)) (.cells #[.slice none 0 0, .slice none 0 0, .slice none 0 0, .slice none 0 0, .int .i64 0, .slice none 0 0] 32);simpa using this
 have HSZ1:Hid (w.heap.size<w0.heap.size):=hW_ (by rw[<-hw0];simp;omega);have HSZ2:Hid (w.heap.size+1<w0.heap.size):=hW_ (by rw[<-hw0];simp);have hgr:=zR (dd:=⟨ta,tn',tc',ma,mn,mc,sa,sn,sc⟩) w0 (hV.below hb0) hok (Sl.below hN hb0) hNs (hT.below hb0);have HBC:Hid (w.heap.size<=w.heap.size+1):=hW_ (by omega);have HV:=hW_ hV;have HN:=hW_ hN;have HT:=hW_ hT;have HU:=hW_ hU;have HB0:=hW_ hb0;have HX0:=hW_ hx0;have HX1:=hW_ hx1;have HNS:=hW_ hNs;have HOK:=hW_ hok;have HW0:=hW_ hw0;obtain⟨c0,c1,c2,c3,c4,c5,c6⟩:=box7 hx0;rw[<-HW0.out]at c0 c1 c2 c3 c4 c5 c6;clear hV hN hT hNs hU hb0 hx0 hx1 hw0 hok;go_enter Tryz.func5,Tryz.ntmps5;go_wp2_with (fail);rw[HW0.out];clear c0 c1 c2 c3 c4 c5 c6;refine hgr.mono ?_
 rintro e w1 ⟨⟨b,rfl,hbg⟩,hb1⟩;have HB1:=hW_ hb1;have HBG:=hW_ hbg;clear hgr hbg hb1;obtain⟨c0,c1,c2,c3,c4,c5,c6⟩:=box7 ((HB1.out.block w.heap.size HSZ1.out).trans HX0.out);obtain⟨b0,b1,b2,b3,b4,b5,bf⟩:=nK ((HB1.out.block (w.heap.size+1) HSZ2.out).trans HX1.out)
 cases b with
 | true=>
  go_wp2_with (fail);refine bodyPost_ret (v:= .tuple #[.pointer none,noC, .bool false]) ?_ rfl ⟨.inl ⟨rfl,fun h=>h.2.2 (HBG.out.1 (by first | exact rfl | trivial))⟩,?_⟩
  ·simp[results,Tryz.results5,go_sem,noC,b0,b1,b2,b3,b4,b5]
  ·exact(((((((HB0.out.trans (HB1.out.mono HB0.out.size))).setCell HBC.out _).setCell HBC.out _).setCell HBC.out _).setCell HBC.out _).setCell HBC.out _).setCell HBC.out _
 | false=>
 have hng:¬nI V N T:=fun h=>by have:=HBG.out.2 h;cases this
 have hvok:VOk V:=⟨HOK.out.1,HOK.out.2,by
  rcases Nat.lt_or_ge 20 V.specials.length with h | h
  ·exact absurd (.inl (.inr (.inr (.inl h)))) hng
  ·omega⟩
 have HNG:=hW_ hng;have HVOK:=hW_ hvok;have HBW1:Hid (Below w.heap.size w w1):=hW_ (HB0.out.trans (HB1.out.mono HB0.out.size));have hrn:=T9 (dd:=⟨ta,tn',tc',ma,mn,mc,sa,sn,sc⟩) (kind:=kind) (room:=room) w1 (HV.out.below HBW1.out) hvok (Sl.below HN.out HBW1.out) HNS.out (HT.out.below HBW1.out);clear hng hvok;go_wp2_with (fail);refine hrn.mono ?_
 rintro e w2 ⟨hpost,hb2⟩;have HBW2:Hid (Below w.heap.size w w2):=hW_ (HBW1.out.trans (hb2.mono HBW1.out.size));have HSZ3:Hid (w.heap.size+1<w2.heap.size):=hW_ (by have:=hb2.size;have:=HB1.out.size;have:=HSZ2.out;omega);have HX02:Hid (w2.heap[w.heap.size]?=some (.cells #[.slice ta tn' tc', .slice ma mn mc, .slice sa sn sc, .slice no nn nc, .int .i64 kind, .slice to_ tn tc, .int .i64 room] 29)):=hW_ ((hb2.block w.heap.size (by have:=HB1.out.size;have:=HSZ1.out;omega)).trans ((HB1.out.block w.heap.size HSZ1.out).trans HX0.out));have HX12:Hid (w2.heap[w.heap.size+1]?=some (.cells #[.slice none 0 0, .slice none 0 0, .slice none 0 0, .slice none 0 0, .int .i64 0, .slice none 0 0] 32)):=hW_ ((hb2.block (w.heap.size+1) (by have:=HB1.out.size;have:=HSZ2.out;omega)).trans ((HB1.out.block (w.heap.size+1) HSZ2.out).trans HX1.out));clear hb2 hrn c0 c1 c2 c3 c4 c5 c6 b0 b1 b2 b3 b4 b5 bf;rcases hpost with⟨hwhy,rfl⟩ | ⟨_,hwhy,rfl⟩ | ⟨hM,hOK,uo,un,uc,rfl,hU2⟩
 iterate 2 (
  ·obtain⟨b0,b1,b2,b3,b4,b5,bf⟩:=nK ((Below.heap_alloc _ _ _ HSZ3.out:(w2.alloc (.cells #[.slice none 0 0, .slice none 0 0, .slice none 0 0, .slice none 0 0, .int .i64 0, .slice none 0 0] 32)).heap[w.heap.size+1]?=_).trans HX12.out);unfold noC;go_wp2_with (fail);refine bodyPost_ret (v:= .tuple #[.pointer none,noC, .bool false]) ?_ rfl ⟨.inl ⟨rfl,fun h=>by first | exact hwhy h.1 | exact hwhy h.2.1⟩,?_⟩
   ·simp[results,Tryz.results5,go_sem,noC,b0,b1,b2,b3,b4,b5]
   ·exact((((((HBW2.out.alloc HBW2.out.size _).setCell HBC.out _).setCell HBC.out _).setCell HBC.out _).setCell HBC.out _).setCell HBC.out _).setCell HBC.out _)
 obtain⟨w3,hw3⟩:∃w3,w2.alloc (.cells #[.slice ta tn' tc', .slice ma mn mc, .slice sa sn sc, .slice no nn nc, .int .i64 kind, .slice uo un uc] 32)=w3:=⟨_,rfl⟩;have hb3:Below w2.heap.size w2 w3:=hw3▸aA w2 _;have HBW3:Hid (Below w.heap.size w w3):=hW_ (HBW2.out.trans (hb3.mono HBW2.out.size));have HX3:Hid (w3.heap[w2.heap.size]?=some (.cells #[.slice ta tn' tc', .slice ma mn mc, .slice sa sn sc, .slice no nn nc, .int .i64 kind, .slice uo un uc] 32)):=hW_ (by rw[<-hw3];exact heap_alloc_new w2 _);have HX03:=hW_ ((hb3.block w.heap.size (by have:=HSZ3.out;omega)).trans HX02.out);have HX13:=hW_ ((hb3.block (w.heap.size+1) HSZ3.out).trans HX12.out);have HSZ4:Hid (w2.heap.size<w3.heap.size):=hW_ (by rw[<-hw3];simp);have hnn:nn<=1048576:=by
  have:=HN.out.count;rcases Nat.lt_or_ge 20 N.length with h | h
  ·exact absurd (.inr (.inl h)) HNG.out
  ·omega
 have htn:tn<=1048576:=by
  have:=HT.out.count Rg.enc_len (by omega);rcases Nat.lt_or_ge 80 T.length with h | h
  ·exact absurd (.inr (.inr (.inl h))) HNG.out
  ·omega
 have htx:=pK (dd:=⟨ta,tn',tc',ma,mn,mc,sa,sn,sc⟩) (kind:=kind) (room:=room) w3 (HV.out.below HBW3.out) HVOK.out (Sl.below HN.out HBW3.out) HNS.out hnn (HT.out.below HBW3.out) htn (HU.out.below HBW3.out);have HM:=hW_ hM;have HOK2:=hW_ hOK;have HU3:=hW_ (hU2.below hb3);have HUL:=hW_ (HU3.out.lt (by omega));have HW3:=hW_ hw3;obtain⟨c0,c1,c2,c3,c4,c5,c6⟩:=box7 HX03.out;rw[<-HW3.out]at c0 c1 c2 c3 c4 c5 c6;clear hb3 hw3 hM hOK hU2 hnn htn;go_wp2_with (fail);rw[HW3.out];refine htx.mono ?_
 rintro e w4 ⟨hpost,hb4⟩;rcases hpost with⟨h,_⟩ | ⟨_,h,_⟩ | ⟨_,_,g,cb,mb,rfl,hcod⟩
 ·exact absurd HM.out h
 ·exact absurd HOK2.out h
 have HB4:=hW_ hb4;have HCOD:=hW_ hcod;have hx4:=(HB4.out.block w2.heap.size HSZ4.out).trans HX3.out;have hx14:=(HB4.out.block (w.heap.size+1) (by have:=HSZ3.out;have:=HSZ4.out;omega)).trans HX13.out;have HX14:=hW_ hx14;obtain⟨d0,d1,d2,d3,d4,d5,df⟩:=nK hx4;obtain⟨b0,b1,b2,b3,b4,b5,bf⟩:=nK hx14;clear hx4 hx14 hb4 hcod htx c0 c1 c2 c3 c4 c5 c6;go_wp2_with (fail);go_region
 all_goals(
  go_wp2_with (fail);refine bodyPost_ret (v:= .tuple #[.pointer (some ⟨g,0,none⟩),X4 ⟨ta,tn',tc',ma,mn,mc,sa,sn,sc⟩ no nn nc kind uo un uc, .bool true]) ?_ rfl ⟨.inr ⟨HM.out,HOK2.out,HNG.out,g,cb,mb,uo,un,uc,rfl,?_,?_,?_,w3.heap.size,HBW3.out.size,by have:=HB4.out.size;simp;omega,?_,HUL.out⟩,?_⟩
  ·simp[results,Tryz.results5,go_sem,X4,b0,b1,b2,b3,b4,b5]
  ·refine qI.hi HCOD.out (fun q h1 h2=> ?_) (by simp) HBW3.out.size;have hne:q≠w.heap.size+1:=by have:=HSZ3.out;have:=HSZ4.out;omega
   exact oN hne _ _ _ _ _ _
  ·have hbf:=yQ (HBW3.out.trans (HB4.out.mono HBW3.out.size)) HBC.out (.slice ta tn' tc') (.slice ma mn mc) (.slice sa sn sc) (.slice no nn nc) (.int .i64 kind) (.slice uo un uc);exact⟨HV.out.below hbf,Sl.below HN.out hbf,HM.out.1.2.1,by have:=HN.out.count;have:=HOK2.out.1.1;omega,HVOK.out.2.2,by have:=HM.out.1.1;omega⟩
  ·have hna:=(HU3.out.below HB4.out).not_at HX14.out;exact(HU3.out.below HB4.out).keep0 (fun ad e h0=>oN (hna ad e h0) _ _ _ _ _ _)
  ·refine qI.hi HCOD.out (fun q h1 h2=> ?_) (by simp) (Nat.le_refl _);have hne:q≠w.heap.size+1:=by have:=HSZ3.out;have:=HSZ4.out;omega
   exact oN hne _ _ _ _ _ _
  ·exact yQ (HBW3.out.trans (HB4.out.mono HBW3.out.size)) HBC.out _ _ _ _ _ _)
end Go.Proofs.YtjlokfejnijokaaGreatDoor
