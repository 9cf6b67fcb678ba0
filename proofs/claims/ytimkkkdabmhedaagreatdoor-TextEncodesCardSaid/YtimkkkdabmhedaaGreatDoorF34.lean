/- Walks: the coder of texts: a piece's tokens, by the cache. -/
import Derived.Test.YtimkkkdabmhedaaGreatDoorF33
import Derived.Test.YtimkkkdabmhedaaGreatDoorF8
import Derived.Test.YtimkkkdabmhedaaGreatDoorF19
import Derived.Test.YtimkkkdabmhedaaGreatDoorF11
import Derived.Test.YtimkkkdabmhedaaGreatDoorF30
set_option linter.unusedVariables false
set_option maxHeartbeats 2000000
set_option maxRecDepth 100000
namespace Go.Proofs.YtimkkkdabmhedaaGreatDoor
open Go.RowKit
def rI (A:List Int):ByteArray:=A.foldl (fun r n=>r.push (UInt8.ofNat n.toNat)) ByteArray.empty
theorem aBs:∀(A:List Int) (r:ByteArray),(∀y∈A,0<=y/\y<256)->cA (A.foldl (fun r n=>r.push (UInt8.ofNat n.toNat)) r)=cA r++A
 | [],r,_=>by simp
 | a::A,r,h=>by
  obtain⟨h0,h1⟩:=h a (by simp);rw[List.foldl_cons,aBs A _ (fun y hy=>h y (by simp[hy]))];have:cA (r.push (UInt8.ofNat a.toNat))=cA r++ [a]:=by
   unfold cA;have:(r.push (UInt8.ofNat a.toNat)).data=r.data.push (UInt8.ofNat a.toNat):=rfl;rw[this];simp;omega
  rw[this];simp
theorem qE {A:List Int} (h:∀y∈A,0<=y/\y<256):cA (rI A)=A:=by
 have:=aBs A ByteArray.empty h;rw[show cA ByteArray.empty= [] from rfl,List.nil_append]at this;exact this
theorem O0 {A:List Int} (h:∀y∈A,0<=y/\y<256):(rI A).size=A.length:=by
 rw[<-nA,qE h]
theorem yF {w:World} {ao:Option Addr} {n c:Nat} {A:List Int} (h:SlB w ao n c A) (hn:0<n):(convert 121 9 (.slice ao n c)).run Tryz.prog w= .ok (.string (rI A)) w:=by
 have hl:=h.len;obtain⟨b,o,hao,_⟩:=Sl.at_ h 0 (.int .u8 (ix A 0)) (by rw[List.getElem?_map,uD (by omega)];rfl);subst hao;rw[run_convert_bytes_string (P:=Tryz.prog) _ 121 9 5 _ _ _ Tryz.underlying121 Tryz.underlying5 Tryz.underlying9];rw[run_bytesToString _ _ _ _ A (by
  have:=run_loadCells_list (w:=w) (P:=Tryz.prog) ⟨b,o,none⟩ (A.map (.int .u8)) (fun j v hj=>by
   obtain⟨b',o',e,hc⟩:=Sl.at_ h j v hj;simp only[Option.some.injEq,Addr.mk.injEq,and_true]at e;obtain⟨rfl,rfl⟩:=e;rw[Addr.add_lit];exact hc)
  rw[List.length_map,hl]at this;exact this)]
 rfl
theorem aAZ {M:List Mg}:∀(k:Nat) (r:List Int),(yG M k r).length<=r.length
 | 0,r=>Nat.le_refl _
 | k+1,r=>by
  cases hs:pF M r with
  | none=>rw[uJ hs];exact Nat.le_refl _
  | some r'=>
   have h1:=xK hs;have h2:=aAZ k r' (M:=M);simp only[yG,hs];omega
theorem aBz (V:Vc) (A:List Int):(fG V A).length<=A.length:=by
 have:=aAZ (M:=V.merges) A.length (cB V A);rw[wE]at this;exact this
structure oE (V:Vc) (l:List Row) (room hits misses:Int):Prop where
 rows:∀p∈l,p.2=fG V (cA p.1)
 rm:(l.length:Int)<=room
 ms:(l.length:Int)<=misses
 hz:0<=hits
 mz:0<=misses
 zr:room=0->hits=0/\l= []
theorem aBN (l:List Row) (k:ByteArray) (A:List Int):(E6 l k A).length<=l.length+1:=by
 unfold E6;rw[List.length_append];have:=List.length_filter_le (fun p:Row=>decide (p.1≠k)) l;simp only[List.length_singleton];omega
theorem jT {l:List Row} {k:ByteArray} {A:List Int} {p:Row} (h:p∈E6 l k A):p∈l\/p=(k,A):=by
 unfold E6 at h;rcases List.mem_append.1 h with h1 | h1
 ·exact .inl (List.mem_filter.1 h1).1
 ·exact .inr (List.mem_singleton.1 h1)
theorem aBO {l:List Row} {k:ByteArray} {A:List Int} (h:(k,A)∈l):(E6 l k A).length<=l.length:=by
 unfold E6;rw[List.length_append];have:(l.filter (fun p:Row=>decide (p.1≠k))).length<l.length:=by
  rw[List.length_filter_lt_length_iff_exists];exact⟨(k,A),h,by simp⟩
 simp only[List.length_singleton];omega
theorem oE.hit {V:Vc} {l:List Row} {room hits misses:Int} {k:ByteArray} {A:List Int} (h:oE V l room hits misses) (hm:(k,A)∈l):oE V (E6 l k A) room (hits+1) misses:=by
 have hl:=aBO hm;refine⟨fun p hp=> ?_,by have:=h.rm;omega,by have:=h.ms;omega,by have:=h.hz;omega,h.mz,fun e=> ?_⟩
 ·rcases jT hp with h1 | h1
  ·exact h.rows p h1
  ·subst h1;exact h.rows _ hm
 ·obtain⟨_,e2⟩:=h.zr e;rw[e2]at hm;cases hm
theorem oE.put {V:Vc} {l:List Row} {room hits misses:Int} {k:ByteArray} (h:oE V l room hits misses) (h0:0<room):oE V (jV l room k (fG V (cA k))) room hits (misses+1):=by
 have hl:=aBN l k (fG V (cA k));have hr:=h.rm;have hm:=h.ms;have key:∀p∈jV l room k (fG V (cA k)),p∈E6 l k (fG V (cA k)):=fun p hp=>by
  unfold jV at hp;split at hp
  ·exact List.mem_of_mem_drop hp
  ·exact hp
 refine⟨fun p hp=> ?_,?_,?_,h.hz,by have:=h.mz;omega,fun e=>by omega⟩
 ·rcases jT (key p hp)with h1 | h1
  ·exact h.rows p h1
  ·subst h1;rfl
 ·unfold jV;split
  ·rw[List.length_drop];omega
  ·omega
 ·unfold jV;split
  ·rw[List.length_drop];omega
  ·omega
theorem oE.missed {V:Vc} {l:List Row} {room hits misses:Int} (h:oE V l room hits misses):oE V l room hits (misses+1):=
 ⟨h.rows,h.rm,by have:=h.ms;omega,h.hz,by have:=h.mz;omega,h.zr⟩
structure Cch (cb mb:Nat) (no no':Option Addr) (w w':World):Prop where
 os:w'.os=w.os
 tape:w'.tape=w.tape
 output:w'.output=w.output
 size:w.heap.size<=w'.heap.size
 block:∀q,q<w.heap.size->¬Ft cb mb no q->w'.heap[q]?=w.heap[q]?
 new:∀q,q<w.heap.size->¬Ft cb mb no q->¬Ft cb mb no' q
theorem Cch.keeps {cb mb:Nat} {no:Option Addr} {w w':World} (h:iA (Ft cb mb no) w w'):Cch cb mb no no w w':=⟨h.os,h.tape,h.output,h.size,h.block,fun _ _ h=>h⟩
theorem Cch.below {cb mb:Nat} {no:Option Addr} {w w':World} (h:Below w.heap.size w w'):Cch cb mb no no w w':=Cch.keeps (iA.of_below h)
theorem Cch.trans {cb mb:Nat} {no n1 n2:Option Addr} {w w1 w2:World} (h:Cch cb mb no n1 w w1) (k:Cch cb mb n1 n2 w1 w2):Cch cb mb no n2 w w2:=
 ⟨k.os.trans h.os,k.tape.trans h.tape,k.output.trans h.output,Nat.le_trans h.size k.size,fun q hq hn=>(k.block q (Nat.lt_of_lt_of_le hq h.size) (h.new q hq hn)).trans (h.block q hq hn),fun q hq hn=>k.new q (Nat.lt_of_lt_of_le hq h.size) (h.new q hq hn)⟩
theorem Cch.put {cb mb g:Nat} {no:Option Addr} {w w':World} (h:iA (Ft cb mb no) w w') (ha:Go.Proofs.YtimkkkdabmhedaaGreatDoor.At no g w.heap.size):Cch cb mb no (some ⟨g,0,none⟩) w w':=
 ⟨h.os,h.tape,h.output,h.size,h.block,fun q hq hn hf=>by
  rcases hf with h1 | h1 | h1
  ·exact hn (.inl h1)
  ·exact hn (.inr (.inl h1))
  ·obtain rfl:g=q:=by simpa using h1
   rcases ha with h2 | h2
   ·exact hn (.inr (.inr h2))
   ·omega⟩
theorem vK.cod {w:World} {base g:Nat} {V:Vc} {N:List ByteArray} {kind:Int} {T:List Rg} {room:Int} {cb mb:Nat} {no:Option Addr} {l:List Row} {hits misses:Int} (h:vK w base g V N kind T room cb mb no l hits misses):qJ w base g V N kind T cb:=by
 obtain⟨⟨S,h1,_⟩,_⟩:=h;exact h1.self
theorem nV {V:Vc} {N:List ByteArray} {kind:Int} {T:List Rg} {base g cb b2 b5:Nat} {A:List Int} {bo:Option Addr} {n c:Nat} (w:World) (hC:qJ w base g V N kind T cb) (hM:May V) (hS:SlB w bo n c A) (hby:∀y∈A,0<=y/\y<256) (hn0:0<n) (hn:n<=100000)
  (h2:w.cell? ⟨b2,0,none⟩=some (.pointer (some ⟨g,0,none⟩))) (h5:w.cell? ⟨b5,0,none⟩=some (.slice bo n c)):
  Calls Tryz.prog 90 #[.pointer (some ⟨b2,0,none⟩), .pointer (some ⟨b5,0,none⟩)] w fun e w'=>∃v,e= .returned v/\Own w' w.heap.size v (fG V A)/\Below w.heap.size w w':=by
 obtain⟨lo,ta,tc,sa,sc,na,nc,ma,mc,oa,oc,eg,hx,_,_,_,_,_,hec⟩:=hC;obtain⟨c0,c1,c2,c3,c4,c5,c6,c7,c8,cf⟩:=dO hx;have HE:Hid (∀W,Ge w W->Calls Tryz.prog 91 #[.pointer (some ⟨eg,0,none⟩), .slice bo n c] W fun e w'=>∃v,e= .returned v/\Own w' w.heap.size v (fG V A)/\Below w.heap.size w w'):=hW_ (fun W hW=>(rY W (hec.keep (fun q _ hq=>hW.block q hq) hW.size) hM (Sl.below hS hW) hby hn0 hn).mono (by
  rintro e w' ⟨v,rfl,h1,h2⟩;exact⟨v,rfl,h1.mono hW.size,hW.below h2⟩))
 clear hx hec hS hby hM;go_enter Tryz.func90,Tryz.ntmps90;go_wp2_with (fail)
 go_region_with (go_at_call 91;refine(HE.out _ (by exact bA (Below.refl _ _) _)).mono ?_;rintro e w2 ⟨v,rfl,ho,hb2⟩;have HO:=hW_ ho;have HB2:=hW_ hb2;clear ho hb2)
 all_goals(
  go_wp2_with (fail);go_ret;exact⟨v,rfl,HO.out,HB2.out⟩)
theorem bY {s:ByteArray} {i:Nat} (h:i<s.size):ix (cA s) i=(s[i].toNat:Int):=by
 have:=dL h;simp[ix,List.getD,this]
theorem E0 {s:ByteArray} {i:Nat} (h:i<s.size):(cA s).drop i=(s[i].toNat:Int)::(cA s).drop (i+1):=by
 have hl:i<(cA s).length:=by rw[nA];exact h
 rw[List.drop_eq_getElem_cons hl];congr 1;have:=dL h;rw[List.getElem?_eq_getElem hl]at this;exact Option.some.inj this
theorem iX (c:Int) (w:World) (h0:0<=c):Calls Tryz.prog 99 #[.int .u8 c] w fun e w'=>e= .returned (.int .i64 ((B2 c:Nat):Int))/\w'=w:=by
 by_cases r128:c<128
 ·have l128:decide (c<128)=true:=by simp;omega
  have l224:decide (c<224)=true:=by simp;omega
  have l240:decide (c<240)=true:=by simp;omega
  have l248:decide (c<248)=true:=by simp;omega
  have g192:decide (192<=c)=false:=by simp;omega
  have g224:decide (224<=c)=false:=by simp;omega
  have g240:decide (240<=c)=false:=by simp;omega
  have hF:B2 c=1:=by unfold B2;repeat' (first | rw[if_pos (by omega)] | rw[if_neg (by omega)])
  have HF:=hW_ hF;clear hF;have c1:c<128:=by omega
  go_enter Tryz.func99,Tryz.ntmps99;go_wp2_with (fail);go_ret;exact⟨by rw[HF.out];rfl,rfl⟩
 by_cases r192:c<192
 ·have l128:decide (c<128)=false:=by simp;omega
  have l224:decide (c<224)=true:=by simp;omega
  have l240:decide (c<240)=true:=by simp;omega
  have l248:decide (c<248)=true:=by simp;omega
  have g192:decide (192<=c)=false:=by simp;omega
  have g224:decide (224<=c)=false:=by simp;omega
  have g240:decide (240<=c)=false:=by simp;omega
  have hF:B2 c=0:=by unfold B2;repeat' (first | rw[if_pos (by omega)] | rw[if_neg (by omega)])
  have HF:=hW_ hF;clear hF;have c1:¬c<128:=by omega
  go_enter Tryz.func99,Tryz.ntmps99;go_wp2_with (fail);go_ret;exact⟨by rw[HF.out];rfl,rfl⟩
 by_cases r224:c<224
 ·have l128:decide (c<128)=false:=by simp;omega
  have l224:decide (c<224)=true:=by simp;omega
  have l240:decide (c<240)=true:=by simp;omega
  have l248:decide (c<248)=true:=by simp;omega
  have g192:decide (192<=c)=true:=by simp;omega
  have g224:decide (224<=c)=false:=by simp;omega
  have g240:decide (240<=c)=false:=by simp;omega
  have hF:B2 c=2:=by unfold B2;repeat' (first | rw[if_pos (by omega)] | rw[if_neg (by omega)])
  have HF:=hW_ hF;clear hF;have c1:¬c<128:=by omega
  go_enter Tryz.func99,Tryz.ntmps99;go_wp2_with (fail);go_ret;exact⟨by rw[HF.out];rfl,rfl⟩
 by_cases r240:c<240
 ·have l128:decide (c<128)=false:=by simp;omega
  have l224:decide (c<224)=false:=by simp;omega
  have l240:decide (c<240)=true:=by simp;omega
  have l248:decide (c<248)=true:=by simp;omega
  have g192:decide (192<=c)=true:=by simp;omega
  have g224:decide (224<=c)=true:=by simp;omega
  have g240:decide (240<=c)=false:=by simp;omega
  have hF:B2 c=3:=by unfold B2;repeat' (first | rw[if_pos (by omega)] | rw[if_neg (by omega)])
  have HF:=hW_ hF;clear hF;have c1:¬c<128:=by omega
  go_enter Tryz.func99,Tryz.ntmps99;go_wp2_with (fail);go_ret;exact⟨by rw[HF.out];rfl,rfl⟩
 by_cases r248:c<248
 ·have l128:decide (c<128)=false:=by simp;omega
  have l224:decide (c<224)=false:=by simp;omega
  have l240:decide (c<240)=false:=by simp;omega
  have l248:decide (c<248)=true:=by simp;omega
  have g192:decide (192<=c)=true:=by simp;omega
  have g224:decide (224<=c)=true:=by simp;omega
  have g240:decide (240<=c)=true:=by simp;omega
  have hF:B2 c=4:=by unfold B2;repeat' (first | rw[if_pos (by omega)] | rw[if_neg (by omega)])
  have HF:=hW_ hF;clear hF;have c1:¬c<128:=by omega
  go_enter Tryz.func99,Tryz.ntmps99;go_wp2_with (fail);go_ret;exact⟨by rw[HF.out];rfl,rfl⟩
 have l128:decide (c<128)=false:=by simp;omega
 have l224:decide (c<224)=false:=by simp;omega
 have l240:decide (c<240)=false:=by simp;omega
 have l248:decide (c<248)=false:=by simp;omega
 have g192:decide (192<=c)=true:=by simp;omega
 have g224:decide (224<=c)=true:=by simp;omega
 have g240:decide (240<=c)=true:=by simp;omega
 have hF:B2 c=0:=by unfold B2;repeat' (first | rw[if_pos (by omega)] | rw[if_neg (by omega)])
 have HF:=hW_ hF;clear hF;have c1:¬c<128:=by omega
 go_enter Tryz.func99,Tryz.ntmps99;go_wp2_with (fail);go_ret;exact⟨by rw[HF.out];rfl,rfl⟩
def bd (i:Nat):Int:=if i<=1 then 300 else if i=2 then 20000 else if i=3 then 1300000 else 90000000
theorem aBI (i:Nat):0<=bd i/\bd i<=90000000:=by unfold bd;split<;>(try split)<;>(try split)<;>omega
theorem sQ {i:Nat} (h:i<4) (h1:1<=i):64*bd i+64<=bd (i+1):=by
 have:i=1\/i=2\/i=3:=by omega
 rcases this with rfl | rfl | rfl<;>decide
def eO (n:Nat):Int:=if n=4 then 240 else if n=3 then 224 else 192
theorem bZ {s:ByteArray} {n:Nat} (h0:0<s.size) (hn:n≠1):jC (cA s) n=kB (n-1) ((s[0].toNat:Int)-eO n) ((cA s).drop 1):=by
 have e:cA s=(s[0].toNat:Int)::(cA s).drop 1:=by
  have:=E0 h0
  rwa [List.drop_zero]at this
 rw[e];unfold jC eO;simp only;rw[if_neg hn];rfl
theorem mU {s:ByteArray} (h0:0<s.size):jC (cA s) 1=(s[0].toNat:Int):=by
 have e:cA s=(s[0].toNat:Int)::(cA s).drop 1:=by
  have:=E0 h0
  rwa [List.drop_zero]at this
 rw[e];rfl
theorem wJ (s:ByteArray) (n:Nat) (w:World) (h1:1<=n) (h4:n<=4) (hs:n<=s.size):Calls Tryz.prog 132 #[.string s, .int .i64 n] w fun e w'=>e= .returned (.int .i64 (jC (cA s) n))/\w'=w:=by
 have h0:0<s.size:=by omega
 obtain⟨c,hc⟩:∃c:Int,(s[0].toNat:Int)=c:=⟨_,rfl⟩;have hc8:=s[0].toNat_lt;have hcw:IntKind.i64.wrap c=c:=by rw[IntKind.wrap_i64];omega
 have hcw2:wrap64 c=c:=by unfold wrap64;omega
 by_cases n1:n=1
 ·subst n1;have HF:Hid (jC (cA s) 1=c):=hW_ (by rw[mU h0,hc]);go_enter Tryz.func132,Tryz.ntmps132;go_wp2_with (fail);go_ret;exact⟨by rw[HF.out];rfl,rfl⟩
 have hbe:=bZ h0 n1;rw[hc]at hbe;obtain⟨R,hR⟩:∃R,jC (cA s) n=R:=⟨_,rfl⟩;rw[hR]at hbe |-;have hw1:IntKind.i64.wrap (c-192)=c-192:=by rw[IntKind.wrap_i64];omega
 have hw2:IntKind.i64.wrap (c-224)=c-224:=by rw[IntKind.wrap_i64];omega
 have hw3:IntKind.i64.wrap (c-240)=c-240:=by rw[IntKind.wrap_i64];omega
 have HBE:=hW_ hbe.symm;have HP:Hid (-bd 1<=c-eO n/\c-eO n<=bd 1):=hW_ (by have e:bd 1=300:=rfl;rw[e];unfold eO;split<;>(try split)<;>omega);clear hbe hR;rcases(show n=2\/n=3\/n=4 by omega)with rfl | rfl | rfl
 ·go_enter Tryz.func132,Tryz.ntmps132;go_wp2_with (fail);go_loopw [6,7] (fun p i wr=>∃(k:Nat) (q:Int),1<=k/\k<=2/\i= .int .i64 k/\p= .int .i64 q/\Hid (kB (2-k) q ((cA s).drop k)=R)/\Hid (-bd k<=q/\q<=bd k)/\wr=w) (fun _ i _=>2-(intOf i).toNat)
  case atStart=>exact⟨1,c-eO 2,Nat.le_refl _,by omega,rfl,rfl,HBE,HP,rfl⟩
  case round=>
   obtain⟨k,q,hk1,hk2,rfl,rfl,HQ,HD,rfl⟩:=hrel
   by_cases hlt:k<2
   ·have hks:k<s.size:=by omega
    have gk:(k:Int)<2:=by omega
    obtain⟨x,hx⟩:∃x:Int,(s[k].toNat:Int)=x:=⟨_,rfl⟩;have hx8:=s[k].toNat_lt;have hd:=E0 hks;rw[hx]at hd;obtain⟨j,hj⟩:∃j,2-k=j+1:=⟨2-k-1,by omega⟩;have hq:=HQ.out;rw[hj,hd]at hq;simp only[kB]at hq;have hbn:=sQ (show k<4 by omega) hk1;have hbl:=aBI k;have hdd:=HD.out;have m1:IntKind.i64.wrap (64*q)=64*q:=by rw[IntKind.wrap_i64];omega
    have m2:IntKind.i64.wrap (64*q+x)=64*q+x:=by rw[IntKind.wrap_i64];omega
    have m3:IntKind.i64.wrap (64*q+x-128)=64*q+x-128:=by rw[IntKind.wrap_i64];omega
    have hxw:IntKind.i64.wrap x=x:=by rw[IntKind.wrap_i64];omega
    have hxw2:wrap64 x=x:=by unfold wrap64;omega
    by_cases x1:x<128
    ·have g1:decide (x<128)=true:=by simpa using x1
     rw[if_pos (.inl x1)]at hq;have HE:=hW_ hq;clear hq hd hbn hbl hdd;go_wp2_with (fail);refine bodyPost_ret (results_tmp rfl _ _ _) rfl ⟨by rw[<-HE.out];rfl,rfl⟩
    have g1:decide (x<128)=false:=by simpa using x1
    by_cases x2:191<x
    ·have g2:decide (191<x)=true:=by simpa using x2
     rw[if_pos (.inr x2)]at hq;have HE:=hW_ hq;clear hq hd hbn hbl hdd;go_wp2_with (fail);refine bodyPost_ret (results_tmp rfl _ _ _) rfl ⟨by rw[<-HE.out];rfl,rfl⟩
    have g2:decide (191<x)=false:=by simpa using x2
    rw[if_neg (by omega)]at hq;have HE:Hid (kB (2-(k+1)) (64*q+x-128) ((cA s).drop (k+1))=R):=hW_ (by rw[show 2-(k+1)=j by omega];exact hq);have HD2:Hid (-bd (k+1)<=64*q+x-128/\64*q+x-128<=bd (k+1)):=hW_ (by omega);clear hq hd hbn hbl hdd x1 x2 hj;go_wp2_with (fail);go_roundw
    case rel=>exact⟨k+1,64*q+x-128,by omega,by omega,by go_num,rfl,HE,HD2,by first | rfl | trivial⟩
    case measure=>simp[intOf];omega
   ·obtain rfl:k=2:=by omega
    have HE:Hid (q=R):=hW_ HQ.out;go_wp2_with (fail);go_ret;exact⟨by first | (rw[HE.out];rfl) | rfl,rfl⟩
 ·go_enter Tryz.func132,Tryz.ntmps132;go_wp2_with (fail);go_loopw [6,7] (fun p i wr=>∃(k:Nat) (q:Int),1<=k/\k<=3/\i= .int .i64 k/\p= .int .i64 q/\Hid (kB (3-k) q ((cA s).drop k)=R)/\Hid (-bd k<=q/\q<=bd k)/\wr=w) (fun _ i _=>3-(intOf i).toNat)
  case atStart=>exact⟨1,c-eO 3,Nat.le_refl _,by omega,rfl,rfl,HBE,HP,rfl⟩
  case round=>
   obtain⟨k,q,hk1,hk2,rfl,rfl,HQ,HD,rfl⟩:=hrel
   by_cases hlt:k<3
   ·have hks:k<s.size:=by omega
    have gk:(k:Int)<3:=by omega
    obtain⟨x,hx⟩:∃x:Int,(s[k].toNat:Int)=x:=⟨_,rfl⟩;have hx8:=s[k].toNat_lt;have hd:=E0 hks;rw[hx]at hd;obtain⟨j,hj⟩:∃j,3-k=j+1:=⟨3-k-1,by omega⟩;have hq:=HQ.out;rw[hj,hd]at hq;simp only[kB]at hq;have hbn:=sQ (show k<4 by omega) hk1;have hbl:=aBI k;have hdd:=HD.out;have m1:IntKind.i64.wrap (64*q)=64*q:=by rw[IntKind.wrap_i64];omega
    have m2:IntKind.i64.wrap (64*q+x)=64*q+x:=by rw[IntKind.wrap_i64];omega
    have m3:IntKind.i64.wrap (64*q+x-128)=64*q+x-128:=by rw[IntKind.wrap_i64];omega
    have hxw:IntKind.i64.wrap x=x:=by rw[IntKind.wrap_i64];omega
    have hxw2:wrap64 x=x:=by unfold wrap64;omega
    by_cases x1:x<128
    ·have g1:decide (x<128)=true:=by simpa using x1
     rw[if_pos (.inl x1)]at hq;have HE:=hW_ hq;clear hq hd hbn hbl hdd;go_wp2_with (fail);refine bodyPost_ret (results_tmp rfl _ _ _) rfl ⟨by rw[<-HE.out];rfl,rfl⟩
    have g1:decide (x<128)=false:=by simpa using x1
    by_cases x2:191<x
    ·have g2:decide (191<x)=true:=by simpa using x2
     rw[if_pos (.inr x2)]at hq;have HE:=hW_ hq;clear hq hd hbn hbl hdd;go_wp2_with (fail);refine bodyPost_ret (results_tmp rfl _ _ _) rfl ⟨by rw[<-HE.out];rfl,rfl⟩
    have g2:decide (191<x)=false:=by simpa using x2
    rw[if_neg (by omega)]at hq;have HE:Hid (kB (3-(k+1)) (64*q+x-128) ((cA s).drop (k+1))=R):=hW_ (by rw[show 3-(k+1)=j by omega];exact hq);have HD2:Hid (-bd (k+1)<=64*q+x-128/\64*q+x-128<=bd (k+1)):=hW_ (by omega);clear hq hd hbn hbl hdd x1 x2 hj;go_wp2_with (fail);go_roundw
    case rel=>exact⟨k+1,64*q+x-128,by omega,by omega,by go_num,rfl,HE,HD2,by first | rfl | trivial⟩
    case measure=>simp[intOf];omega
   ·obtain rfl:k=3:=by omega
    have HE:Hid (q=R):=hW_ HQ.out;go_wp2_with (fail);go_ret;exact⟨by first | (rw[HE.out];rfl) | rfl,rfl⟩
 ·go_enter Tryz.func132,Tryz.ntmps132;go_wp2_with (fail);go_loopw [6,7] (fun p i wr=>∃(k:Nat) (q:Int),1<=k/\k<=4/\i= .int .i64 k/\p= .int .i64 q/\Hid (kB (4-k) q ((cA s).drop k)=R)/\Hid (-bd k<=q/\q<=bd k)/\wr=w) (fun _ i _=>4-(intOf i).toNat)
  case atStart=>exact⟨1,c-eO 4,Nat.le_refl _,by omega,rfl,rfl,HBE,HP,rfl⟩
  case round=>
   obtain⟨k,q,hk1,hk2,rfl,rfl,HQ,HD,rfl⟩:=hrel
   by_cases hlt:k<4
   ·have hks:k<s.size:=by omega
    have gk:(k:Int)<4:=by omega
    obtain⟨x,hx⟩:∃x:Int,(s[k].toNat:Int)=x:=⟨_,rfl⟩;have hx8:=s[k].toNat_lt;have hd:=E0 hks;rw[hx]at hd;obtain⟨j,hj⟩:∃j,4-k=j+1:=⟨4-k-1,by omega⟩;have hq:=HQ.out;rw[hj,hd]at hq;simp only[kB]at hq;have hbn:=sQ (show k<4 by omega) hk1;have hbl:=aBI k;have hdd:=HD.out;have m1:IntKind.i64.wrap (64*q)=64*q:=by rw[IntKind.wrap_i64];omega
    have m2:IntKind.i64.wrap (64*q+x)=64*q+x:=by rw[IntKind.wrap_i64];omega
    have m3:IntKind.i64.wrap (64*q+x-128)=64*q+x-128:=by rw[IntKind.wrap_i64];omega
    have hxw:IntKind.i64.wrap x=x:=by rw[IntKind.wrap_i64];omega
    have hxw2:wrap64 x=x:=by unfold wrap64;omega
    by_cases x1:x<128
    ·have g1:decide (x<128)=true:=by simpa using x1
     rw[if_pos (.inl x1)]at hq;have HE:=hW_ hq;clear hq hd hbn hbl hdd;go_wp2_with (fail);refine bodyPost_ret (results_tmp rfl _ _ _) rfl ⟨by rw[<-HE.out];rfl,rfl⟩
    have g1:decide (x<128)=false:=by simpa using x1
    by_cases x2:191<x
    ·have g2:decide (191<x)=true:=by simpa using x2
     rw[if_pos (.inr x2)]at hq;have HE:=hW_ hq;clear hq hd hbn hbl hdd;go_wp2_with (fail);refine bodyPost_ret (results_tmp rfl _ _ _) rfl ⟨by rw[<-HE.out];rfl,rfl⟩
    have g2:decide (191<x)=false:=by simpa using x2
    rw[if_neg (by omega)]at hq;have HE:Hid (kB (4-(k+1)) (64*q+x-128) ((cA s).drop (k+1))=R):=hW_ (by rw[show 4-(k+1)=j by omega];exact hq);have HD2:Hid (-bd (k+1)<=64*q+x-128/\64*q+x-128<=bd (k+1)):=hW_ (by omega);clear hq hd hbn hbl hdd x1 x2 hj;go_wp2_with (fail);go_roundw
    case rel=>exact⟨k+1,64*q+x-128,by omega,by omega,by go_num,rfl,HE,HD2,by first | rfl | trivial⟩
    case measure=>simp[intOf];omega
   ·obtain rfl:k=4:=by omega
    have HE:Hid (q=R):=hW_ HQ.out;go_wp2_with (fail);go_ret;exact⟨by first | (rw[HE.out];rfl) | rfl,rfl⟩
def encR:Option (List Int)->Value
 | none=> .tuple #[.string ByteArray.empty, .bool false]
 | some L=> .tuple #[.string (rI L), .bool true]
theorem Sl.lit8 (w:World) (vs:List Value) (cs:Array Value) (hcs:cs=vs.toArray) (n:Nat) (hn:n=vs.length) (hm:n<=100) (t:TypeId):Sl (w.alloc (.cells cs t)) (some ⟨w.heap.size,0, .none⟩) n n vs:=by
 subst hn hcs;refine⟨rfl,Nat.le_refl _,by unfold maxLen;omega,fun h=>(by cases h),fun i u hu=>⟨_,_,rfl,?_⟩⟩;simp[hu]
theorem jQ (w:World) (vs:List Int) (n:Nat) (hn:n=vs.length) (hm:n<=100) (cs:Array Value) (hcs:cs=(vs.map (.int .u8)).toArray) (t:TypeId):SlB (w.alloc (.cells cs t)) (some ⟨w.heap.size,0, .none⟩) n n vs:=
 Sl.lit8 w _ _ hcs _ (by simpa using hn) hm t
theorem vS (p:Int) (w:World) (hp: -100000000<=p/\p<=100000000):Calls Tryz.prog 133 #[.int .i64 p] w fun e w'=>e= .returned (encR (gK p))/\Below w.heap.size w w':=by
 by_cases r1:p<0
 ·have g1:decide (p<0)=true:=by simpa using r1
  have HE:=hW_ (nC (p:=p) (.inl r1));go_enter Tryz.func133,Tryz.ntmps133;go_wp2_with (fail);refine bodyPost_ret (v:= .tuple #[.string ByteArray.empty, .bool false]) ?_ rfl ⟨by rw[HE.out];rfl,Below.refl _ _⟩
  simp[results,Tryz.results133,go_sem]
  try rfl
 have g1:decide (p<0)=false:=by simpa using r1
 by_cases r2:1114111<p
 ·have g2:decide (1114111<p)=true:=by simpa using r2
  have HE:=hW_ (nC (p:=p) (.inr (.inl r2)));go_enter Tryz.func133,Tryz.ntmps133;go_wp2_with (fail);refine bodyPost_ret (v:= .tuple #[.string ByteArray.empty, .bool false]) ?_ rfl ⟨by rw[HE.out];rfl,Below.refl _ _⟩
  simp[results,Tryz.results133,go_sem]
  try rfl
 have g2:decide (1114111<p)=false:=by simpa using r2
 by_cases r3:55296<=p/\p<=57343
 ·have g3:decide (55296<=p)=true:=by simpa using r3.1
  have g4:decide (p<=57343)=true:=by simpa using r3.2
  have HE:=hW_ (nC (p:=p) (.inr (.inr r3)));go_enter Tryz.func133,Tryz.ntmps133;go_wp2_with (fail);refine bodyPost_ret (v:= .tuple #[.string ByteArray.empty, .bool false]) ?_ rfl ⟨by rw[HE.out];rfl,Below.refl _ _⟩
  simp[results,Tryz.results133,go_sem]
  try rfl
 by_cases s1:p<128
 ·have HE:=hW_ (sY (p:=p) ⟨by omega,by omega⟩);have hbb:∀x∈([p]:List Int),(0:Int)<=x/\x<256:=by
   intro x hx;simp only[List.mem_cons,List.not_mem_nil,or_false]at hx;omega
  have u0:IntKind.u8.wrap (p)=p:=by rw[IntKind.wrap_u8];omega
  have d1:p.tdiv 64=p / 64:=Int.tdiv_eq_ediv_of_nonneg (by omega);have d2:p.tdiv 4096=p / 4096:=Int.tdiv_eq_ediv_of_nonneg (by omega);have d3:p.tdiv 262144=p / 262144:=Int.tdiv_eq_ediv_of_nonneg (by omega);have e1:p.tmod 64=p % 64:=Int.tmod_eq_emod_of_nonneg (by omega);have e2:(p / 64).tmod 64=p / 64 % 64:=Int.tmod_eq_emod_of_nonneg (by omega);have e3:(p / 4096).tmod 64=p / 4096 % 64:=Int.tmod_eq_emod_of_nonneg (by omega);have hcv:=yF (jQ w [p] 1 rfl (by omega) _ rfl 5) (by omega);simp only[List.map_cons,List.map_nil]at hcv;have g3:(decide (55296<=p) && decide (p<=57343))=false:=by simp;omega
  clear hbb;go_enter Tryz.func133,Tryz.ntmps133;go_wp2_with (fail)
  all_goals(
   refine bodyPost_ret (v:= .tuple #[.string (rI [p]), .bool true]) ?_ rfl ⟨by rw[HE.out];rfl,aA w _⟩
   simp[results,Tryz.results133,go_sem])
 by_cases s2:p<2048
 ·have HE:=hW_ (aBy (p:=p) ⟨by omega,by omega⟩);have hbb:∀x∈([192+p / 64,128+p % 64]:List Int),(0:Int)<=x/\x<256:=by
   intro x hx;simp only[List.mem_cons,List.not_mem_nil,or_false]at hx;omega
  have u0:IntKind.u8.wrap (192+p / 64)=192+p / 64:=by rw[IntKind.wrap_u8];omega
  have u1:IntKind.u8.wrap (128+p % 64)=128+p % 64:=by rw[IntKind.wrap_u8];omega
  have d1:p.tdiv 64=p / 64:=Int.tdiv_eq_ediv_of_nonneg (by omega);have d2:p.tdiv 4096=p / 4096:=Int.tdiv_eq_ediv_of_nonneg (by omega);have d3:p.tdiv 262144=p / 262144:=Int.tdiv_eq_ediv_of_nonneg (by omega);have e1:p.tmod 64=p % 64:=Int.tmod_eq_emod_of_nonneg (by omega);have e2:(p / 64).tmod 64=p / 64 % 64:=Int.tmod_eq_emod_of_nonneg (by omega);have e3:(p / 4096).tmod 64=p / 4096 % 64:=Int.tmod_eq_emod_of_nonneg (by omega);have hcv:=yF (jQ w [192+p / 64,128+p % 64] 2 rfl (by omega) _ rfl 5) (by omega);simp only[List.map_cons,List.map_nil]at hcv;have g3:(decide (55296<=p) && decide (p<=57343))=false:=by simp;omega
  clear hbb;go_enter Tryz.func133,Tryz.ntmps133;go_wp2_with (fail)
  all_goals(
   refine bodyPost_ret (v:= .tuple #[.string (rI [192+p / 64,128+p % 64]), .bool true]) ?_ rfl ⟨by rw[HE.out];rfl,aA w _⟩
   simp[results,Tryz.results133,go_sem])
 by_cases s3:p<65536
 ·have HE:=hW_ (encU3 (p:=p) ⟨by omega,by omega⟩ r3);have hbb:∀x∈([224+p / 4096,128+p / 64 % 64,128+p % 64]:List Int),(0:Int)<=x/\x<256:=by
   intro x hx;simp only[List.mem_cons,List.not_mem_nil,or_false]at hx;omega
  have u0:IntKind.u8.wrap (224+p / 4096)=224+p / 4096:=by rw[IntKind.wrap_u8];omega
  have u1:IntKind.u8.wrap (128+p / 64 % 64)=128+p / 64 % 64:=by rw[IntKind.wrap_u8];omega
  have u2:IntKind.u8.wrap (128+p % 64)=128+p % 64:=by rw[IntKind.wrap_u8];omega
  have d1:p.tdiv 64=p / 64:=Int.tdiv_eq_ediv_of_nonneg (by omega);have d2:p.tdiv 4096=p / 4096:=Int.tdiv_eq_ediv_of_nonneg (by omega);have d3:p.tdiv 262144=p / 262144:=Int.tdiv_eq_ediv_of_nonneg (by omega);have e1:p.tmod 64=p % 64:=Int.tmod_eq_emod_of_nonneg (by omega);have e2:(p / 64).tmod 64=p / 64 % 64:=Int.tmod_eq_emod_of_nonneg (by omega);have e3:(p / 4096).tmod 64=p / 4096 % 64:=Int.tmod_eq_emod_of_nonneg (by omega);have hcv:=yF (jQ w [224+p / 4096,128+p / 64 % 64,128+p % 64] 3 rfl (by omega) _ rfl 5) (by omega);simp only[List.map_cons,List.map_nil]at hcv;have g3:(decide (55296<=p) && decide (p<=57343))=false:=by simp;omega
  clear hbb;go_enter Tryz.func133,Tryz.ntmps133;go_wp2_with (fail)
  all_goals(
   refine bodyPost_ret (v:= .tuple #[.string (rI [224+p / 4096,128+p / 64 % 64,128+p % 64]), .bool true]) ?_ rfl ⟨by rw[HE.out];rfl,aA w _⟩
   simp[results,Tryz.results133,go_sem])
 have HE:=hW_ (encU4 (p:=p) ⟨by omega,by omega⟩);have hbb:∀x∈([240+p / 262144,128+p / 4096 % 64,128+p / 64 % 64,128+p % 64]:List Int),(0:Int)<=x/\x<256:=by
  intro x hx;simp only[List.mem_cons,List.not_mem_nil,or_false]at hx;omega
 have u0:IntKind.u8.wrap (240+p / 262144)=240+p / 262144:=by rw[IntKind.wrap_u8];omega
 have u1:IntKind.u8.wrap (128+p / 4096 % 64)=128+p / 4096 % 64:=by rw[IntKind.wrap_u8];omega
 have u2:IntKind.u8.wrap (128+p / 64 % 64)=128+p / 64 % 64:=by rw[IntKind.wrap_u8];omega
 have u3:IntKind.u8.wrap (128+p % 64)=128+p % 64:=by rw[IntKind.wrap_u8];omega
 have d1:p.tdiv 64=p / 64:=Int.tdiv_eq_ediv_of_nonneg (by omega);have d2:p.tdiv 4096=p / 4096:=Int.tdiv_eq_ediv_of_nonneg (by omega);have d3:p.tdiv 262144=p / 262144:=Int.tdiv_eq_ediv_of_nonneg (by omega);have e1:p.tmod 64=p % 64:=Int.tmod_eq_emod_of_nonneg (by omega);have e2:(p / 64).tmod 64=p / 64 % 64:=Int.tmod_eq_emod_of_nonneg (by omega);have e3:(p / 4096).tmod 64=p / 4096 % 64:=Int.tmod_eq_emod_of_nonneg (by omega);have hcv:=yF (jQ w [240+p / 262144,128+p / 4096 % 64,128+p / 64 % 64,128+p % 64] 4 rfl (by omega) _ rfl 5) (by omega);simp only[List.map_cons,List.map_nil]at hcv;have g3:(decide (55296<=p) && decide (p<=57343))=false:=by simp;omega
 clear hbb;go_enter Tryz.func133,Tryz.ntmps133;go_wp2_with (fail)
 all_goals(
  refine bodyPost_ret (v:= .tuple #[.string (rI [240+p / 262144,128+p / 4096 % 64,128+p / 64 % 64,128+p % 64]), .bool true]) ?_ rfl ⟨by rw[HE.out];rfl,aA w _⟩
  simp[results,Tryz.results133,go_sem])
theorem xP (s:ByteArray) (n:Nat):cA (s.extract 0 n)=(cA s).take n:=by
 unfold cA;rw[<-List.map_take];congr 1;simp[ByteArray.data_extract]
theorem yP (s:ByteArray) (n:Nat):cA (s.extract n s.size)=(cA s).drop n:=by
 unfold cA;rw[<-List.map_drop];congr 1;simp only[ByteArray.data_extract,Array.toList_extract,List.extract_eq_take_drop];exact List.take_of_length_le (by simp)
theorem M2 (s t:ByteArray):cA (s++t)=cA s++cA t:=by unfold cA;simp
theorem aAB {p:Int} {L:List Int} (h:gK p=some L):∀x∈L,0<=x/\x<256:=by
 unfold gK at h;intro x hx
 repeat' split at h
 all_goals(first | cases h | skip)
 all_goals(simp only[List.mem_cons,List.not_mem_nil,or_false]at hx;omega)
theorem nK {s:ByteArray} {n:Nat} (h1:1<=n) (h4:n<=4) (hs:n<=s.size): -100000000<=jC (cA s) n/\jC (cA s) n<=100000000:=by
 have h0:0<s.size:=by omega
 have hc8:=s[0].toNat_lt
 by_cases n1:n=1
 ·subst n1;rw[mU h0];omega
 ·rw[bZ h0 n1];have key:∀(k i:Nat) (q:Int) (l:List Int),k+i<=4->1<=i->(∀x∈l,(0:Int)<=x/\x<256)-> -bd i<=q->q<=bd i-> -100000000<=kB k q l/\kB k q l<=100000000:=by
   intro k
   induction k with
   | zero=>intro i q l _ _ _ h1 h2;have:=aBI i;simp only[kB];omega
   | succ k ih=>
    intro i q l hk hi hl h1 h2
    cases l with
    | nil=>simp only[kB];omega
    | cons x l=>
     simp only[kB];split
     ·omega
     ·have:=sQ (show i<4 by omega) hi;have hx:=hl x (by simp);exact ih (i+1) _ l (by omega) (by omega) (fun y hy=>hl y (by simp[hy])) (by omega) (by omega)
  have e:bd 1=300:=rfl;refine key (n-1) 1 _ _ (by omega) (by omega) (fun x hx=>cL x (List.mem_of_mem_drop hx)) ?_ ?_<;>rw[e]<;>unfold eO<;>split<;>(try split)<;>omega
theorem U9 (s:ByteArray) (n:Nat) (w:World) (h1:1<=n) (h4:n<=4) (hs:n<=s.size):Calls Tryz.prog 100 #[.string s, .int .i64 n] w fun e w'=>e= .returned (.int .i64 (rD (cA s) n))/\Below w.heap.size w w':=by
 obtain⟨p,hp⟩:∃p,jC (cA s) n=p:=⟨_,rfl⟩;have hb:=wJ s n w h1 h4 hs;have hsm:=nK h1 h4 hs;rw[hp]at hb hsm;have he:=vS p w hsm;have HB:=hW_ hb;have gn:(n:Int)<=(s.size:Int):=by omega
 cases hen:gK p with
 | none=>
  have HW:Hid (rD (cA s) n= -1):=hW_ (qD (by rw[hp,hen];simp));rw[hen]at he;have HE:=hW_ he;clear hb he hp hen;go_enter Tryz.func100,Tryz.ntmps100;go_wp2_with (first
   | (go_at_call 132;refine HB.out.mono ?_;rintro e w1 ⟨rfl,rfl⟩)
   | (go_at_call 133;refine HE.out.mono ?_;rintro e w1 ⟨rfl,hb1⟩;unfold encR;have HB1:=hW_ hb1;clear hb1))
  go_ret;exact⟨by rw[HW.out];rfl,HB1.out⟩
 | some L=>
  rw[hen]at he;have HE:=hW_ he;have hL:=aAB hen
  by_cases heq:rI L=s.extract 0 n
  ·have HW:Hid (rD (cA s) n=p):=hW_ (by
    rw[nI,hp];rw[hp,hen,<-xP,<-heq,qE hL])
   have gb:=iF heq;clear hb he hp hen;go_enter Tryz.func100,Tryz.ntmps100;go_wp2_with (first
    | (go_at_call 132;refine HB.out.mono ?_;rintro e w1 ⟨rfl,rfl⟩)
    | (go_at_call 133;refine HE.out.mono ?_;rintro e w1 ⟨rfl,hb1⟩;unfold encR;have HB1:=hW_ hb1;clear hb1))
   go_ret;exact⟨by rw[HW.out];rfl,HB1.out⟩
  ·have HW:Hid (rD (cA s) n= -1):=hW_ (qD (by
    rw[hp,hen,<-xP];intro e;apply heq;apply M1;rw[qE hL];exact Option.some.inj e))
   have gb:=uG heq;clear hb he hp hen;go_enter Tryz.func100,Tryz.ntmps100;go_wp2_with (first
    | (go_at_call 132;refine HB.out.mono ?_;rintro e w1 ⟨rfl,rfl⟩)
    | (go_at_call 133;refine HE.out.mono ?_;rintro e w1 ⟨rfl,hb1⟩;unfold encR;have HB1:=hW_ hb1;clear hb1))
   go_ret;exact⟨by rw[HW.out];rfl,HB1.out⟩
open Go.RowKit Go.ChangeMaps
theorem one_at {s:ByteArray} {i:Nat} (h:i<s.size):s.extract i (i+1)=one (ix (cA s) i).toNat:=by
 apply M1;have hx:ix (cA s) i=(s[i].toNat:Int):=by
  have:=dL h;simp[ix,List.getD,this]
 rw[hx,Int.toNat_natCast];unfold cA one;rw[ByteArray.data_extract,Array.toList_extract,List.extract_eq_take_drop,show i+1-i=1 by omega];have hl:i<s.data.toList.length:=by simpa using h
 rw[List.drop_eq_getElem_cons hl];simp;rfl
theorem Z9 {V:Vc} {b:List Int} {i:Nat} (h:i<b.length):(cB V b).take (i+1)=(cB V b).take i++ [ofT V.tokens (one (ix b i).toNat)]:=by
 have h1:i<(cB V b).length:=by rw[wE];exact h
 rw[<-sF h1];congr 2;simp[ix,List.getD,cB,h]
theorem dQ {V:Vc} {ta ma sa:Option Addr} {tn tc mn mc sn sc:Nat} (s:ByteArray) (w:World) (hT:SlS w ta tn tc V.tokens) (hM:SlF 4 w ma mn mc (flat Mg.enc V.merges)) (hm:mn<=16384) (hs:s.size<=100000):
  Calls Tryz.prog 102 #[.agg #[.slice ta tn tc, .slice ma mn mc, .slice sa sn sc], .string s] w
   fun e w'=>(∃v,e= .returned v/\Own w' w.heap.size v (fG V (cA s)))/\Below w.heap.size w w':=by
 obtain⟨w0,hw0⟩:∃w0,w.alloc (.cells #[.slice ta tn tc, .slice ma mn mc, .slice sa sn sc] 26)=w0:=⟨_,rfl⟩;have hb0:Below w.heap.size w w0:=hw0▸aA w _;have hx0:w0.heap[w.heap.size]?=some (.cells #[.slice ta tn tc, .slice ma mn mc, .slice sa sn sc] 26):=by rw[<-hw0];exact heap_alloc_new w _
 have HSZ0:Hid (w0.heap.size=w.heap.size+1):=hW_ (by rw[<-hw0];simp);have HT:=hW_ (Sl.below hT hb0);have HM:=hW_ (hM.below hb0);have HX0:=hW_ hx0;have HB0:=hW_ hb0;have HW0:=hW_ hw0;have HLN:=hW_ (nA s);have HRN:=hW_ (wE V (cA s));clear hT hM hb0 hx0 hw0;go_enter Tryz.func102,Tryz.ntmps102;go_wp2_with (fail);rw[HW0.out];go_wp2_with (fail);go_loopw [5,6] (fun v i wr=>∃k:Nat,i= .int .i64 k/\k<=s.size/\Hid (Own wr w0.heap.size v ((cB V (cA s)).take k))/\Hid (Below w0.heap.size w0 wr)) (fun _ i _=>s.size-(intOf i).toNat)
 case atStart=>exact⟨0,rfl,Nat.zero_le _,hW_ (by rw[<-HSZ0.out];exact K5 w0),hW_ (aA w0 _)⟩
 case round=>
  obtain⟨k,rfl,hk,HO,HB⟩:=hrel;have hwk:IntKind.i64.wrap ((k:Int)+1)=((k+1:Nat):Int):=by rw[IntKind.wrap_i64];omega
  by_cases hlt:k<s.size
  ·have gk:(k:Int)<(s.size:Int):=by omega
   have gk1:((k+1:Nat):Int)<=(s.size:Int):=by omega
   obtain⟨b0,b1,b2⟩:=qA ((HB.out.block w.heap.size (by have:=HSZ0.out;omega)).trans HX0.out);obtain⟨z,hz⟩:∃z,ofT V.tokens (s.extract k (k+1))=z:=⟨_,rfl⟩;have HTK:Hid ((cB V (cA s)).take (k+1)=(cB V (cA s)).take k++ [z]):=hW_ (by rw[Z9 (by have:=HLN.out;omega),<-hz,one_at hlt]);have HLK:Hid (((cB V (cA s)).take k).length=k):=hW_ (by rw[List.length_take];have:=HLN.out;have:=HRN.out;omega);have HOF:Hid (∀W,Below w0.heap.size w0 W->Calls Tryz.prog 109 #[.slice ta tn tc, .string (s.extract k (k+1))] W fun e w'=>e= .returned (.int .i64 z)/\W=w'):=hW_ (fun W h=>by have:=zK (s.extract k (k+1)) W (Sl.below HT.out h);rw[hz]at this;exact this);clear hz;have HLO:=hW_ HB.out.size;have HLT:=hW_ (World.ownsRow.lt HO.out);have q1:(0:Int)<=(k:Int)+1:=by omega
   have q2:(k:Int)+1<=(s.size:Int):=by omega
   have q3:(k:Int)<=(k:Int)+1:=by omega
   go_wp2_with (fail);refine aBS ?keyP ?keyF ?keyH
   case keyF=>
    intro key
    go_region_law (first
     | (go_simp;go_at_call 109;refine(HOF.out _ (by exact bA HB.out 1)).mono ?_;rintro e w6 ⟨rfl,rfl⟩)
     | (refine F3 (by rfl) _ _ (by rfl) (base:=w0.heap.size) (k:=k) (y:=z) (by rfl) (by exact World.ownsRow.alloc (Own.below HO.out (bA (Below.refl _ _) 1)) _) HLK.out (by rfl) (by exact heap_alloc_new _ _) (by omega) (by simp;have:=HLO.out;omega) ?_;intro gg6 cap6 w6 ho6 hg6 hat6;have HO6:=hW_ ho6;have HB6:Hid (Below w0.heap.size w0 w6):=hW_ (HB.out.trans (((lC rfl rfl rfl rfl:Below wr.heap.size wr ((wr.alloc (.cells #[.int .i64 z] 3)).drew)).mono HLO.out).trans ((Below.refl _ _).grown hg6 (by simp;have:=HLO.out;omega) (fun q hq=>(HLT.out q hq).1))));clear ho6 hg6 hat6))
    all_goals(revert w6 gg6 cap6;exact key.out)
   intro gg6 cap6 w6 HO6 HB6;go_wp2_with (fail);go_roundw
   case rel=>exact⟨k+1,by go_num,by omega,hW_ (by rw[HTK.out];exact HO6.out),HB6⟩
   case measure=>simp[intOf];omega
  ·obtain rfl:k=s.size:=by omega
   obtain⟨b0,b1,b2⟩:=qA ((HB.out.block w.heap.size (by have:=HSZ0.out;omega)).trans HX0.out);have l1:=ld3 (P:=Tryz.prog) b0 b1 b2;have ho:=HO.out;rw[List.take_of_length_le (by have:=HLN.out;have:=HRN.out;omega)]at ho;obtain⟨oo,oc,hoe,hsl⟩:=Own.sl ho;subst hoe;have hrun:=eX (V:=V) (ta:=ta) (tn:=tn) (tc:=tc) (sa:=sa) (sn:=sn) (sc:=sc) (mc:=mc) wr (HM.out.below HB.out) hm ho (by have:=HLN.out;have:=HRN.out;omega) HB.out.size;rw[HRN.out]at hrun;have HR:=hW_ hrun;have HE:Hid (fG V (cA s)=yG V.merges (cA s).length (cB V (cA s))):=hW_ rfl;rw[HRN.out];clear ho hsl hrun;go_wp2_with (fail);go_at_call 134;refine HR.out.mono ?_
   rintro e w2 ⟨⟨v,rfl,hown⟩,hb2⟩;have HO2:=hW_ hown;have HB2:=hW_ (HB.out.trans (hb2.mono HB.out.size));clear hown hb2;go_wp2_with (fail);go_ret;exact⟨⟨_,rfl,by rw[HE.out];exact Own.mono HO2.out HB0.out.size⟩,HB0.out.trans (HB2.out.mono HB0.out.size)⟩
def sU (A:List Int):Prop:=(∃x,A= [x]/\256<=x)\/(A≠[]/\∀y∈A,0<=y/\y<256)
theorem wH {V:Vc} {N:List ByteArray} {x:Int} (hc:lA V N [x]=0) (hx:256<=x):tB V N [x]= [C9 V N x]:=by
 unfold tB;rw[if_neg (by simp[hc]),if_pos ⟨rfl,hx⟩];rfl
theorem sG {V:Vc} {N:List ByteArray} {A:List Int} (hc:lA V N A=0) (hA:A≠[]) (hb:∀y∈A,0<=y/\y<256):tB V N A=fG V A:=by
 unfold tB;rw[if_neg (by simp[hc,hA]),if_neg,if_pos]
 ·rw[List.all_eq_true];intro y hy;exact C0.2 (hb y hy)
 ·rintro⟨h1,h2⟩;have h3:ix A 0∈A:=List.mem_of_getElem? (uD (by omega));have:=hb _ h3;omega
def O1 (A:List Int):Int:=if A.all isB=true then 1 else 0
theorem aAt {A:List Int} (hb:∀y∈A,0<=y/\y<256):O1 A=1:=by
 unfold O1;rw[if_pos];rw[List.all_eq_true];intro y hy;exact C0.2 (hb y hy)
theorem aCG {x:Int} (hx:256<=x):O1 [x]=0:=by
 unfold O1;rw[if_neg];simp[isB];omega
theorem rN {w:World} {base:Nat} {v:Value} {A:List Int} (h:w.ownsRow base 5 1 v A.length (A.map (.int .u8))) (hn:0<A.length):∃gb cap,v= .slice (some ⟨gb,0,none⟩) A.length cap/\base<=gb/\gb<w.heap.size/\SlB w (some ⟨gb,0,none⟩) A.length cap A:=by
 have hlt:=World.ownsRow.lt h;obtain⟨ao,c,e,hs⟩:=Sl.of_own h;obtain⟨h1,h2⟩:=h;rcases h2 with⟨_,h3⟩ | ⟨gb,cap,cur,hv,_⟩
 ·omega
 ·subst hv;obtain⟨rfl,_,rfl⟩:=Value.slice.inj e;obtain⟨k1,k2⟩:=hlt gb rfl;exact⟨gb,cap,rfl,k1,k2,hs⟩
theorem vK.codK {w w':World} {base g:Nat} {V:Vc} {N:List ByteArray} {kind:Int} {T:List Rg} {room:Int} {cb mb:Nat} {no:Option Addr} {l:List Row} {hits misses:Int} (h:vK w base g V N kind T room cb mb no l hits misses) (hk:iA (Ft cb mb no) w w'):qJ w' base g V N kind T cb:=by
 obtain⟨⟨S,h1,h2⟩,_⟩:=h;exact h1 w' (fun q hq=>hk.block q (h2 q hq).1.2 (h2 q hq).2) hk.size
theorem iA.cell {S:Nat->Prop} {w w':World} (h:iA S w w') {p:Addr} {u:Value} (hc:w.cell? p=some u) (hn:¬S p.block):w'.cell? p=some u:=by
 rw[World.cell?_of_block (w:=w) (h.block _ (World.block_lt_of_cell? w p hc) hn)];exact hc
open Go
def H8:List (Int×Bool)->List Int->Prop
 | [],A=>A= []
 | p::ps,A=>1<=p.1/\p.1<=A.length/\sU (A.take p.1.toNat)/\H8 ps (A.drop p.1.toNat)
theorem run_take {text:List Int} {n:Int} (h1:1<=n) (h2:n<=(A5 text).length):text.take n.toNat=(A5 text).take n.toNat:=by
 obtain⟨r,hr⟩:A5 text <+:text:=List.takeWhile_prefix isB;rw[<-hr,List.take_append_of_le_length (by omega)];have:A5 (A5 text++r)=A5 text:=by rw[hr]
 rw[this]
theorem iM {kind:Int} {t:List Rg} {final:Bool} (ht:kA t):∀{k:Nat} {text:List Int} {op:Bool},text.length<=k->(∀y∈text,0<=y)->H8 (vB kind t final k text op) text
 | 0,text,op,h,_=>by
  have:text= []:=List.eq_nil_of_length_eq_zero (by omega);subst this;rfl
 | k+1,text,op,h,hp=>by
  by_cases h0:text= []
  ·subst h0;rw[vE];rfl
  ·have hl:=List.length_pos_iff.2 h0
   by_cases hr:A5 text= []
   ·cases text with
    | nil=>exact absurd rfl h0
    | cons m l=>
     have hm:isB m=false:=by
      cases hb:isB m with
      | false=>rfl
      | true=>simp[A5,hb]at hr
     rw[pG hm];have hm2:256<=m:=by
      have h1:=hp m (by simp);rcases Int.lt_or_le m 256 with h2 | h2
      ·rw[C0.2 ⟨h1,h2⟩]at hm;cases hm
      ·exact h2
     refine⟨by simp,by simp;omega, .inl ⟨m,by simp,hm2⟩,?_⟩;exact iM ht (by simp only[List.length_cons]at h;show l.length<=k;omega) (fun y hy=>hp y (List.mem_of_mem_drop (i:=(1:Int).toNat) hy))
   ·obtain⟨⟨n,d⟩,hn⟩:∃x,A6 kind t (A5 text) (final || decide ((A5 text).length<text.length))=x:=⟨_,rfl⟩;have hle:=eH (kind:=kind) ht fN hr (final || decide ((A5 text).length<text.length));rw[hn]at hle;simp only at hle;have hrl:=Q5 text;rw[tH hr hn];refine⟨hle.1,by simp only;omega, .inr ⟨?_,?_⟩,?_⟩
    ·simp only;intro e;have h9:=congrArg List.length e;rw[List.length_take,List.length_nil]at h9;omega
    ·simp only;rw[run_take hle.1 hle.2];intro y hy;exact fN y (List.mem_of_mem_take hy)
    ·exact iM ht (by simp only[List.length_drop];omega) (fun y hy=>hp y (List.mem_of_mem_drop hy))
theorem xM {V:Vc} {N:List ByteArray} {s:Int} (h:A4 V N s=0):0<=s/\s<256+(N.length:Int):=by
 unfold A4 at h
 by_cases h1:s<0\/256+(N.length:Int)<=s
 ·rw[if_pos h1]at h;cases h
 ·omega
theorem aN {V:Vc} {N:List ByteArray} {kind:Int} {t:List Rg} {final:Bool} (ht:kA t) {A:List Int} (hc:lA V N A=0):H8 (B6 kind t A final) A:=
 iM ht (Nat.le_refl _) (fun y hy=>(xM (uB.1 hc y hy)).1)
theorem vC {V:Vc} {N:List ByteArray} {A:List Int} (hc:lA V N A=0) (k:Nat):lA V N (A.take k)=0/\lA V N (A.drop k)=0:=
 ⟨uB.2 (fun s hs=>uB.1 hc s (List.mem_of_mem_take hs)),uB.2 (fun s hs=>uB.1 hc s (List.mem_of_mem_drop hs))⟩
section
variable {L M:List Pt} {s:Nat}
end
def decd (ps:List (Int×Bool)):List (Int×Bool):=ps.takeWhile (fun p=>p.2)
def I0 (ps:List (Int×Bool)):Nat:=(ps.map (fun x=>x.1.toNat)).sum
end Go.Proofs.YtimkkkdabmhedaaGreatDoor
