/- Walks: vocab.Bytes, vocab.Name, vocab.ID. (Printed by gLook.py.) -/
import Derived.Test.YtahiballegpbgaaGreatDoorR6
import Derived.Test.YtahiballegpbgaaGreatDoorR1
import Derived.BigRegion
import Derived.Maps.OwnOps
import Derived.Maps.OwnSet
import Derived.Maps.Views
import Derived.StillTailTactics
import Derived.Deep.AppendLies
set_option linter.unusedVariables false
set_option maxHeartbeats 4000000
set_option maxRecDepth 100000
namespace Go.Proofs.YtahiballegpbgaaGreatDoor
open Go.RowKit
def tQ:Option Nat->Int
 | some i=>i
 | none=> -1
theorem ix_hit {S:List Sp} {p:Sp->Bool} {k:Nat} (hk:k<S.length) (hp:p (sp S k)=true) (hno:∀j,j<k->p (sp S j)=false):S.findIdx? p=some k:=by
 rw[List.findIdx?_eq_some_iff_getElem];exact⟨hk,by rw[D7 hk];exact hp,fun j hj=>by rw[D7 (by omega),hno j hj];simp⟩
theorem aCt {S:List Sp} {p:Sp->Bool} (hno:∀j,j<S.length->p (sp S j)=false):S.findIdx? p=none:=by
 rw[List.findIdx?_eq_none_iff];intro x hx;obtain⟨j,hj,rfl⟩:=List.getElem_of_mem hx;rw[D7 hj];exact hno j hj
theorem fS (S:List Sp) (p:Sp->Bool):(S.findIdx? p=none/\S.find? p=none)\/∃i,i<S.length/\S.findIdx? p=some i/\S.find? p=some (sp S i):=by
 cases h:S.findIdx? p with
 | none=>
  left;rw[List.findIdx?_eq_none_iff]at h;exact⟨rfl,by rw[List.find?_eq_none];intro x hx;rw[h x hx];simp⟩
 | some i=>
  right;obtain⟨h1,h2,h3⟩:=List.findIdx?_eq_some_iff_getElem.1 h;refine⟨i,h1,rfl,?_⟩;rw[List.find?_eq_some_iff_getElem];exact⟨by rw[D7 h1]at h2;exact h2,i,h1,D7 h1,fun j hj=>by simpa using h3 j hj⟩
theorem sY (x:Sp) {g:Nat} {id:Int} (w:World) (hg:w.cell? ⟨g,0,none⟩=some (.int .i64 id)):
  Calls Tryz.prog 194 #[.agg #[.string x.name, .int .i64 x.id], .pointer (some ⟨g,0,none⟩)] w fun e w'=>e= .returned (.bool (decide (x.id=id)))/\Below w.heap.size w w':=by
 have hc:=eA (aA w (.cells #[.string x.name, .int .i64 x.id] 117)) _ _ hg
 by_cases h:x.id=id
 ·have HF:Hid (decide (x.id=id)=true):=hW_ (by simp[h]);have he:(x.id==id)=true:=by simpa using h
  clear h;go_enter Tryz.func194,Tryz.ntmps194;go_wp2;go_ret;exact⟨by rw[HF.out];rfl,aA w _⟩
 ·have HF:Hid (decide (x.id=id)=false):=hW_ (by simp[h]);have he:(x.id==id)=false:=by simpa using h
  clear h;go_enter Tryz.func194,Tryz.ntmps194;go_wp2;go_ret;exact⟨by rw[HF.out];rfl,aA w _⟩
theorem aDP (x:Sp) {g:Nat} {nm:ByteArray} (w:World) (hg:w.cell? ⟨g,0,none⟩=some (.string nm)):
  Calls Tryz.prog 112 #[.agg #[.string x.name, .int .i64 x.id], .pointer (some ⟨g,0,none⟩)] w fun e w'=>e= .returned (.bool (decide (x.name=nm)))/\Below w.heap.size w w':=by
 have hc:=eA (aA w (.cells #[.string x.name, .int .i64 x.id] 117)) _ _ hg
 by_cases h:x.name=nm
 ·have HF:Hid (decide (x.name=nm)=true):=hW_ (by simp[h]);have he:=gH h;clear h;go_enter Tryz.func112,Tryz.ntmps112;go_wp2;go_ret;exact⟨by rw[HF.out];rfl,aA w _⟩
 ·have HF:Hid (decide (x.name=nm)=false):=hW_ (by simp[h]);have he:=oJ h;clear h;go_enter Tryz.func112,Tryz.ntmps112;go_wp2;go_ret;exact⟨by rw[HF.out];rfl,aA w _⟩
theorem rY {S:List Sp} {so:Option Addr} {sn sc g:Nat} {id:Int} (w:World) (hS:SlF 2 w so sn sc (flat Sp.enc S)) (hg:w.cell? ⟨g,0,none⟩=some (.int .i64 id)):
  Calls Tryz.prog 111 #[.slice so sn sc, .func (.func 194) #[] #[.pointer (some ⟨g,0,none⟩)]] w fun e w'=>e= .returned (.int .i64 (tQ (S.findIdx? (fun x=>decide (x.id=id)))))/\Below w.heap.size w w':=by
 have hm:=Nat.le_trans hS.le hS.max;unfold maxLen at hm;have HLS:=hW_ (hS.count Sp.enc_len (by omega));have HS:=hW_ hS;have HG:=hW_ hg;clear hS hg;go_enter Tryz.func111,Tryz.ntmps111;go_wp2_with (fail);go_loopw [5,8] (fun _ i wr=>∃k:Nat,k<=sn/\i= .int .i64 k/\Hid (∀j,j<k->(fun x:Sp=>decide (x.id=id)) (sp S j)=false)/\Below w.heap.size w wr) (fun _ i _=>sn-(intOf i).toNat)
 case atStart=>exact⟨0,Nat.zero_le _,rfl,hW_ (fun j h=>by omega),Below.refl _ _⟩
 case round=>
  obtain⟨k,hk,rfl,HK,hb⟩:=hrel;have HB:=hW_ hb;clear hb
  by_cases hlt:k<sn
  ·have hkS:k<S.length:=by have:=HLS.out;omega
   obtain⟨b,of,rfl,hce⟩:=(HS.out.below HB.out).elem Sp.enc_len (by omega) (mD hkS);have d0:=hce 0 _ rfl;have d1:=hce 1 _ rfl;rw[Nat.add_zero]at d0;clear hce;have hcl:=sY (sp S k) (id:=id) wr (eA HB.out _ _ HG.out);obtain⟨bv,hbv⟩:∃bv,(fun x:Sp=>decide (x.id=id)) (sp S k)=bv:=⟨_,rfl⟩;have hbv':=hbv;simp only at hbv';rw[hbv']at hcl;clear hbv';go_wp2_with (fail);refine hcl.mono ?_
   rintro e w2 ⟨rfl,hb2⟩;have HB2:=hW_ (HB.out.trans (hb2.mono HB.out.size))
   cases bv with
   | true=>
    have HF:=hW_ (ix_hit (p:=fun x=>decide (x.id=id)) hkS hbv HK.out);clear hbv;go_wp2_with (fail);go_ret;exact⟨by rw[HF.out];rfl,HB2.out⟩
   | false=>
    have HK2:Hid (∀j,j<k+1->(fun x:Sp=>decide (x.id=id)) (sp S j)=false):=hW_ (fun j hj=>by
     by_cases e:j=k
     ·subst e;exact hbv
     ·exact HK.out j (by omega))
    clear hbv;go_wp2_with (fail);go_roundw
    case rel=>exact⟨k+1,by omega,by go_num,HK2,HB2.out⟩
    case measure=>simp[intOf];omega
  ·have HF:=hW_ (aCt (p:=fun x=>decide (x.id=id)) (S:=S) (fun j hj=>HK.out j (by have:=HLS.out;omega)));go_wp2_with (fail);go_ret;exact⟨by rw[HF.out];rfl,HB.out⟩
theorem aDO {S:List Sp} {so:Option Addr} {sn sc g:Nat} {nm:ByteArray} (w:World) (hS:SlF 2 w so sn sc (flat Sp.enc S)) (hg:w.cell? ⟨g,0,none⟩=some (.string nm)):
  Calls Tryz.prog 111 #[.slice so sn sc, .func (.func 112) #[] #[.pointer (some ⟨g,0,none⟩)]] w fun e w'=>e= .returned (.int .i64 (tQ (S.findIdx? (fun x=>decide (x.name=nm)))))/\Below w.heap.size w w':=by
 have hm:=Nat.le_trans hS.le hS.max;unfold maxLen at hm;have HLS:=hW_ (hS.count Sp.enc_len (by omega));have HS:=hW_ hS;have HG:=hW_ hg;clear hS hg;go_enter Tryz.func111,Tryz.ntmps111;go_wp2_with (fail);go_loopw [5,8] (fun _ i wr=>∃k:Nat,k<=sn/\i= .int .i64 k/\Hid (∀j,j<k->(fun x:Sp=>decide (x.name=nm)) (sp S j)=false)/\Below w.heap.size w wr) (fun _ i _=>sn-(intOf i).toNat)
 case atStart=>exact⟨0,Nat.zero_le _,rfl,hW_ (fun j h=>by omega),Below.refl _ _⟩
 case round=>
  obtain⟨k,hk,rfl,HK,hb⟩:=hrel;have HB:=hW_ hb;clear hb
  by_cases hlt:k<sn
  ·have hkS:k<S.length:=by have:=HLS.out;omega
   obtain⟨b,of,rfl,hce⟩:=(HS.out.below HB.out).elem Sp.enc_len (by omega) (mD hkS);have d0:=hce 0 _ rfl;have d1:=hce 1 _ rfl;rw[Nat.add_zero]at d0;clear hce;have hcl:=aDP (sp S k) (nm:=nm) wr (eA HB.out _ _ HG.out);obtain⟨bv,hbv⟩:∃bv,(fun x:Sp=>decide (x.name=nm)) (sp S k)=bv:=⟨_,rfl⟩;have hbv':=hbv;simp only at hbv';rw[hbv']at hcl;clear hbv';go_wp2_with (fail);refine hcl.mono ?_
   rintro e w2 ⟨rfl,hb2⟩;have HB2:=hW_ (HB.out.trans (hb2.mono HB.out.size))
   cases bv with
   | true=>
    have HF:=hW_ (ix_hit (p:=fun x=>decide (x.name=nm)) hkS hbv HK.out);clear hbv;go_wp2_with (fail);go_ret;exact⟨by rw[HF.out];rfl,HB2.out⟩
   | false=>
    have HK2:Hid (∀j,j<k+1->(fun x:Sp=>decide (x.name=nm)) (sp S j)=false):=hW_ (fun j hj=>by
     by_cases e:j=k
     ·subst e;exact hbv
     ·exact HK.out j (by omega))
    clear hbv;go_wp2_with (fail);go_roundw
    case rel=>exact⟨k+1,by omega,by go_num,HK2,HB2.out⟩
    case measure=>simp[intOf];omega
  ·have HF:=hW_ (aCt (p:=fun x=>decide (x.name=nm)) (S:=S) (fun j hj=>HK.out j (by have:=HLS.out;omega)));go_wp2_with (fail);go_ret;exact⟨by rw[HF.out];rfl,HB.out⟩
theorem aAW {V:Vc} {dd:Vd} (id:Int) (w:World) (hV:xE w dd V):
  Calls Tryz.prog 157 #[dd.val, .int .i64 id] w fun e w'=>e= .returned (.tuple #[.string (nmOf (oR V.specials id)), .bool (oR V.specials id).isSome])/\Below w.heap.size w w':=by
 obtain⟨ta,tn,tc,ma,mn,mc,sa,sn,sc⟩:=dd;obtain⟨w0,hw0⟩:∃w0,(w.alloc (.cells #[.slice ta tn tc, .slice ma mn mc, .slice sa sn sc] 26)).alloc (.cells #[.int .i64 id] 3)=w0:=⟨_,rfl⟩;have hb0:Below w.heap.size w w0:=hw0▸(aA w _).alloc (by simp) _;have hs0:w0.heap.size=w.heap.size+2:=by rw[<-hw0];simp
 have hx0:w0.heap[w.heap.size]?=some (.cells #[.slice ta tn tc, .slice ma mn mc, .slice sa sn sc] 26):=by rw[<-hw0,(aA _ _).block _ (by simp)];exact heap_alloc_new w _
 have hx1:w0.heap[w.heap.size+1]?=some (.cells #[.int .i64 id] 3):=by
  rw[<-hw0];have:=heap_alloc_new (w.alloc (.cells #[.slice ta tn tc, .slice ma mn mc, .slice sa sn sc] 26)) (.cells #[.int .i64 id] 3);simpa using this
 obtain⟨c0,c1,c2⟩:=A4 hx0;have HV:=hW_ (hV.below hb0);have HB0:=hW_ hb0;have HW0:=hW_ hw0;have HX0:=hW_ hx0;have hnl:=hV.spc.count Sp.enc_len (by omega);simp only at hnl;have HNL:=hW_ hnl;have hm:=Nat.le_trans hV.spc.le hV.spc.max;simp only at hm;unfold maxLen at hm;have hI:=rY (id:=id) (g:=w.heap.size+1) w0 HV.out.spc (by simp[World.cell?,hx1]);clear hV hb0 hx0 hx1 hw0 hnl;go_enter Tryz.func157,Tryz.ntmps157;go_wp2_with (fail);rw[HW0.out];refine hI.mono ?_
 rintro e w1 ⟨rfl,hb1⟩;have HB1:=hW_ (HB0.out.trans (hb1.mono HB0.out.size));have HV1:=hW_ (HV.out.below hb1);clear c0 c1 c2;obtain⟨c0,c1,c2⟩:=A4 ((hb1.block w.heap.size (by omega)).trans HX0.out);clear hb1 hI;rcases fS V.specials (fun x=>decide (x.id=id))with⟨e1,e2⟩ | ⟨i,hi,e1,e2⟩
 ·rw[e1];simp only[tQ];have HE:Hid (oR V.specials id=none):=hW_ e2;clear e1 e2;go_wp2;refine bodyPost_ret (v:= .tuple #[.string ByteArray.empty, .bool false]) ?_ rfl ⟨by rw[HE.out];rfl,HB1.out⟩
  simp[results,Tryz.results157,go_sem];try rfl
 ·rw[e1];simp only[tQ];have HE:Hid (oR V.specials id=some (sp V.specials i)):=hW_ e2;have hin:i<sn:=by have:=HNL.out;omega
  obtain⟨b,of,hao,hce⟩:=HV1.out.spc.elem Sp.enc_len (by omega) (mD hi);simp only at hao;subst hao;have d0:=hce 0 _ rfl;have d1:=hce 1 _ rfl;rw[Nat.add_zero]at d0;have hng:¬(i:Int)<0:=by omega
  clear e1 e2 hce hi;go_wp2;refine bodyPost_ret (v:= .tuple #[.string (sp V.specials i).name, .bool true]) ?_ rfl ⟨by rw[HE.out];rfl,HB1.out⟩
  simp[results,Tryz.results157,go_sem]
theorem id_calls {V:Vc} {dd:Vd} (nm:ByteArray) (w:World) (hV:xE w dd V):
  Calls Tryz.prog 74 #[dd.val, .string nm] w fun e w'=>e= .returned (.int .i64 (idOf (fG V.specials nm)))/\Below w.heap.size w w':=by
 obtain⟨ta,tn,tc,ma,mn,mc,sa,sn,sc⟩:=dd;obtain⟨w0,hw0⟩:∃w0,(w.alloc (.cells #[.slice ta tn tc, .slice ma mn mc, .slice sa sn sc] 26)).alloc (.cells #[.string nm] 9)=w0:=⟨_,rfl⟩;have hb0:Below w.heap.size w w0:=hw0▸(aA w _).alloc (by simp) _;have hs0:w0.heap.size=w.heap.size+2:=by rw[<-hw0];simp
 have hx0:w0.heap[w.heap.size]?=some (.cells #[.slice ta tn tc, .slice ma mn mc, .slice sa sn sc] 26):=by rw[<-hw0,(aA _ _).block _ (by simp)];exact heap_alloc_new w _
 have hx1:w0.heap[w.heap.size+1]?=some (.cells #[.string nm] 9):=by
  rw[<-hw0];have:=heap_alloc_new (w.alloc (.cells #[.slice ta tn tc, .slice ma mn mc, .slice sa sn sc] 26)) (.cells #[.string nm] 9);simpa using this
 obtain⟨c0,c1,c2⟩:=A4 hx0;have HV:=hW_ (hV.below hb0);have HB0:=hW_ hb0;have HW0:=hW_ hw0;have HX0:=hW_ hx0;have hnl:=hV.spc.count Sp.enc_len (by omega);simp only at hnl;have HNL:=hW_ hnl;have hm:=Nat.le_trans hV.spc.le hV.spc.max;simp only at hm;unfold maxLen at hm;have hI:=aDO (nm:=nm) (g:=w.heap.size+1) w0 HV.out.spc (by simp[World.cell?,hx1]);clear hV hb0 hx0 hx1 hw0 hnl;go_enter Tryz.func74,Tryz.ntmps74;go_wp2_with (fail);rw[HW0.out];refine hI.mono ?_
 rintro e w1 ⟨rfl,hb1⟩;have HB1:=hW_ (HB0.out.trans (hb1.mono HB0.out.size));have HV1:=hW_ (HV.out.below hb1);clear c0 c1 c2;obtain⟨c0,c1,c2⟩:=A4 ((hb1.block w.heap.size (by omega)).trans HX0.out);clear hb1 hI;rcases fS V.specials (fun x=>decide (x.name=nm))with⟨e1,e2⟩ | ⟨i,hi,e1,e2⟩
 ·rw[e1];simp only[tQ];have HE:Hid (fG V.specials nm=none):=hW_ e2;clear e1 e2;go_wp2
  (go_ret;exact⟨by rw[HE.out];rfl,HB1.out⟩)
 ·rw[e1];simp only[tQ];have HE:Hid (fG V.specials nm=some (sp V.specials i)):=hW_ e2;have hin:i<sn:=by have:=HNL.out;omega
  obtain⟨b,of,hao,hce⟩:=HV1.out.spc.elem Sp.enc_len (by omega) (mD hi);simp only at hao;subst hao;have d0:=hce 0 _ rfl;have d1:=hce 1 _ rfl;rw[Nat.add_zero]at d0;have hng:¬(i:Int)<0:=by omega
  clear e1 e2 hce hi;go_wp2
  (go_ret;exact⟨by rw[HE.out];rfl,HB1.out⟩)
def kG (T:List ByteArray) (i:Int):ByteArray:=if wD T i=true then tk T i.toNat else ByteArray.empty
theorem rV {V:Vc} {dd:Vd} (id:Int) (w:World) (hV:xE w dd V):
  Calls Tryz.prog 156 #[dd.val, .int .i64 id] w fun e w'=>e= .returned (.tuple #[.string (kG V.tokens id), .bool (wD V.tokens id)])/\Below w.heap.size w w':=by
 obtain⟨ta,tn,tc,ma,mn,mc,sa,sn,sc⟩:=dd;obtain⟨w0,hw0⟩:∃w0,w.alloc (.cells #[.slice ta tn tc, .slice ma mn mc, .slice sa sn sc] 26)=w0:=⟨_,rfl⟩;have hb0:Below w.heap.size w w0:=hw0▸aA w _;have hx0:w0.heap[w.heap.size]?=some (.cells #[.slice ta tn tc, .slice ma mn mc, .slice sa sn sc] 26):=by rw[<-hw0];exact heap_alloc_new w _
 obtain⟨c0,c1,c2⟩:=A4 hx0;have HV:=hW_ (hV.below hb0);have HB0:=hW_ hb0;have HW0:=hW_ hw0;have HL:=hW_ HV.out.tok.count;clear hV hb0 hx0 hw0;have hI:=Y9 (T:=V.tokens) id w0 HV.out.tok;go_enter Tryz.func156,Tryz.ntmps156;go_wp2_with (fail);rw[HW0.out];refine hI.mono ?_
 rintro e w1 ⟨rfl,rfl⟩
 cases hi:wD V.tokens id with
 | false=>
  have HF:Hid (kG V.tokens id=ByteArray.empty/\wD V.tokens id=false):=hW_ ⟨by unfold kG;rw[hi];rfl,hi⟩;clear hi hI;go_wp2;refine bodyPost_ret (v:= .tuple #[.string ByteArray.empty, .bool false]) ?_ rfl ⟨by rw[HF.out.1,HF.out.2],HB0.out⟩
  simp[results,Tryz.results156,go_sem];try rfl
 | true=>
  have HF:Hid (kG V.tokens id=tk V.tokens id.toNat/\wD V.tokens id=true):=hW_ ⟨by unfold kG;rw[if_pos hi],hi⟩;obtain⟨h1,h2,_⟩:=vB.1 hi;clear hi hI;obtain⟨k,rfl⟩:=Int.eq_ofNat_of_zero_le h1;have hk:k<V.tokens.length:=by omega
  have hkn:k<tn:=by have:=HL.out;omega
  obtain⟨b,o,hao,hc⟩:=HV.out.tok.cell (sB hk);simp only at hao;subst hao;clear h2 hk;go_wp2;refine bodyPost_ret (v:= .tuple #[.string (tk V.tokens k), .bool true]) ?_ rfl ⟨by rw[HF.out.1,HF.out.2];rfl,HB0.out⟩
  simp[results,Tryz.results156,go_sem]
set_option linter.unusedSimpArgs false
structure Nd where
 key:ByteArray
 ro:Option Addr
 rn:Nat
 rc:Nat
 el:Int
 yo:Int
def B9 (n:Nd):List Value:=[.string n.key, .slice n.ro n.rn n.rc, .int .i64 n.el, .int .i64 n.yo]
structure Nds (w:World) (nb m cap:Nat) (N:Nat->Nd):Prop where
 le:m<=cap
 max:cap<=maxLen
 blk:∃cur:List Value,w.heap[nb]?=some (.cells cur.toArray 283 (0,0))/\cur.length=cap*4/\∀i,i<m->∀j,j<4->cur[i*4+j]?=(B9 (N i))[j]?
theorem Nds.cell {w:World} {nb m cap:Nat} {N:Nat->Nd} (h:Nds w nb m cap N) {i:Nat} (hi:i<m) {j:Nat} (hj:j<4):w.cell? ⟨nb,i*4+j,none⟩=(B9 (N i))[j]? :=by
 obtain⟨cur,hb,hl,hc⟩:=h.blk;simp only[World.cell?,hb];simpa using hc i hi j hj
theorem Nds.free {w:World} {nb m cap:Nat} {N:Nat->Nd} (h:Nds w nb m cap N) (o:Nat):w.frozen? ⟨nb,o,none⟩=false:=by
 obtain⟨cur,hb,_⟩:=h.blk;simp only[World.frozen?,hb];simp
theorem Nds.lt {w:World} {nb m cap:Nat} {N:Nat->Nd} (h:Nds w nb m cap N):nb<w.heap.size:=by
 obtain⟨cur,hb,_⟩:=h.blk;rcases Nat.lt_or_ge nb w.heap.size with h' | h'
 ·exact h'
 ·rw[Array.getElem?_eq_none h']at hb;cases hb
theorem Nds.stay {w w':World} {nb m cap:Nat} {N:Nat->Nd} (h:Nds w nb m cap N) (hb:w'.heap[nb]?=w.heap[nb]?):Nds w' nb m cap N:=by
 obtain⟨cur,h1,h2,h3⟩:=h.blk;exact⟨h.le,h.max,cur,hb.trans h1,h2,h3⟩
def upd {α:Type} (N:Nat->α) (i:Nat) (x:α):Nat->α:=fun k=>if k=i then x else N k
theorem aD {α:Type} (N:Nat->α) (i:Nat) (x:α):upd N i x i=x:=by simp[upd]
theorem B2 {α:Type} (N:Nat->α) (i k:Nat) (x:α) (h:k≠i):upd N i x k=N k:=by simp[upd,h]
theorem Nds.store {w:World} {nb m cap:Nat} {N:Nat->Nd} (h:Nds w nb m cap N) {i:Nat} (hi:i<m) {j:Nat} (hj:j<4) (v:Value) (n':Nd) (hn:B9 n'=(B9 (N i)).set j v):
  Nds (w.setCell ⟨nb,i*4+j,none⟩ v) nb m cap (upd N i n'):=by
 obtain⟨cur,hb,hl,hc⟩:=h.blk;refine⟨h.le,h.max,cur.set (i*4+j) v,?_,by simpa using hl,?_⟩
 ·rw[heap_setCell_same w nb _ cur.toArray _ v hb];simp
 ·intro i' hi' j' hj'
  by_cases e:i'=i
  ·subst e;rw[aD,hn]
   by_cases ej:j'=j
   ·subst ej;have h4:j'<(B9 (N i')).length:=by simp[B9];omega
    have hl':=h.le;have h5:i'*4+j'<cur.length:=by rw[hl];omega
    simp[h4,h5]
   ·rw[List.getElem?_set,List.getElem?_set,if_neg (by omega),if_neg (fun e=>ej e.symm)];exact hc i' hi' j' hj'
  ·rw[B2 _ _ _ _ e,List.getElem?_set,if_neg (by omega)];exact hc i' hi' j' hj'
structure lH (w:World) (cb:Nat) (nodes:Value) (mb:Nat) (e y room hits misses:Int):Prop where
 f0:w.cell? ⟨cb,0,none⟩=some nodes
 f1:w.cell? ⟨cb,1,none⟩=some (.map (some mb))
 f2:w.cell? ⟨cb,2,none⟩=some (.int .i64 e)
 f3:w.cell? ⟨cb,3,none⟩=some (.int .i64 y)
 f4:w.cell? ⟨cb,4,none⟩=some (.int .i64 room)
 f5:w.cell? ⟨cb,5,none⟩=some (.int .i64 hits)
 f6:w.cell? ⟨cb,6,none⟩=some (.int .i64 misses)
 ff:∀o,w.frozen? ⟨cb,o,none⟩=false
theorem lH.stay {w w':World} {cb:Nat} {nodes:Value} {mb:Nat} {e y room hits misses:Int} (h:lH w cb nodes mb e y room hits misses) (hb:w'.heap[cb]?=w.heap[cb]?):lH w' cb nodes mb e y room hits misses:=by
 have hc:∀o,w'.cell? ⟨cb,o,none⟩=w.cell? ⟨cb,o,none⟩:=fun o=>World.cell?_of_block (w:=w) hb
 have hf:∀o,w'.frozen? ⟨cb,o,none⟩=w.frozen? ⟨cb,o,none⟩:=fun o=>World.frozen?_of_block (w:=w) hb
 exact⟨(hc 0).trans h.f0,(hc 1).trans h.f1,(hc 2).trans h.f2,(hc 3).trans h.f3,(hc 4).trans h.f4,(hc 5).trans h.f5,(hc 6).trans h.f6,fun o=>(hf o).trans (h.ff o)⟩
theorem fE {w:World} {b o:Nat} {u v:Value} (h:w.cell? ⟨b,o,none⟩=some u):(w.setCell ⟨b,o,none⟩ v).cell? ⟨b,o,none⟩=some v:=by
 simp[go_sem,h]
theorem lA {w:World} {b o o':Nat} {v:Value} (h:o'≠o):(w.setCell ⟨b,o,none⟩ v).cell? ⟨b,o',none⟩=w.cell? ⟨b,o',none⟩:=by
 simp[go_sem,h]
theorem cA {w:World} {b o:Nat} {v:Value} {k:Nat} (h:k≠b):(w.setCell ⟨b,o,none⟩ v).heap[k]?=w.heap[k]? :=Below.heap_setCell _ _ _ _ h
theorem aH {w:World} {a p:Addr} {v:Value}:(w.setCell a v).frozen? p=w.frozen? p:=by simp
section
variable {w:World} {cb:Nat} {nodes:Value} {mb:Nat} {e y room hits misses:Int}
theorem lH.set0 (h:lH w cb nodes mb e y room hits misses) (v:Value):lH (w.setCell ⟨cb,0,none⟩ v) cb v mb e y room hits misses:=
 ⟨fE h.f0,(lA (by omega)).trans h.f1,(lA (by omega)).trans h.f2,(lA (by omega)).trans h.f3,(lA (by omega)).trans h.f4,(lA (by omega)).trans h.f5,(lA (by omega)).trans h.f6,fun o=>aH.trans (h.ff o)⟩
theorem lH.set2 (h:lH w cb nodes mb e y room hits misses) (x:Int):lH (w.setCell ⟨cb,2,none⟩ (.int .i64 x)) cb nodes mb x y room hits misses:=
 ⟨(lA (by omega)).trans h.f0,(lA (by omega)).trans h.f1,fE h.f2,(lA (by omega)).trans h.f3,(lA (by omega)).trans h.f4,(lA (by omega)).trans h.f5,(lA (by omega)).trans h.f6,fun o=>aH.trans (h.ff o)⟩
theorem lH.set3 (h:lH w cb nodes mb e y room hits misses) (x:Int):lH (w.setCell ⟨cb,3,none⟩ (.int .i64 x)) cb nodes mb e x room hits misses:=
 ⟨(lA (by omega)).trans h.f0,(lA (by omega)).trans h.f1,(lA (by omega)).trans h.f2,fE h.f3,(lA (by omega)).trans h.f4,(lA (by omega)).trans h.f5,(lA (by omega)).trans h.f6,fun o=>aH.trans (h.ff o)⟩
theorem lH.set5 (h:lH w cb nodes mb e y room hits misses) (x:Int):lH (w.setCell ⟨cb,5,none⟩ (.int .i64 x)) cb nodes mb e y room x misses:=
 ⟨(lA (by omega)).trans h.f0,(lA (by omega)).trans h.f1,(lA (by omega)).trans h.f2,(lA (by omega)).trans h.f3,(lA (by omega)).trans h.f4,fE h.f5,(lA (by omega)).trans h.f6,fun o=>aH.trans (h.ff o)⟩
theorem lH.set6 (h:lH w cb nodes mb e y room hits misses) (x:Int):lH (w.setCell ⟨cb,6,none⟩ (.int .i64 x)) cb nodes mb e y room hits x:=
 ⟨(lA (by omega)).trans h.f0,(lA (by omega)).trans h.f1,(lA (by omega)).trans h.f2,(lA (by omega)).trans h.f3,(lA (by omega)).trans h.f4,(lA (by omega)).trans h.f5,fE h.f6,fun o=>aH.trans (h.ff o)⟩
end
structure dA (S:Nat->Prop) (w w':World):Prop where
 os:w'.os=w.os
 tape:w'.tape=w.tape
 output:w'.output=w.output
 size:w.heap.size<=w'.heap.size
 block:∀k,k<w.heap.size->¬S k->w'.heap[k]?=w.heap[k]?
theorem dA.refl (S:Nat->Prop) (w:World):dA S w w:=⟨rfl,rfl,rfl,Nat.le_refl _,fun _ _ _=>rfl⟩
theorem dA.trans {S:Nat->Prop} {a b c:World} (h:dA S a b) (k:dA S b c):dA S a c:=
 ⟨k.os.trans h.os,k.tape.trans h.tape,k.output.trans h.output,Nat.le_trans h.size k.size,fun i hi hs=>(k.block i (Nat.lt_of_lt_of_le hi h.size) hs).trans (h.block i hi hs)⟩
theorem dA.mono {S T:Nat->Prop} {a b:World} (h:dA S a b) (hst:∀k,k<a.heap.size->S k->T k):dA T a b:=⟨h.os,h.tape,h.output,h.size,fun i hi hs=>h.block i hi fun hi'=>hs (hst i hi hi')⟩
theorem dA.set {S:Nat->Prop} {a w:World} (h:dA S a w) {p:Addr} (hp:S p.block) (v:Value):dA S a (w.setCell p v):=
 h.trans ⟨rfl,rfl,rfl,by simp[World.setCell],fun k hk hs=>Below.heap_setCell _ _ _ _ (fun e=>hs (e▸hp))⟩
theorem dA.alloc {S:Nat->Prop} {a w:World} (h:dA S a w) (o:Obj):dA S a (w.alloc o):=
 h.trans ⟨rfl,rfl,rfl,by simp,fun k hk hs=>Below.heap_alloc _ _ _ hk⟩
theorem dA.drewN {S:Nat->Prop} {a w:World} (h:dA S a w) (n:Nat):dA S a (w.drewN n):=⟨h.os,h.tape,h.output,h.size,h.block⟩
theorem dA.drew {S:Nat->Prop} {a w:World} (h:dA S a w):dA S a w.drew:=⟨h.os,h.tape,h.output,h.size,h.block⟩
theorem dA.of_below {S:Nat->Prop} {w w':World} (h:Below w.heap.size w w'):dA S w w':=⟨h.os,h.tape,h.output,h.size,fun k hk _=>h.block k hk⟩
theorem dA.below {S:Nat->Prop} {w w':World} {B:Nat} (h:dA S w w') (hB:B<=w.heap.size) (hs:∀k,S k->B<=k):Below B w w':=
 ⟨h.os,h.tape,h.output,h.size,fun k hk=>h.block k (by omega) fun hk'=>by have:=hs k hk';omega⟩
def fD (N:Nat->Nd) (p:Nat) (x:Int):Nat->Nd:=upd N p {N p with yo:=x}
def E3 (N:Nat->Nd) (p:Nat) (x:Int):Nat->Nd:=upd N p {N p with el:=x}
def uV (N:Nat->Nd) (el yo:Int):Nat->Nd:=if el= -1 then N else fD N el.toNat yo
def jQ (N:Nat->Nd) (el yo:Int):Nat->Nd:=if yo= -1 then uV N el yo else E3 (uV N el yo) yo.toNat el
def gM (N:Nat->Nd) (i:Nat):Nat->Nd:=jQ N (N i).el (N i).yo
def Pl (m:Nat) (x:Int):Prop:=x= -1\/∃k:Nat,x=k/\k<m
def Two (cb nb:Nat) (k:Nat):Prop:=k=cb\/k=nb
structure fC (w:World) (cb nb mb m cap:Nat) (N:Nat->Nd) (e y room hits misses:Int):Prop where
 f:lH w cb (.slice (some ⟨nb,0,none⟩) m cap) mb e y room hits misses
 n:Nds w nb m cap N
 ne:cb≠nb
theorem fC.cells {w:World} {cb nb mb m cap:Nat} {N:Nat->Nd} {e y room hits misses:Int} (h:fC w cb nb mb m cap N e y room hits misses) {i:Nat} (hi:i<m):
  w.cell? ⟨nb,i*4,none⟩=some (.string (N i).key)/\w.cell? ⟨nb,i*4+1,none⟩=some (.slice (N i).ro (N i).rn (N i).rc)/\w.cell? ⟨nb,i*4+2,none⟩=some (.int .i64 (N i).el)/\w.cell? ⟨nb,i*4+3,none⟩=some (.int .i64 (N i).yo):=
 ⟨h.n.cell hi (j:=0) (by omega),h.n.cell hi (j:=1) (by omega),h.n.cell hi (j:=2) (by omega),h.n.cell hi (j:=3) (by omega)⟩
section
variable {w:World} {cb nb mb m cap:Nat} {N:Nat->Nd} {e y room hits misses:Int}
theorem fC.lt (h:fC w cb nb mb m cap N e y room hits misses):cb<w.heap.size:=World.block_lt_of_cell? w _ h.f.f0
theorem fC.stay {w':World} (h:fC w cb nb mb m cap N e y room hits misses) (h1:w'.heap[cb]?=w.heap[cb]?) (h2:w'.heap[nb]?=w.heap[nb]?):fC w' cb nb mb m cap N e y room hits misses:=
 ⟨h.f.stay h1,h.n.stay h2,h.ne⟩
theorem fC.alloc (h:fC w cb nb mb m cap N e y room hits misses) (o:Obj):fC (w.alloc o) cb nb mb m cap N e y room hits misses:=
 h.stay (Below.heap_alloc _ _ _ h.lt) (Below.heap_alloc _ _ _ h.n.lt)
theorem fC.drew (h:fC w cb nb mb m cap N e y room hits misses):fC w.drew cb nb mb m cap N e y room hits misses:=h.stay rfl rfl
theorem fC.setE (h:fC w cb nb mb m cap N e y room hits misses) (x:Int):fC (w.setCell ⟨cb,2,none⟩ (.int .i64 x)) cb nb mb m cap N x y room hits misses:=
 ⟨h.f.set2 x,h.n.stay (cA h.ne.symm),h.ne⟩
theorem fC.setY (h:fC w cb nb mb m cap N e y room hits misses) (x:Int):fC (w.setCell ⟨cb,3,none⟩ (.int .i64 x)) cb nb mb m cap N e x room hits misses:=
 ⟨h.f.set3 x,h.n.stay (cA h.ne.symm),h.ne⟩
theorem fC.setEl (h:fC w cb nb mb m cap N e y room hits misses) {k:Nat} (hk:k<m) (x:Int):fC (w.setCell ⟨nb,k*4+2,none⟩ (.int .i64 x)) cb nb mb m cap (E3 N k x) e y room hits misses:=
 ⟨h.f.stay (cA h.ne),h.n.store hk (j:=2) (by omega) _ _ rfl,h.ne⟩
theorem fC.setYo (h:fC w cb nb mb m cap N e y room hits misses) {k:Nat} (hk:k<m) (x:Int):fC (w.setCell ⟨nb,k*4+3,none⟩ (.int .i64 x)) cb nb mb m cap (fD N k x) e y room hits misses:=
 ⟨h.f.stay (cA h.ne),h.n.store hk (j:=3) (by omega) _ _ rfl,h.ne⟩
end
theorem I9 {cb nb mb m cap:Nat} {N:Nat->Nd} {e y room hits misses:Int} (w:World) (h:fC w cb nb mb m cap N e y room hits misses) (i:Nat) (hi:i<m) (hel:Pl m (N i).el) (hyo:Pl m (N i).yo):
  Calls Tryz.prog 214 #[.pointer (some ⟨cb,0,none⟩), .int .i64 i] w fun en w'=>en= .returned (.tuple #[])/\
   fC w' cb nb mb m cap (gM N i) (if(N i).el= -1 then(N i).yo else e) (if(N i).yo= -1 then(N i).el else y) room hits misses/\dA (Two cb nb) w w':=by
 obtain⟨c0,c1,c2,c3⟩:=h.cells hi;obtain⟨f0,f1,f2,f3,f4,f5,f6,ff⟩:=id h.f;have nf:=h.n.free;have hle:=h.n.le;have hmax:=h.n.max;unfold maxLen at hmax;have hne:=h.ne;have hne2:=hne.symm;have hlt:=h.n.lt;have hlt2:=h.lt;have him:(i:Int)<(m:Int):=by omega
 obtain⟨el,hel'⟩:∃x,(N i).el=x:=⟨_,rfl⟩;obtain⟨yo,hyo'⟩:∃x,(N i).yo=x:=⟨_,rfl⟩;rw[hel']at c2 hel;rw[hyo']at c3 hyo;rw[hel',hyo'];have hunl:gM N i=jQ N el yo:=by unfold gM;rw[hel',hyo']
 rw[hunl];clear hunl hel' hyo';have H:=hW_ h;clear h;rcases hel with rfl | ⟨p,rfl,hp⟩
 ·rcases hyo with rfl | ⟨q,rfl,hq⟩
  ·go_enter Tryz.func214,Tryz.ntmps214;go_wp2
   go_end0
   refine⟨rfl,?_,?_⟩
   ·have:=((H.out.setE (-1)).setY (-1)).alloc (.cells #[.string (N i).key, .slice (N i).ro (N i).rn (N i).rc, .int .i64 (-1), .int .i64 (-1)] 283);simpa[jQ,uV]using this
   ·exact((((dA.refl (Two cb nb) w).set (p:=⟨cb,2,none⟩) (Or.inl rfl) _).set (p:=⟨cb,3,none⟩) (Or.inl rfl) _).alloc _)
  ·have hqm:(q:Int)<(m:Int):=by omega
   have hq1:((q:Int)== -1)=false:=by simp
   have hq2:¬(q:Int)= -1:=by omega
   have g2:=(H.out.cells hq).2.2.1;go_enter Tryz.func214,Tryz.ntmps214;go_wp2;go_region
   all_goals go_wp2
   all_goals
    go_end0
    have e1:jQ N (-1) (q:Int)=E3 N q (-1):=by simp[jQ,uV,hq2]
    rw[e1];exact⟨rfl,(((H.out.setE _).setEl hq _).alloc _).drew,((((dA.refl (Two cb nb) w).set (p:=⟨cb,2,none⟩) (Or.inl rfl) _).set (p:=⟨nb,q*4+2,none⟩) (Or.inr rfl) _).alloc _).drew⟩
 ·have hpm:(p:Int)<(m:Int):=by omega
  have hp1:((p:Int)== -1)=false:=by simp
  have hp2:¬(p:Int)= -1:=by omega
  have g3:=(H.out.cells hp).2.2.2;rcases hyo with rfl | ⟨q,rfl,hq⟩
  ·go_enter Tryz.func214,Tryz.ntmps214;go_wp2;go_region
   all_goals go_wp2
   all_goals
    go_end0
    have e1:jQ N (p:Int) (-1)=fD N p (-1):=by simp[jQ,uV,hp2]
    rw[e1];exact⟨rfl,(((H.out.setYo hp _).setY _).alloc _).drew,((((dA.refl (Two cb nb) w).set (p:=⟨nb,p*4+3,none⟩) (Or.inr rfl) _).set (p:=⟨cb,3,none⟩) (Or.inl rfl) _).alloc _).drew⟩
  ·have hqm:(q:Int)<(m:Int):=by omega
   have hq1:((q:Int)== -1)=false:=by simp
   have hq2:¬(q:Int)= -1:=by omega
   have g2:=(H.out.cells hq).2.2.1;go_enter Tryz.func214,Tryz.ntmps214;go_wp2;go_region
   all_goals go_wp2
   all_goals go_region
   all_goals go_wp2
   all_goals
    go_end0
    have e1:jQ N (p:Int) (q:Int)=E3 (fD N p q) q p:=by simp[jQ,uV,hp2,hq2]
    rw[e1];exact⟨rfl,((((H.out.setYo hp _).setEl hq _).alloc _).drew).drew,(((((dA.refl (Two cb nb) w).set (p:=⟨nb,p*4+3,none⟩) (Or.inr rfl) _).set (p:=⟨nb,q*4+2,none⟩) (Or.inr rfl) _).alloc _).drew).drew⟩
def oK (N:Nat->Nd) (i:Nat) (y:Int):Nat->Nd:=
 if y= -1 then fD (E3 N i y) i (-1)else fD (fD (E3 N i y) i (-1)) y.toNat i
theorem iJ {cb nb mb m cap:Nat} {N:Nat->Nd} {e y room hits misses:Int} (w:World) (h:fC w cb nb mb m cap N e y room hits misses) (i:Nat) (hi:i<m) (hy:Pl m y) (hyi:y≠i):
  Calls Tryz.prog 215 #[.pointer (some ⟨cb,0,none⟩), .int .i64 i] w fun en w'=>en= .returned (.tuple #[])/\
   fC w' cb nb mb m cap (oK N i y) (if y= -1 then i else e) i room hits misses/\dA (Two cb nb) w w':=by
 obtain⟨c0,c1,c2,c3⟩:=h.cells hi;obtain⟨f0,f1,f2,f3,f4,f5,f6,ff⟩:=id h.f;have nf:=h.n.free;have hle:=h.n.le;have hmax:=h.n.max;unfold maxLen at hmax;have hne:=h.ne;have hne2:=hne.symm;have hlt:=h.n.lt;have hlt2:=h.lt;have him:(i:Int)<(m:Int):=by omega
 have H:=hW_ h;clear h;rcases hy with rfl | ⟨q,rfl,hq⟩
 ·go_enter Tryz.func215,Tryz.ntmps215;go_wp2;go_region
  all_goals go_wp2
  all_goals
   go_end0
   have e1:oK N i (-1)=fD (E3 N i (-1)) i (-1):=by simp[oK]
   rw[e1];exact⟨rfl,((((H.out.setEl hi _).setYo hi _).setE _).setY _).drew,(((((dA.refl (Two cb nb) w).set (p:=⟨nb,i*4+2,none⟩) (Or.inr rfl) _).set (p:=⟨nb,i*4+3,none⟩) (Or.inr rfl) _).set (p:=⟨cb,2,none⟩) (Or.inl rfl) _).set (p:=⟨cb,3,none⟩) (Or.inl rfl) _).drew⟩
 ·have hqm:(q:Int)<(m:Int):=by omega
  have hq1:((q:Int)== -1)=false:=by simp
  have hq2:¬(q:Int)= -1:=by omega
  have hqi:¬q=i:=by omega
  have g3:=(H.out.cells hq).2.2.2;go_enter Tryz.func215,Tryz.ntmps215;go_wp2;go_region
  all_goals go_wp2
  all_goals go_region
  all_goals go_wp2
  all_goals
   go_end0
   have e1:oK N i (q:Int)=fD (fD (E3 N i q) i (-1)) q i:=by simp[oK,hq2]
   rw[e1];exact⟨rfl,(((((H.out.setEl hi _).setYo hi _).setYo hq _).setY _).drew).drew,((((((dA.refl (Two cb nb) w).set (p:=⟨nb,i*4+2,none⟩) (Or.inr rfl) _).set (p:=⟨nb,i*4+3,none⟩) (Or.inr rfl) _).set (p:=⟨nb,q*4+3,none⟩) (Or.inr rfl) _).set (p:=⟨cb,3,none⟩) (Or.inl rfl) _).drew).drew⟩
def oF (l:List Nat):Int:=match l.getLast? with | none=> -1 | some x=>x
def hdD (l:List Nat):Int:=match l with | []=> -1 | x::_=>x
theorem kB {α:Type} (l:List α):l= []\/∃l' x,l=l'++ [x]:=by
 rcases List.eq_nil_or_concat l with h | ⟨l',x,h⟩
 ·exact .inl h
 ·exact .inr ⟨l',x,by rw[h,List.concat_eq_append]⟩
theorem aE:oF []= -1:=rfl
theorem rB (l:List Nat) (x:Nat):oF (l++ [x])=x:=by simp[oF]
theorem bE (l:List Nat) (x:Nat) (r:List Nat):oF (l++x::r)=oF (x::r):=by
 simp[oF,List.getLast?_append,List.getLast?_cons]
theorem hdD_app (x:Nat) (l r:List Nat):hdD ((x::l)++r)=x:=rfl
theorem bL {l:List Nat} {m:Nat} (h:∀k∈l,k<m):Pl m (oF l):=by
 rcases kB l with rfl | ⟨l',x,rfl⟩
 ·exact .inl rfl
 ·exact .inr ⟨x,rB _ _,h x (by simp)⟩
theorem aBp {l:List Nat} {m:Nat} (h:∀k∈l,k<m):Pl m (hdD l):=by
 cases l with
 | nil=>exact .inl rfl
 | cons x l=>exact .inr ⟨x,rfl,h x (by simp)⟩
structure J0 (ord:List Nat) (N:Nat->Nd) (e y:Int):Prop where
 nd:ord.Nodup
 e_:e=hdD ord
 y_:y=oF ord
 at_:∀pre i post,ord=pre++i::post->(N i).el=oF pre/\(N i).yo=hdD post
theorem vU (N:Nat->Nd) (p:Nat) (x:Int) (j:Nat):(fD N p x j).el=(N j).el:=by unfold fD upd;split<;>simp_all
theorem K9 (N:Nat->Nd) (p:Nat) (x:Int) (j:Nat):(fD N p x j).yo=if j=p then x else(N j).yo:=by unfold fD upd;split<;>simp_all
theorem wU (N:Nat->Nd) (p:Nat) (x:Int) (j:Nat):(E3 N p x j).el=if j=p then x else(N j).el:=by unfold E3 upd;split<;>simp_all
theorem wO (N:Nat->Nd) (p:Nat) (x:Int) (j:Nat):(E3 N p x j).yo=(N j).yo:=by unfold E3 upd;split<;>simp_all
def Nd.held (n:Nd):ByteArray×Option Addr×Nat×Nat:=(n.key,n.ro,n.rn,n.rc)
theorem uP (N:Nat->Nd) (p:Nat) (x:Int) (j:Nat):(fD N p x j).held=(N j).held:=by unfold fD upd Nd.held;split<;>simp_all
theorem vP (N:Nat->Nd) (p:Nat) (x:Int) (j:Nat):(E3 N p x j).held=(N j).held:=by unfold E3 upd Nd.held;split<;>simp_all
theorem jF (N:Nat->Nd) (i j:Nat):(gM N i j).held=(N j).held:=by
 unfold gM jQ uV;split<;>split<;>simp[uP,vP]
theorem sE (N:Nat->Nd) (i:Nat) (y:Int) (j:Nat):(oK N i y j).held=(N j).held:=by
 unfold oK;split<;>simp[uP,vP]
theorem unl_el {N:Nat->Nd} {i:Nat} {pre post:List Nat} (he:(N i).el=oF pre) (hy:(N i).yo=hdD post) (j:Nat):(gM N i j).el=if(j:Int)=hdD post then oF pre else(N j).el:=by
 unfold gM jQ uV;rw[he,hy];have hN:∀x:Int,((if oF pre= -1 then N else fD N (oF pre).toNat x) j).el=(N j).el:=by
  intro x
  by_cases h:oF pre= -1
  ·rw[if_pos h]
  ·rw[if_neg h,vU]
 cases post with
 | nil=>
  rw[if_pos (show hdD []= -1 from rfl),if_neg (show¬(j:Int)=hdD [] from by simp[hdD])];exact hN _
 | cons q r=>
  rw[if_neg (show¬hdD (q::r)= -1 from by show¬(q:Int)= -1;omega),wU];have hq:(hdD (q::r)).toNat=q:=rfl;rw[hq]
  by_cases e:j=q
  ·rw[if_pos e,if_pos (show(j:Int)=hdD (q::r) from by rw[e];rfl)]
  ·rw[if_neg e,if_neg (show¬(j:Int)=hdD (q::r) from fun h=>e (Int.ofNat.inj h))];exact hN _
theorem unl_yo {N:Nat->Nd} {i:Nat} {pre post:List Nat} (he:(N i).el=oF pre) (hy:(N i).yo=hdD post) (j:Nat):(gM N i j).yo=if(j:Int)=oF pre then hdD post else(N j).yo:=by
 unfold gM jQ uV;rw[he,hy];have key:((if oF pre= -1 then N else fD N (oF pre).toNat (hdD post)) j).yo=if(j:Int)=oF pre then hdD post else(N j).yo:=by
  rcases kB pre with rfl | ⟨pre',p,rfl⟩
  ·rw[if_pos (show oF []= -1 from rfl),if_neg (show¬(j:Int)=oF [] from by rw[aE];omega)]
  ·rw[rB,if_neg (by omega),K9,Int.toNat_natCast]
   by_cases e:j=p
   ·rw[if_pos e,if_pos (by rw[e])]
   ·rw[if_neg e,if_neg (by omega)]
 by_cases h:hdD post= -1
 ·rw[if_pos h,key]
 ·rw[if_neg h,wO,key]
theorem gV {α:Type} {pre' post' pre post:List α} {j:α} (h:pre++post=pre'++j::post'):
  (∃a,pre=pre'++j::a/\post'=a++post)\/(∃c,pre'=pre++c/\post=c++j::post'):=by
 rcases List.append_eq_append_iff.1 h with⟨a,h1,h2⟩ | ⟨a,h1,h2⟩
 ·exact .inr ⟨a,h1,h2⟩
 ·cases a with
  | nil=>
   simp at h1 h2;exact .inr ⟨[],by simp[h1],by simp[h2]⟩
  | cons b a=>
   simp at h2;obtain⟨rfl,h2⟩:=h2;exact .inl ⟨a,h1,h2⟩
theorem J0.unlink {pre post:List Nat} {i:Nat} {N:Nat->Nd} {e y:Int} (h:J0 (pre++i::post) N e y):
  J0 (pre++post) (gM N i) (if(N i).el= -1 then(N i).yo else e) (if(N i).yo= -1 then(N i).el else y):=by
 obtain⟨he,hy⟩:=h.at_ pre i post rfl;have hnd:=h.nd;have hnd2:(pre++post).Nodup:=by
  have:(pre++post).Sublist (pre++i::post):=(List.Sublist.refl _).append (List.sublist_cons_self _ _);exact hnd.sublist this
 have hdis:∀x∈pre,x∉post:=by
  intro x hx hx2;exact(List.nodup_append.1 hnd2).2.2 x hx x hx2 rfl
 refine⟨hnd2,?_,?_,?_⟩
 ·rw[he,hy,h.e_];rcases kB pre with rfl | ⟨pre',p,rfl⟩
  ·simp[aE]
  ·rw[rB,if_neg (by omega)]
   cases pre'<;>simp[hdD]
 ·rw[he,hy,h.y_]
  cases post with
  | nil=>simp[hdD]
  | cons q r=>
   rw[if_neg (show¬hdD (q::r)= -1 from by show¬(q:Int)= -1;omega),bE,bE];show oF ([i]++q::r)=_;rw[bE]
 ·intro pre' j post' hs;rw[unl_el he hy,unl_yo he hy];rcases gV hs with⟨a,rfl,rfl⟩ | ⟨c,rfl,rfl⟩
  ·have ho:=h.at_ pre' j (a++i::post) (by simp);have hj:j∉post:=hdis j (by simp);have h1:¬(j:Int)=hdD post:=by
    cases post with
    | nil=>simp[hdD]
    | cons q r=>
     simp only[hdD,Int.natCast_inj];intro e;exact hj (by simp[e])
   rw[if_neg h1];refine⟨ho.1,?_⟩
   cases a with
   | nil=>
    rw[rB,if_pos rfl];simp
   | cons b a=>
    have h2:¬(j:Int)=oF (pre'++j::b::a):=by
     rw[bE];show¬(j:Int)=oF ([j]++b::a);rw[bE];intro e;have hja:j∉b::a:=by
      have h3:(pre'++j::b::a).Nodup:=(List.nodup_append.1 hnd2).1;have h4:=(List.nodup_append.1 h3).2.1;exact(List.nodup_cons.1 h4).1
     rcases kB (b::a)with h5 | ⟨l',x,h5⟩
     ·simp at h5
     ·rw[h5,rB]at e;have e':j=x:=by omega
      exact hja (by rw[h5,e'];simp)
    rw[if_neg h2,ho.2];rfl
  ·have ho:=h.at_ (pre++i::c) j post' (by simp);have hj:j∉pre:=fun hx=>hdis j hx (by simp)
   have h1:¬(j:Int)=oF pre:=by
    rcases kB pre with rfl | ⟨l',x,rfl⟩
    ·rw[aE];omega
    ·rw[rB];intro e;exact hj (by simp;omega)
   rw[if_neg h1];refine⟨?_,ho.2⟩
   cases c with
   | nil=>simp[hdD]
   | cons b c=>
    have h2:¬(j:Int)=hdD ((b::c)++j::post'):=by
     rw[hdD_app];intro e;have e':j=b:=by omega
     have h3:=(List.nodup_append.1 hnd2).2.1;subst e';exact(List.nodup_cons.1 h3).1 (by simp)
    rw[if_neg h2,ho.1,bE,bE];show oF ([i]++b::c)=_;rw[bE]
theorem J0.link {ord:List Nat} {i:Nat} {N:Nat->Nd} {e y:Int} (h:J0 ord N e y) (hi:i∉ord):J0 (ord++ [i]) (oK N i y) (if y= -1 then(i:Int)else e) i:=by
 have hy:=h.y_;have hnd:(ord++ [i]).Nodup:=by
  rw[List.nodup_append];exact⟨h.nd,by simp,fun a ha b hb=>by simp at hb;subst hb;exact fun e=>hi (e▸ha)⟩
 have hyi:¬(i:Int)=y:=by
  rw[hy];rcases kB ord with rfl | ⟨l',x,rfl⟩
  ·rw[aE];omega
  ·rw[rB];intro e;exact hi (by simp;omega)
 have el:∀j,(oK N i y j).el=if j=i then y else(N j).el:=by
  intro j;unfold oK;split<;>simp[vU,wU]
 have yo:∀j,(oK N i y j).yo=if(j:Int)=y then(i:Int)else if j=i then -1 else(N j).yo:=by
  intro j;unfold oK
  by_cases h1:y= -1
  ·have:¬(j:Int)= -1:=by omega
   rw[if_pos h1,K9,wO,h1,if_neg this]
  ·rw[if_neg h1,K9,K9,wO];have h2:(j=y.toNat)↔((j:Int)=y):=by
    rw[hy]at h1 |-;rcases kB ord with rfl | ⟨l',x,rfl⟩
    ·exact absurd aE h1
    ·rw[rB];omega
   simp only[h2]
 refine⟨hnd,?_,by rw[rB],?_⟩
 ·rw[h.e_,hy];rcases kB ord with rfl | ⟨l',x,rfl⟩
  ·simp[aE,hdD]
  ·rw[rB,if_neg (by omega)]
   cases l'<;>simp[hdD]
 ·intro pre j post hs;rw[el,yo];rcases gV hs with⟨a,rfl,rfl⟩ | ⟨c,rfl,hc⟩
  ·have hj:¬j=i:=fun e=>hi (by simp[e])
   have ho:=h.at_ pre j a rfl;rw[if_neg hj,if_neg hj];refine⟨ho.1,?_⟩
   cases a with
   | nil=>
    have:(j:Int)=y:=by rw[hy,rB]
    rw[if_pos this];rfl
   | cons b a=>
    have:¬(j:Int)=y:=by
     rw[hy,bE];show¬(j:Int)=oF ([j]++b::a);rw[bE];intro e;have h3:=(List.nodup_append.1 h.nd).2.1;have hja:=(List.nodup_cons.1 h3).1;rcases kB (b::a)with h5 | ⟨l',x,h5⟩
     ·simp at h5
     ·rw[h5,rB]at e;have e':j=x:=by omega
      exact hja (by rw[h5,e'];simp)
    rw[if_neg this,ho.2];rfl
  ·cases c with
   | nil=>
    simp at hc;obtain⟨rfl,rfl⟩:=hc;rw[if_neg hyi,if_pos rfl,if_pos rfl,hy];simp[hdD]
   | cons b c=>
    simp at hc
open Go.RowKit Go.Maps Go.ChangeMaps Go.WideMaps
set_option linter.unusedSimpArgs false
theorem lawS:Keyed Tryz.prog 9:=string_keyed Tryz.underlying9
theorem zeroSI (w:World):(zeroValue 3).run Tryz.prog w= .ok (.int .i64 0) w:=by kernel_rfl
def rK (s:ByteArray):Lit:= .string s.data.toList
theorem Y7 {s t:ByteArray} (h:rK s=rK t):s=t:=by
 simp only[rK,Lit.string.injEq]at h;have h2:s.data=t.data:=Array.toList_inj.1 h
 cases s;cases t;simp_all
def dF (w:World) (mb sz:Nat) (f:ByteArray->Option Int):Prop:=
 ∃D:DataW Unit,w.ownsMap Tryz.prog 9 (plainElem Tryz.prog 3) mb sz D/\Tidy D/\size D=sz/\
  ∀s,has D (rK s)=(f s).isSome/\∀c,f s=some c->D.atKey (rK s) (.lit (.int .i64 0))= .lit (.int .i64 c)
theorem dF.stay {w w':World} {mb sz:Nat} {f:ByteArray->Option Int} (h:dF w mb sz f) (hb:w'.heap[mb]?=w.heap[mb]?):dF w' mb sz f:=by
 obtain⟨D,⟨es,clock,h1,h2⟩,r⟩:=h;exact⟨D,⟨es,clock,hb.trans h1,h2⟩,r⟩
theorem sN {w:World} {b n:Nat} {D:DataW Unit} (h:w.ownsMap Tryz.prog 9 (plainElem Tryz.prog 3) b n D):w.ownsMap Tryz.prog 9 (plainElem Tryz.prog 3) b (size D) D:=by
 obtain⟨es,clock,hb,F,hn,rfl⟩:=h;refine⟨es,clock,hb,F,?_,rfl⟩;rw[size_eq,length_sorted];simp
theorem dF.new (w:World):dF (w.alloc (.map #[] 0)) w.heap.size 0 (fun _=>none):=
 ⟨.map [],World.ownsMap_made _ _ _ _,tidy_empty,rfl,fun s=>⟨rfl,fun c h=>by cases h⟩⟩
section
variable {w:World} {ops:Array Oper} {rest:List Oper} {o:Oper} {a:Act} {Q:Exit->Act->World->Prop}
theorem E1 (hg:o.guard=none) (m x:Operand) (hop:o.op=Op.lookup 177 m x true) {mb sz:Nat} {f:ByteArray->Option Int} (hm:a.eval m= .map (some mb)) (h:dF w mb sz f)
  {s:ByteArray} (hx:a.eval x= .string s) (hs:s.size<=maxLen)
  (hK:wpList Tryz.prog ops Q rest (a.put o.dst (.tuple #[.int .i64 ((f s).getD 0), .bool (f s).isSome])) w):wpList Tryz.prog ops Q (o::rest) a w:=by
 obtain⟨D,h1,h2,h3,h4⟩:=h;refine wpList_lookup_own_ok_int w hg m x 177 hop 9 3 .i64 lawS Tryz.underlying177 Tryz.underlying3 (zeroSI w) mb sz D hm h1 _ (rK s) hx (keyOf_string_mk Tryz.underlying9 hs) ?_
 intro c hat _;have hh:=h4 s;rw[hh.1];have hc:c=(f s).getD 0:=by
  cases hf:f s with
  | none=>
   rw[hf]at hh;rw[atKey_of_not_has (by simpa using hh.1)]at hat;simpa using hat.symm
  | some c'=>
   have:=hh.2 c' hf;rw[this]at hat;simpa using hat.symm
 rw[hc];exact hK
theorem bI (hg:o.guard=none) (m x v:Operand) (hop:o.op=Op.mapUpdate 177 m x v) {mb sz:Nat} {f:ByteArray->Option Int} (hm:a.eval m= .map (some mb)) (h:dF w mb sz f)
  {s:ByteArray} (hx:a.eval x= .string s) (hs:s.size<=maxLen) {c:Int} (hv:a.eval v= .int .i64 c) (hc:(Lit.int .i64 c).wf=true) (hn:sz<maxLen)
  (hK:∀w',dF w' mb (if(f s).isSome then sz else sz+1) (fun t=>if t=s then some c else f t)->w.grownBy w' (some mb)->wpList Tryz.prog ops Q rest (a.put o.dst undef) w'):wpList Tryz.prog ops Q (o::rest) a w:=by
 obtain⟨D,h1,h2,h3,h4⟩:=h;refine wpList_mapUpdate_own w hg m x v 177 hop 9 3 lawS Tryz.underlying177 _ mb sz D hm h1 hn _ _ (rK s) hx hv (keyOf_string_mk Tryz.underlying9 hs) _ [] (plainElem_int Tryz.underlying3 hc) ?_
 intro w' hown hgrow;have e:size (D.put (rK s) (.lit (.int .i64 c)))=if(f s).isSome then sz else sz+1:=by
  rw[size_put h2,(h4 s).1,h3]
 refine hK w' ⟨D.put (rK s) (.lit (.int .i64 c)),?_,h2.put (by trivial) _,e,fun t=> ?_⟩ hgrow
 ·have:=sN hown;rw[e]at this;exact this
 ·by_cases e:t=s
  ·subst e;simp only[if_true,Option.isSome_some,Option.some.injEq];refine⟨has_put_same h2.isMap (by trivial) _,fun c' hc'=> ?_⟩;subst hc';exact atKey_put_same h2.isMap (by trivial) _ _
  ·have hne:rK t≠rK s:=fun h=>e (Y7 h)
   simp only[e,if_false];rw[has_put_other hne];exact⟨(h4 t).1,fun c' hc'=>by rw[atKey_put_other hne];exact(h4 t).2 c' hc'⟩
theorem cT (hg:o.guard=none) (m x:Operand) (hop:o.op=Op.call {callee:=Callee.builtin Builtin.delete,args:=#[m,x],argTypes:=#[177,9]}) {mb sz:Nat} {f:ByteArray->Option Int} (hm:a.eval m= .map (some mb)) (h:dF w mb sz f)
  {s:ByteArray} (hx:a.eval x= .string s) (hs:s.size<=maxLen)
  (hK:∀w',dF w' mb (if(f s).isSome then sz-1 else sz) (fun t=>if t=s then none else f t)->w.mapTurned w' mb->wpList Tryz.prog ops Q rest (a.put o.dst (.tuple #[])) w'):wpList Tryz.prog ops Q (o::rest) a w:=by
 obtain⟨D,h1,h2,h3,h4⟩:=h;refine wpList_delete_own w hg m x 177 9 hop 3 lawS Tryz.underlying177 _ mb sz D hm h1 _ (rK s) hx (keyOf_string_mk Tryz.underlying9 hs) ?_
 intro w' hown hturn;have e:size (D.del (rK s))=if(f s).isSome then sz-1 else sz:=by
  have:=size_del (k:=rK s) h2;rw[(h4 s).1,h3]at this;split at this<;>simp_all<;>omega
 refine hK w' ⟨D.del (rK s),?_,h2.del _,e,fun t=> ?_⟩ hturn
 ·have:=sN hown;rw[e]at this;exact this
 ·by_cases e:t=s
  ·subst e;simp only[if_true,Option.isSome_none];exact⟨has_del_same,fun c' hc'=>by cases hc'⟩
  ·have hne:rK t≠rK s:=fun h=>e (Y7 h)
   simp only[e,if_false];rw[has_del_other hne];exact⟨(h4 t).1,fun c' hc'=>by rw[atKey_del_other hne];exact(h4 t).2 c' hc'⟩
end
theorem dF.run_len {w:World} {mb sz:Nat} {f:ByteArray->Option Int} (h:dF w mb sz f) (ty:TypeId):(Builtin.len_ #[177] ty #[.map (some mb)]).run Tryz.prog w= .ok (.int .i64 sz) w:=by
 obtain⟨D,h1,h2,h3,h4⟩:=h;have:=h1.len Tryz.underlying177 ty;rw[h3]at this;exact this
theorem eq_of_ix {A B:List Int} (hl:A.length=B.length) (h:∀i,i<A.length->ix A i=ix B i):A=B:=by
 apply List.ext_getElem?;intro i
 by_cases hi:i<A.length
 ·rw[gF hi,gF (by omega),h i hi]
 ·rw[List.getElem?_eq_none (by omega),List.getElem?_eq_none (by omega)]
theorem Q3:(Tryz.prog.info? 3).map (fun i=>(i.zero,i.size,i.bytes))=some (some (.int .i64 0),1,8):=by kernel_rfl
theorem aDp (w:World):Own (w.alloc (.cells #[] 3)) w.heap.size (.slice (some ⟨w.heap.size,0,none⟩) 0 0) []:=
 World.ownsRow_made w #[] 0 (Nat.le_refl _) (by unfold maxLen;omega) rfl
theorem aEi (c:Nat) (w:World):
  Calls Tryz.prog 54 #[.slice none 0 c] w fun e w'=>∃v,e= .returned v/\Own w' w.heap.size v []/\Below w.heap.size w w':=by
 have hsn:=fun w=>Lib.run_eql_slice_nil (P:=Tryz.prog) w 34 3 none 0 c 0 0 Tryz.underlying34
 go_enter Tryz.func54,Tryz.ntmps54;go_wp2;go_ret;exact⟨_,rfl,Own.nil _ _,Below.refl _ _⟩
theorem aBv {A:List Int} {ad:Addr} {n c:Nat} (w:World) (hA:SlI w (some ad) n c A) (hreach:n*8<=140737488355328):
  Calls Tryz.prog 54 #[.slice (some ad) n c] w fun e w'=>∃v,e= .returned v/\Own w' w.heap.size v A/\Below w.heap.size w w':=by
 have hmA:=Nat.le_trans hA.le hA.max;have hlA:=hW_ hA.len;unfold maxLen at hmA;obtain⟨i0,hi,hz0,hz1,hz2⟩:=info_parts Q3;have hsn:=fun w=>Lib.run_eql_slice_nil (P:=Tryz.prog) w 34 3 (some ad) n c 0 0 Tryz.underlying34
 have hown:=aDp w;have hA2:=hA.alloc (.cells #[] 3);go_enter Tryz.func54,Tryz.ntmps54;go_wp2_with (at_builtin;refine aR rfl _ _ 34 rfl w.heap.size 3 i0 (.int .i64 0) 8 Tryz.underlying34 hi hz0 hz1 hz2 rfl _ 0 [] rfl hown (some ad) n c _ rfl hA2 (Q1 A) (by unfold maxLen;omega) (by omega) (by simp) ?_);intro v' w' ho hg _;go_wp2;go_ret;refine⟨_,rfl,?_,(aA w _).grown hg (by simp) (by simp[Value.ownBlock])⟩;unfold Own;rw[hlA.out];simpa using ho
theorem dO {A:List Int} {ao:Option Addr} {n c:Nat} (w:World) (hA:SlI w ao n c A) (hreach:n*8<=140737488355328):
  Calls Tryz.prog 54 #[.slice ao n c] w fun e w'=>∃v,e= .returned v/\Own w' w.heap.size v A/\Below w.heap.size w w':=by
 cases ao with
 | some ad=>exact aBv w hA hreach
 | none=>
  have hc:=Sl.nil hA rfl;have hn:n=0:=by have:=Sl.le hA;omega
  subst hn;have:A= []:=List.eq_nil_of_length_eq_zero hA.len;subst this;exact aEi c w
theorem uE {A:List Int} {ao:Option Addr} {n c:Nat} (w:World) (hA:SlI w ao n c A) (hreach:n*8<=140737488355328):
  Calls Tryz.prog 54 #[.slice ao n c] w fun e w'=>∃vo vc,e= .returned (.slice vo n vc)/\Own w' w.heap.size (.slice vo n vc) A/\Below w.heap.size w w':=by
 have key:Calls Tryz.prog 54 #[.slice ao n c] w fun e w'=>∃v,e= .returned v/\Own w' w.heap.size v A/\Below w.heap.size w w':=dO w hA hreach
 refine key.mono fun e w' ⟨v,he,ho,hb⟩=> ?_
 obtain⟨vo,vc,rfl,_⟩:=ho.sl;have:=hA.len;subst this;exact⟨vo,vc,he,ho,hb⟩
def Ft (cb mb:Nat) (no:Option Addr) (k:Nat):Prop:=k=cb\/k=mb\/no=some ⟨k,0,none⟩
def aEm (w:World) (base top cb mb:Nat) (no:Option Addr) (m cap:Nat) (N:Nat->Nd):Prop:=
 (no=none/\m=0/\cap=0)\/∃nb,no=some ⟨nb,0,none⟩/\Nds w nb m cap N/\cb≠nb/\mb≠nb/\base<=nb/\nb<top
def RowOK (w:World) (base top cb mb:Nat) (no:Option Addr) (n:Nd) (A:List Int):Prop:=
 SlI w n.ro n.rn n.rc A/\∀ad,n.ro=some ad->base<=ad.block/\ad.block<top/\¬Ft cb mb no ad.block
structure CSt (w:World) (base top cb mb:Nat) (no:Option Addr) (m cap:Nat) (N:Nat->Nd) (e y room hits misses:Int) (ord:List Nat) (sz:Nat) (f:ByteArray->Option Int) (R:Nat->List Int):Prop where
 fl:lH w cb (.slice no m cap) mb e y room hits misses
 nd:aEm w base top cb mb no m cap N
 mp:dF w mb sz f
 ch:J0 ord N e y
 lt:∀i∈ord,i<m
 cm:cb≠mb
 bc:base<=cb/\cb<top
 bm:base<=mb/\mb<top
 rows:∀i,i<m->RowOK w base top cb mb no (N i) (R i)
 keys:∀i,i<m->(N i).key.size<=maxLen
theorem SlI.keep {w w':World} {ao:Option Addr} {n cap:Nat} {A:List Int} (h:SlI w ao n cap A) (hb:∀ad,ao=some ad->w'.heap[ad.block]?=w.heap[ad.block]?):SlI w' ao n cap A:=
 ⟨Sl.len h,Sl.le h,Sl.max h,Sl.nil h,fun i u hu=>let ⟨b,o,e,c⟩:=Sl.at_ h i u hu;⟨b,o,e,by rw[World.cell?_of_block (w:=w) (a:=⟨b,o+i,none⟩) (hb ⟨b,o,none⟩ e)];exact c⟩⟩
section
variable {w:World} {base top cb mb m cap sz:Nat} {no:Option Addr} {N:Nat->Nd} {e y room hits misses:Int} {ord:List Nat} {f:ByteArray->Option Int} {R:Nat->List Int}
theorem CSt.below {w':World} (h:CSt w base top cb mb no m cap N e y room hits misses ord sz f R) (hb:Below top w w'):CSt w' base top cb mb no m cap N e y room hits misses ord sz f R:=by
 refine⟨h.fl.stay (hb.block _ h.bc.2),?_,h.mp.stay (hb.block _ h.bm.2),h.ch,h.lt,h.cm,h.bc,h.bm,fun i hi=> ?_,h.keys⟩
 ·rcases h.nd with h' | ⟨nb,h1,h2,h3,h4,h5,h6⟩
  ·exact .inl h'
  ·exact .inr ⟨nb,h1,h2.stay (hb.block _ h6),h3,h4,h5,h6⟩
 ·obtain⟨h1,h2⟩:=h.rows i hi;exact⟨h1.keep fun ad e=>hb.block _ (h2 ad e).2.1,h2⟩
theorem CSt.up {top':Nat} (h:CSt w base top cb mb no m cap N e y room hits misses ord sz f R) (ht:top<=top'):CSt w base top' cb mb no m cap N e y room hits misses ord sz f R:=by
 refine⟨h.fl,?_,h.mp,h.ch,h.lt,h.cm,⟨h.bc.1,by have:=h.bc.2;omega⟩,⟨h.bm.1,by have:=h.bm.2;omega⟩,fun i hi=> ?_,h.keys⟩
 ·rcases h.nd with h' | ⟨nb,h1,h2,h3,h4,h5,h6⟩
  ·exact .inl h'
  ·exact .inr ⟨nb,h1,h2,h3,h4,h5,by omega⟩
 ·obtain⟨h1,h2⟩:=h.rows i hi;exact⟨h1,fun ad e=>⟨(h2 ad e).1,by have:=(h2 ad e).2.1;omega,(h2 ad e).2.2⟩⟩
theorem CSt.cmem (h:CSt w base top cb mb no m cap N e y room hits misses ord sz f R) (hm:0<m):∃nb,no=some ⟨nb,0,none⟩/\fC w cb nb mb m cap N e y room hits misses/\mb≠nb/\base<=nb/\nb<top:=by
 rcases h.nd with⟨_,h',_⟩ | ⟨nb,h1,h2,h3,h4,h5,h6⟩
 ·omega
 ·exact⟨nb,h1,⟨by rw[<-h1];exact h.fl,h2,h3⟩,h4,h5,h6⟩
theorem CSt.relink {w':World} {nb:Nat} {N':Nat->Nd} {e' y':Int} {ord':List Nat} (h:CSt w base top cb mb (some ⟨nb,0,none⟩) m cap N e y room hits misses ord sz f R) (htop:top<=w.heap.size) (hmn:mb≠nb) (hbn:base<=nb/\nb<top)
  (hc:fC w' cb nb mb m cap N' e' y' room hits misses) (hk:dA (Two cb nb) w w') (hN:∀i,(N' i).held=(N i).held) (hch:J0 ord' N' e' y') (hlt:∀i∈ord',i<m):
  CSt w' base top cb mb (some ⟨nb,0,none⟩) m cap N' e' y' room hits misses ord' sz f R:=by
 have hb:∀k,k<top->k≠cb->k≠nb->w'.heap[k]?=w.heap[k]? :=fun k hk1 h1 h2=>hk.block k (by omega) (fun h=>by rcases h with h | h<;>omega)
 have e1:∀i,(N' i).ro=(N i).ro/\(N' i).rn=(N i).rn/\(N' i).rc=(N i).rc/\(N' i).key=(N i).key:=by
  intro i;have:=hN i;simp only[Nd.held,Prod.mk.injEq]at this;exact⟨this.2.1,this.2.2.1,this.2.2.2,this.1⟩
 refine⟨hc.f, .inr ⟨nb,rfl,hc.n,hc.ne,hmn,hbn.1,hbn.2⟩,h.mp.stay (hb mb h.bm.2 (fun e=>h.cm e.symm) hmn),hch,hlt,h.cm,h.bc,h.bm,fun i hi=> ?_,fun i hi=> ?_⟩
 ·obtain⟨h1,h2⟩:=h.rows i hi;obtain⟨a1,a2,a3,a4⟩:=e1 i;refine⟨?_,?_⟩
  ·rw[a1,a2,a3];exact h1.keep fun ad e=>hb _ (h2 ad e).2.1 (fun e'=>(h2 ad e).2.2 (.inl e')) (fun e'=>(h2 ad e).2.2 (.inr (.inr (by rw[e']))))
  ·rw[a1];exact h2
 ·rw[(e1 i).2.2.2];exact h.keys i hi
end
def qQ:Nd:=⟨ByteArray.empty,none,0,0,0,0⟩
theorem new_no (room:Int) (h:room<0\/1048576<room) (w:World):
  Calls Tryz.prog 69 #[.int .i64 room] w fun en w'=>en= .returned (.pointer none)/\Below w.heap.size w w':=by
 by_cases h0:room<0
 ·go_enter Tryz.func69,Tryz.ntmps69;go_wp2;go_ret;exact⟨rfl,Below.refl _ _⟩
 ·have h1:1048576<room:=by omega
  go_enter Tryz.func69,Tryz.ntmps69;go_wp2;go_ret;exact⟨rfl,Below.refl _ _⟩
theorem new_yes (room:Int) (h0:0<=room) (h1:room<=1048576) (w:World) (R:Nat->List Int):
  Calls Tryz.prog 69 #[.int .i64 room] w fun en w'=>∃cb mb,en= .returned (.pointer (some ⟨cb,0,none⟩))/\
   CSt w' w.heap.size w'.heap.size cb mb none 0 0 (fun _=>qQ) (-1) (-1) room 0 0 [] 0 (fun _=>none) R/\Below w.heap.size w w':=by
 have hmm:=@run_makeMap Tryz.prog;go_enter Tryz.func69,Tryz.ntmps69;go_wp2;go_ret;refine⟨w.heap.size+1,w.heap.size,rfl,?_,(aA w _).alloc (aA w _).size _⟩;refine⟨⟨by simp[go_sem],by simp[go_sem],by simp[go_sem],by simp[go_sem],by simp[go_sem],by simp[go_sem],by simp[go_sem],fun o=>by simp[go_sem]⟩, .inl ⟨rfl,rfl,rfl⟩,?_,⟨by simp,rfl,rfl,fun pre i post h=>by simp at h⟩,by simp,by omega,⟨by omega,by simp⟩,⟨by omega,by simp;omega⟩,fun i hi=>by omega,fun i hi=>by omega⟩;exact(dF.new w).stay (Below.heap_alloc _ _ _ (by simp))
section
variable {w:World} {base top cb mb m cap sz:Nat} {no:Option Addr} {N:Nat->Nd} {e y room hits misses:Int} {ord:List Nat} {f:ByteArray->Option Int} {R:Nat->List Int}
end
def E9 (N:Nat->Nd):Nat->List Value
 | 0=>[]
 | m+1=>E9 N m++B9 (N m)
theorem eE (N:Nat->Nd) (m:Nat):(E9 N m).length=m*4:=by
 induction m with
 | zero=>rfl
 | succ m ih=>simp[E9,ih,B9];omega
theorem fV (N:Nat->Nd) {m i j:Nat} (hi:i<m) (hj:j<4):(E9 N m)[i*4+j]?=(B9 (N i))[j]? :=by
 induction m with
 | zero=>omega
 | succ m ih=>
  unfold E9
  by_cases e:i=m
  ·subst e;rw[List.getElem?_append_right (by rw[eE];omega),eE,show i*4+j-i*4=j by omega]
  ·rw[List.getElem?_append_left (by rw[eE];omega)];exact ih (by omega)
theorem cX {N N':Nat->Nd} {m:Nat} (h:∀i,i<m->N i=N' i):E9 N m=E9 N' m:=by
 induction m with
 | zero=>rfl
 | succ m ih=>unfold E9;rw[ih fun i hi=>h i (by omega),h m (by omega)]
theorem Z7 (N:Nat->Nd) (m:Nat) (x:Nd):E9 N m++B9 x=E9 (upd N m x) (m+1):=by
 show _=E9 (upd N m x) m++B9 (upd N m x m);rw[aD,cX (N:=N) (N':=upd N m x) fun i hi=>by rw[B2 _ _ _ _ (by omega)]]
theorem aEm.row {w:World} {base top cb mb m cap:Nat} {no:Option Addr} {N:Nat->Nd} (h:aEm w base top cb mb no m cap N):w.ownsRow base 283 4 (.slice no m cap) m (E9 N m):=by
 refine⟨eE N m,?_⟩;rcases h with⟨rfl,rfl,rfl⟩ | ⟨nb,rfl,h2,h3,h4,h5,h6⟩
 ·exact .inl ⟨rfl,rfl⟩
 ·obtain⟨cur,hb,hl,hc⟩:=h2.blk;refine .inr ⟨nb,cap,cur.toArray,rfl,h5,hb,h2.le,h2.max,by simpa using hl,?_⟩;have hle:=h2.le;have hcl:=eE N m;show cur.take (m*4)=E9 N m;apply List.ext_getElem?;intro k
  by_cases hk:k<m*4
  ·rw[List.getElem?_take,if_pos hk];have e:k=k / 4*4+k % 4:=by omega
   rw[e,hc (k / 4) (by omega) (k % 4) (by omega),fV N (by omega) (by omega)]
  ·rw[List.getElem?_take,if_neg hk,List.getElem?_eq_none (by omega)]
theorem Nds.of_row {w:World} {base g m cap:Nat} {N:Nat->Nd} (h:w.ownsRow base 283 4 (.slice (some ⟨g,0,none⟩) m cap) m (E9 N m)):Nds w g m cap N/\base<=g:=by
 obtain⟨h1,h2⟩:=h;rcases h2 with⟨hv,hn⟩ | ⟨g',cap',cur,hv,hg,hh,hn,hm,hs,ht⟩
 ·simp at hv
 ·simp at hv;obtain⟨rfl,rfl⟩:=hv;refine⟨⟨hn,hm,cur.toList,by simpa using hh,by simpa using hs,fun i hi j hj=> ?_⟩,hg⟩;rw[<-fV N hi hj,<-ht,List.getElem?_take,if_pos (by omega)]
theorem dA.then {S T:Nat->Prop} {a b c:World} (h:dA S a b) (k:dA T b c) (hst:∀i,i<a.heap.size->T i->S i):dA S a c:=
 ⟨k.os.trans h.os,k.tape.trans h.tape,k.output.trans h.output,Nat.le_trans h.size k.size,fun i hi hs=>(k.block i (Nat.lt_of_lt_of_le hi h.size) fun ht=>hs (hst i hi ht)).trans (h.block i hi hs)⟩
theorem dA.grown {S:Nat->Prop} {a w w':World} (h:dA S a w) {row:Option Nat} (hg:w.grownBy w' row) (hr:∀k,row=some k->k<a.heap.size->S k):dA S a w':=
 h.then (T:=fun k=>row=some k) ⟨hg.os,hg.tape,hg.output,hg.size,fun i hi hne=>hg.block i hi fun e=>hne e.symm⟩ fun i hi e=>hr i e hi
theorem infoNode:(Tryz.prog.info? 283).map (fun i=>(i.zero,i.size,i.bytes))=some (some (.agg #[.string ByteArray.empty, .slice none 0 0, .int .i64 0, .int .i64 0]),4,56):=by kernel_rfl
theorem J0.congr {ord:List Nat} {N N':Nat->Nd} {e y:Int} (h:J0 ord N e y) (hN:∀i∈ord,(N' i).el=(N i).el/\(N' i).yo=(N i).yo):J0 ord N' e y:=
 ⟨h.nd,h.e_,h.y_,fun pre i post hs=>by
  obtain⟨h1,h2⟩:=hN i (by rw[hs];simp);rw[h1,h2];exact h.at_ pre i post hs⟩
theorem SlI.none (w:World):SlI w none 0 0 []:=⟨rfl,Nat.le_refl _,by unfold maxLen;omega,fun _=>rfl,fun i u hu=>by simp at hu⟩
theorem aEm.ne {w:World} {base top cb mb m cap:Nat} {no:Option Addr} {N:Nat->Nd} (h:aEm w base top cb mb no m cap N):no≠some ⟨cb,0,Option.none⟩/\no≠some ⟨mb,0,Option.none⟩:=by
 rcases h with⟨rfl,_⟩ | ⟨nb,rfl,h2,h3,h4,h5,h6⟩
 ·exact⟨by simp,by simp⟩
 ·exact⟨fun e=>by injection e with e;injection e with e;exact h3 e.symm,fun e=>by injection e with e;injection e with e;exact h4 e.symm⟩
theorem CSt.push {w w':World} {base top cb mb m cap sz g cap':Nat} {no:Option Addr} {N:Nat->Nd} {e y room hits misses:Int} {ord:List Nat} {f:ByteArray->Option Int} {R:Nat->List Int}
  (h:CSt w base top cb mb no m cap N e y room hits misses ord sz f R) (htop:top<=w'.heap.size) (hfl:lH w' cb (.slice (some ⟨g,0,Option.none⟩) (m+1) cap') mb e y room hits misses) (hn:Nds w' g (m+1) cap' (upd N m qQ))
  (hbg:base<=g) (hglt:g<w'.heap.size) (hat:no=some ⟨g,0,Option.none⟩\/top<=g) (hblk:∀k,k<top->k≠cb->no≠some ⟨k,0,Option.none⟩->w'.heap[k]?=w.heap[k]?):
  CSt w' base w'.heap.size cb mb (some ⟨g,0,Option.none⟩) (m+1) cap' (upd N m qQ) e y room hits misses ord sz f (upd R m []):=by
 obtain⟨n1,n2⟩:=h.nd.ne;have hb:=h.bc;have hb2:=h.bm;have hcg:cb≠g:=by rintro rfl;rcases hat with e | e;exact n1 e;omega
 have hmg:mb≠g:=by rintro rfl;rcases hat with e | e;exact n2 e;omega
 refine⟨hfl, .inr ⟨g,rfl,hn,hcg,hmg,hbg,hglt⟩,h.mp.stay (hblk mb hb2.2 (fun e=>h.cm e.symm) n2),h.ch.congr fun i hi=> ?_,fun i hi=>by have:=h.lt i hi;omega,h.cm,⟨hb.1,by omega⟩,⟨hb2.1,by omega⟩,fun i hi=> ?_,fun i hi=> ?_⟩
 ·rw[B2 _ _ _ _ (by have:=h.lt i hi;omega)];exact⟨rfl,rfl⟩
 ·by_cases e:i=m
  ·subst e;rw[aD,aD];exact⟨SlI.none _,fun ad e=>by cases e⟩
  ·rw[B2 _ _ _ _ e,B2 _ _ _ _ e];obtain⟨h1,h2⟩:=h.rows i (by omega);refine⟨h1.keep fun ad e=>hblk _ (h2 ad e).2.1 (fun e'=>(h2 ad e).2.2 (.inl e')) (fun e'=>(h2 ad e).2.2 (.inr (.inr e'))),fun ad e=> ?_⟩;obtain⟨a1,a2,a3⟩:=h2 ad e;refine⟨a1,by omega,fun hf=> ?_⟩;rcases hf with h3 | h3 | h3
   ·exact a3 (.inl h3)
   ·exact a3 (.inr (.inl h3))
   ·simp at h3;rcases hat with h4 | h4
    ·exact a3 (.inr (.inr (by rw[h4,h3])))
    ·omega
 ·by_cases e:i=m
  ·subst e;rw[aD];simp[qQ]
  ·rw[B2 _ _ _ _ e];exact h.keys i (by omega)
theorem dA.turned {S:Nat->Prop} {a w w':World} {mb:Nat} (h:dA S a w) (ht:w.mapTurned w' mb) (hs:S mb):dA S a w':=by
 obtain⟨es,clock,es',clock',hb,rfl⟩:=ht;refine h.then (T:=fun k=>k=mb) ⟨rfl,rfl,rfl,by simp[ChangeMaps.setBlock],fun k hk hne=>ChangeMaps.heap_setBlock_other hb _ hne⟩ (fun k _ e=>e▸hs)
theorem CSt.mapped {w w':World} {base top cb mb m cap sz sz':Nat} {no:Option Addr} {N:Nat->Nd} {e y room hits misses:Int} {ord:List Nat} {f f':ByteArray->Option Int} {R:Nat->List Int}
  (h:CSt w base top cb mb no m cap N e y room hits misses ord sz f R) (htop:top<=w.heap.size) (hm:dF w' mb sz' f') (hk:∀k,k<w.heap.size->k≠mb->w'.heap[k]?=w.heap[k]?):CSt w' base top cb mb no m cap N e y room hits misses ord sz' f' R:=by
 refine⟨h.fl.stay (hk cb (by have:=h.bc;omega) h.cm),?_,hm,h.ch,h.lt,h.cm,h.bc,h.bm,fun i hi=> ?_,h.keys⟩
 ·rcases h.nd with h' | ⟨nb,h1,h2,h3,h4,h5,h6⟩
  ·exact .inl h'
  ·exact .inr ⟨nb,h1,h2.stay (hk nb (by omega) (fun e=>h4 e.symm)),h3,h4,h5,h6⟩
 ·obtain⟨h1,h2⟩:=h.rows i hi;exact⟨h1.keep fun ad e=>hk _ (by have:=(h2 ad e).2.1;omega) fun e'=>(h2 ad e).2.2 (.inr (.inl e')),h2⟩
theorem iQ {w:World} {ops:Array Oper} {rest:List Oper} {o:Oper} {a:Act} {Q:Exit->Act->World->Prop} (hgd:o.guard=none) (s x:Operand)
  (ho:o.op= .call {callee:= .builtin .append,args:=#[s,x],argTypes:=#[178,178]})
  {base top cb mb m cap B:Nat} {no:Option Addr} {N:Nat->Nd} {n:Nd} {t:TypeId} {fr:Nat×Nat} (hs:a.eval s= .slice no m cap) (hnd:aEm w base top cb mb no m cap N) (hx:a.eval x= .slice (some ⟨B,0,none⟩) 1 1)
  (hb:w.heap[B]?=some (.cells (B9 n).toArray t fr)) (hm:m<1048576) (hbase:base<=w.heap.size) (H:Nat) (hH:w.heap.size=H)
  (hK:∀g cap' w',Nds w' g (m+1) cap' (upd N m n)->base<=g->dA (fun k=>no=some ⟨k,0,none⟩) w w'->(no=some ⟨g,0,none⟩\/g=H)->g<w'.heap.size->wpList Tryz.prog ops Q rest (a.put o.dst (.slice (some ⟨g,0,none⟩) (m+1) cap')) w'):
  wpList Tryz.prog ops Q (o::rest) a w:=by
 obtain⟨i0,hi0,hz0,hz1,hz2⟩:=info_parts infoNode;refine wpList_append_lies (P:=Tryz.prog) (w:=w) hgd s x 178 ho base 283 i0 _ 4 56 Tryz.underlying178 hi0 hz0 hz1 hz2 rfl (by omega) _ m _ hs hnd.row _ 1 1 (B9 n) hx rfl
  (World.news_of_block hb) (by intro u hu;simp[B9]at hu;rcases hu with rfl | rfl | rfl | rfl<;>rfl) (by omega) (by unfold maxLen;omega) (by omega) hbase H hH ?_
 intro g cap' w' hown hgr hat hlt;rw[Z7]at hown;obtain⟨h1,h2⟩:=Nds.of_row hown;have hown2:∀k,(Value.slice no m cap).ownBlock=some k->no=some ⟨k,0,none⟩:=by
  intro k hk;rcases hnd with⟨rfl,_⟩ | ⟨nb,rfl,_⟩
  ·simp[Value.ownBlock]at hk
  ·simp[Value.ownBlock]at hk;rw[hk]
 refine hK g cap' w' h1 h2 ((dA.refl _ _).grown hgr fun k hk _=>hown2 k hk) ?_ hlt
 rcases hat with h | h
 ·exact .inl (hown2 g h)
 ·exact .inr h
section
variable {w:World} {base top cb mb m cap sz:Nat} {no:Option Addr} {N:Nat->Nd} {e y room hits misses:Int} {ord:List Nat} {f:ByteArray->Option Int} {R:Nat->List Int}
theorem free_new (h:CSt w base w.heap.size cb mb no m cap N e y room hits misses ord sz f R) (hs:(sz:Int)<room) (hm:m<1048576):
  Calls Tryz.prog 216 #[.pointer (some ⟨cb,0,none⟩)] w fun en w'=>en= .returned (.int .i64 m)/\
   ∃g cap',CSt w' base w'.heap.size cb mb (some ⟨g,0,none⟩) (m+1) cap' (upd N m qQ) e y room hits misses ord sz f (upd R m [])/\dA (Ft cb mb no) w w'/\(no=some ⟨g,0,none⟩\/w.heap.size<=g):=by
 obtain⟨f0,f1,f2,f3,f4,f5,f6,ff⟩:=id h.fl;have hrun:=fun ty=>(h.mp.stay (w':=w.drew) rfl).run_len ty
 have hb1:=(aA w (.cells (B9 qQ).toArray 283)).drew;have hnd:=(h.below hb1).nd;have hb:(w.alloc (.cells (B9 qQ).toArray 283)).drew.heap[w.heap.size]?=some (.cells (B9 qQ).toArray 283 (0,0)):=heap_alloc_new w _
 have hsz:(w.alloc (.cells (B9 qQ).toArray 283)).drew.heap.size=w.heap.size+1:=by simp
 have hbase:=h.bc;have hbase2:base<=(w.alloc (.cells (B9 qQ).toArray 283)).drew.heap.size:=by rw[hsz];omega
 have hne:=h.nd.ne;have H:=hW_ h;clear h;go_enter Tryz.func216,Tryz.ntmps216;go_wp2;go_region
 all_goals go_wp2_with (at_builtin;refine iQ rfl _ _ rfl rfl hnd rfl hb hm hbase2 (w.heap.size+1) hsz ?_)
 all_goals
  intro g cap' w' hn hbg hk hat hglt;have hcg:cb≠g:=by rintro rfl;rcases hat with e | e;exact hne.1 e;omega
  have hf:=H.out.fl.stay ((hk.block cb (Nat.lt_of_lt_of_le hbase.2 hb1.size) hne.1).trans (hb1.block _ hbase.2));have g0:=hf.f0;have gf:=hf.ff;have hk2:=hW_ hk;have hn2:=hW_ hn;have hf2:=hW_ hf;clear hf hk hn f0 f1 f2 f3 f4 f5 f6 ff hrun hb hnd;go_wp2;go_ret;have hblk:∀k,k<w.heap.size->k≠cb->no≠some ⟨k,0,none⟩->(w'.setCell ⟨cb,0,none⟩ (.slice (some ⟨g,0,none⟩) (m+1) cap')).heap[k]?=w.heap[k]? :=fun k h1 h2 h3=>
   (cA h2).trans ((hk2.out.block k (Nat.lt_of_lt_of_le h1 hb1.size) h3).trans (hb1.block _ h1))
  have hsz2:w.heap.size<=w'.heap.size:=Nat.le_trans hb1.size hk2.out.size;have hat2:no=some ⟨g,0,none⟩\/w.heap.size<=g:=by rcases hat with e | e;exact .inl e;exact .inr (by omega)
  refine⟨rfl,g,cap',?_,?_,hat2⟩
  ·exact H.out.push (by simpa using hsz2) (hf2.out.set0 _) (hn2.out.stay (cA hcg.symm)) hbg (by simpa using hglt) hat2 hblk
  ·exact(((dA.of_below hb1).then hk2.out (fun k _ e=> .inr (.inr e))).set (p:=⟨cb,0,none⟩) (.inl rfl) _)
theorem free_old {i:Nat} {post:List Nat} (h:CSt w base w.heap.size cb mb no m cap N e y room hits misses (i::post) sz f R) (hs:room<=(sz:Int)) (hfk:(f (N i).key).isSome=true):
  Calls Tryz.prog 216 #[.pointer (some ⟨cb,0,none⟩)] w fun en w'=>en= .returned (.int .i64 i)/\
   ∃N' e' y',CSt w' base w'.heap.size cb mb no m cap N' e' y' room hits misses post (sz-1) (fun t=>if t=(N i).key then none else f t) R/\(∀j,(N' j).held=(N j).held)/\dA (Ft cb mb no) w w':=by
 have him:i<m:=h.lt i (by simp);obtain⟨nb,rfl,hc,hmn,hbn,hbn2⟩:=h.cmem (by omega);have hei:e=(i:Int):=h.ch.e_;subst hei;obtain⟨hel,hyo⟩:=h.ch.at_ [] i post rfl;have hpost:∀k∈post,k<m:=fun k hk=>h.lt k (by simp[hk])
 have pel:Pl m (N i).el:=by rw[hel];exact .inl rfl
 have pyo:Pl m (N i).yo:=by rw[hyo];exact aBp hpost
 obtain⟨f0,f1,f2,f3,f4,f5,f6,ff⟩:=id h.fl;have hrun:=fun ty=>(h.mp.stay (w':=w.drew) rfl).run_len ty
 have H:=hW_ h;have HC:=hW_ hc.drew;have hd:decide ((sz:Int)<room)=false:=by simp;omega
 clear h hc;go_enter Tryz.func216,Tryz.ntmps216;go_wp2;go_region
 all_goals go_wp2_with (fail)
 all_goals
  refine(I9 w.drew HC.out i him pel pyo).mono ?_
  rintro en w1 ⟨rfl,hc1,hk1⟩;have h1:=(H.out.below (w':=w.drew) (Below.refl _ _).drew).relink (Nat.le_refl _) hmn ⟨hbn,hbn2⟩ hc1 hk1 (jF N i) (ord':=post) (J0.unlink (pre:=[]) H.out.ch) hpost;have hkey:(gM N i i).key=(N i).key:=by have:=jF N i i;simp only[Nd.held,Prod.mk.injEq]at this;exact this.1
  obtain⟨c0,c1,c2,c3⟩:=hc1.cells him;rw[hkey]at c0;obtain⟨f0,f1,f2,f3,f4,f5,f6,ff⟩:=id hc1.f;have hm1:=h1.mp;have hle:=hc1.n.le;have hmax:=hc1.n.max;unfold maxLen at hmax;have him2:(i:Int)<(m:Int):=by omega
  have hkl:=H.out.keys i him;have H1:=hW_ h1;have HK:=hW_ hk1;clear h1 hk1 hc1;go_wp2
  go_still_tail 12,(by kernel_rfl)
  refine cT rfl _ _ rfl rfl (hm1.stay rfl) rfl hkl ?_
  intro w2 hm2 hturn;rw[if_pos hfk]at hm2;have HK2:dA (fun k=>k=mb) w1 w2:=(dA.refl _ w1).drew.turned hturn rfl;go_wp2;go_ret;have htop:w.heap.size<=w1.heap.size:=HK.out.size;refine⟨rfl,gM N i,_,_,(H1.out.mapped htop hm2 fun k h1 h2=>HK2.block k h1 h2).up (Nat.le_trans htop HK2.size),jF N i,?_⟩;have hK1:dA (Ft cb mb (some ⟨nb,0,none⟩)) w w1:=(dA.refl _ w).drew.then HK.out fun k _ hk=>by
   rcases hk with h | h
   ·exact .inl h
   ·exact .inr (.inr (by rw[h]))
  exact hK1.then HK2 fun k _ hk=> .inr (.inl hk)
end
end Go.Proofs.YtahiballegpbgaaGreatDoor
