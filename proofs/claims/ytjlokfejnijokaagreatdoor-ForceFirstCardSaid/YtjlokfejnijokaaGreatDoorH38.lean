/- A row of structs that the call made, behind a sort of the library's: it holds the sorted row. Plain lemmas. -/
import Derived.Test.YtjlokfejnijokaaGreatDoorFShelf
import Derived.Test.YtjlokfejnijokaaGreatDoorH8
import Derived.Shelf.SlSortCmp.WholeK
import Derived.Shelf.SlSortCmp.InsertionK
import Derived.Test.YtjlokfejnijokaaGreatDoorH37
import Derived.Test.YtjlokfejnijokaaGreatDoorH33
import Derived.Test.YtjlokfejnijokaaGreatDoorProg
import Derived.Test.YtjlokfejnijokaaGreatDoorH34
import Derived.Test.YtjlokfejnijokaaGreatDoorH10
import Derived.Shelf.SlSortCmp.NoneTotal
import Derived.Test.YtjlokfejnijokaaGreatDoorH7
import Derived.Test.YtjlokfejnijokaaGreatDoorH36
import Derived.Deep.CutRange
import Derived.Test.YtjlokfejnijokaaGreatDoorH15
import Derived.Test.YtjlokfejnijokaaGreatDoorH21
set_option linter.unusedVariables false
set_option maxHeartbeats 4000000
set_option maxRecDepth 100000
namespace Go.Proofs.YtjlokfejnijokaaGreatDoor
open Go.RowKit
open Go.Sort hiding Below
section
variable {α:Type} [Inhabited α] {enc:α->List Value} {k:Nat} {e:TypeId}
theorem O7 {w:World} {g:Nat} {cur:Array Value} {fr:Nat×Nat} (hg:w.heap[g]?=some (.cells cur e fr)) (m:Nat) (d:Array α) (os:Array Obj):
  (sortWorldK enc k w g 0 m d os).heap[g]?=some (.cells (Go.Sort.putCells id 0 (flatK enc k d) cur) e fr):=by
 have hlt:=(Array.getElem?_eq_some_iff.1 hg).1;show((w.heap.modify g (Go.Sort.onCells (Go.Sort.putCells id 0 (flatK enc k d))))++os)[g]?=_
 rw[Array.getElem?_append_left (by simpa using hlt),Array.getElem?_modify,if_pos rfl,hg];rfl
theorem B4 {w:World} {g q:Nat} (hq:q<w.heap.size) (hne:q≠g) (m:Nat) (d:Array α) (os:Array Obj):(sortWorldK enc k w g 0 m d os).heap[q]?=w.heap[q]? :=by
 show((w.heap.modify g (Go.Sort.onCells (Go.Sort.putCells id 0 (flatK enc k d))))++os)[q]?=_
 rw[Array.getElem?_append_left (by simpa using hq),Array.getElem?_modify,if_neg (by omega)]
theorem vN {w:World} {g B:Nat} (hB:B<=g) (hw:B<=w.heap.size) (m:Nat) (d:Array α) (os:Array Obj):RowKit.Below B w (sortWorldK enc k w g 0 m d os):=
 ⟨rfl,rfl,rfl,by show w.heap.size<=((w.heap.modify g _)++os).size;simp,fun q hq=>B4 (by omega) (by omega) m d os⟩
theorem eW (hs:∀x,(enc x).length=k) (h0:0<k) {w:World} {base g n cap:Nat} {L L':List α} (h:dA enc k e w base (.slice (some ⟨g,0,none⟩) n cap) L) (hl:L'.length=L.length) (m:Nat) (os:Array Obj):
  dA enc k e (sortWorldK enc k w g 0 m L'.toArray os) base (.slice (some ⟨g,0,none⟩) n cap) L':=by
 obtain⟨h1,h2⟩:=h;rcases h2 with⟨hv,hn⟩ | ⟨g',cap',cur,hv,hg,hh,hn,hm,hsz,ht⟩
 ·simp at hv
 ·simp at hv;obtain⟨rfl,rfl,rfl⟩:=hv;refine⟨by rw[wC hs], .inr ⟨g,cap,_,by rw[hl],hg,O7 hh m L'.toArray os,by rw[hl];exact hn,hm,by unfold Go.Sort.putCells;simpa using hsz,?_⟩⟩;apply List.ext_getElem?;intro i;rw[List.getElem?_take]
  by_cases hi:i<L'.length*k
  ·rw[if_pos hi];have hd:i=i / k*k+i % k:=by rw[Nat.mul_comm];exact(Nat.div_add_mod i k).symm
   have hlt:i / k<L'.length:=Nat.div_lt_of_lt_mul (by rw[Nat.mul_comm];exact hi);have hx:L'[i / k]?=some L'[i / k]:=List.getElem?_eq_getElem hlt
   have hm2:=Nat.mod_lt i h0;have e1:(flat enc L')[i]?=(enc L'[i / k])[i % k]? :=by
    conv=>lhs;rw[hd]
    exact vF hs hx hm2
   have hi2:i<cur.size:=by
    rw[hsz];have:L'.length*k<=cap*k:=Nat.mul_le_mul_right k (by rw[hl];exact hn);omega
   have e2:(Go.Sort.putCells id 0 (flatK enc k L'.toArray) cur).toList[i]?=(enc L'[i / k])[i % k]? :=by
    unfold Go.Sort.putCells;rw[Array.getElem?_toList,Array.getElem?_mapIdx,Array.getElem?_eq_getElem hi2];simp only[Option.map_some,Nat.zero_le,Nat.zero_add,true_and,Nat.sub_zero,id];rw[if_pos (by rw[size_flatK];simpa using hi),get_flatK enc k _ i (by simpa using hi)];have e3:(L'.toArray)[i / k]! =L'[i / k]:=by simp[hlt]
    rw[e3];have hlen:i % k<(enc L'[i / k]).length:=by rw[hs];exact hm2
    rw[List.getElem?_eq_getElem hlen];simp[hlen]
   rw[e1];exact e2
  ·rw[if_neg hi,List.getElem?_eq_none (by rw[wC hs];omega)]
theorem xZ (hs:∀x,(enc x).length=k) (h0:0<k) {w:World} {base g n cap:Nat} {L:List α} (h:dA enc k e w base (.slice (some ⟨g,0,none⟩) n cap) L):HoldsK enc k w g 0 L.toArray/\L.length=n/\base<=g/\g<w.heap.size:=by
 have hlt:=World.ownsRow.lt h g rfl;obtain⟨h1,h2⟩:=h;have h2':=h2;rcases h2' with⟨hv,hn⟩ | ⟨g',cap',cur,hv,hg,hh,hn,hm,hsz,ht⟩
 ·simp at hv
 ·simp at hv;obtain⟨rfl,rfl,rfl⟩:=hv;refine⟨fun j hj=> ?_,rfl,hlt.1,hlt.2⟩;rw[size_flatK]at hj;have hj':j<L.length*k:=by simpa using hj
  have ho:w.ownsRow base e k (.slice (some ⟨g,0,none⟩) L.length cap) L.length (flat enc L):=⟨h1, .inr ⟨g,cap,cur,rfl,hg,hh,hn,hm,hsz,ht⟩⟩;refine⟨?_,by rw[Nat.zero_add];exact World.ownsRow.frozenAt ho j⟩;rw[Nat.zero_add,World.ownsRow.cellAt ho j hj',get_flatK enc k _ j (by simpa using hj')];have hd:j=j / k*k+j % k:=by rw[Nat.mul_comm];exact(Nat.div_add_mod j k).symm
  have hlt2:j / k<L.length:=Nat.div_lt_of_lt_mul (by rw[Nat.mul_comm];exact hj');have hm2:=Nat.mod_lt j h0;have e1:(flat enc L)[j]?=(enc L[j / k])[j % k]? :=by
   conv=>lhs;rw[hd]
   exact vF hs (List.getElem?_eq_getElem hlt2) hm2
  have e3:(L.toArray)[j / k]! =L[j / k]:=by simp[hlt2]
  have hlen:j % k<(enc L[j / k]).length:=by rw[hs];exact hm2
  rw[e1,e3,List.getElem?_eq_getElem hlen];simp[hlen]
theorem cW {lt:α->α->Bool} {L:List α} {d':Array α} (hp:Go.Sort.PermIn 0 L.toArray.size L.toArray d') (hs:Go.Sort.SortedIn lt 0 L.toArray.size d'):d'.toList.Perm L/\d'.toList.Pairwise (fun a b=>lt b a=false)/\d'.toList.length=L.length:=by
 obtain⟨h1,_,h3⟩:=hp;have e1:(d'.extract 0 L.toArray.size)=d':=by
  rw[<-h1];simp
 have e2:(L.toArray.extract 0 L.toArray.size)=L.toArray:=by simp
 rw[e1,e2]at h3;refine⟨by simpa using h3,?_,by simpa using h1⟩;rw[List.pairwise_iff_getElem];intro i j hi hj hij;have hi':i<d'.size:=by simpa using hi
 have hj':j<d'.size:=by simpa using hj
 have:=hs i j (Nat.zero_le _) hij (by rw[<-h1];exact hj');rw[getElem!_pos d' j hj',getElem!_pos d' i hi']at this;simpa using this
end
def FQ (w:World) (g:Nat):Type:={p:FP // SlI w p.ao p.n p.c p.syms/\∀ad,p.ao=some ad->ad.block≠g/\ad.block<w.heap.size}
instance (w:World) (g:Nat):Inhabited (FQ w g):=⟨⟨⟨none,0,0,0,[]⟩,Sl.none,fun _ h=>by cases h⟩⟩
def FQ.enc {w:World} {g:Nat} (p:FQ w g):List Value:=p.1.enc
def cmpQ {w:World} {g:Nat} (p q:FQ w g):Int:=pE p.1.syms q.1.syms
theorem ltQ {w:World} {g:Nat} (p q:FQ w g):ltOf cmpQ p q=decide (p.1.syms<q.1.syms):=by
 unfold ltOf cmpQ;apply decide_eq_decide.2;exact xU
theorem swoQ (w:World) (g:Nat):SWO (ltOf (cmpQ (w:=w) (g:=g))) where
 irrefl x:=by rw[ltQ];exact decide_eq_false (List.lt_irrefl _)
 trans x y z h1 h2:=by rw[ltQ]at *;exact decide_eq_true (List.lt_trans (of_decide_eq_true h1) (of_decide_eq_true h2))
 ntrans x y z h1 h2:=by
  rw[ltQ]at *;refine decide_eq_false (List.not_lt.2 ?_);exact List.le_trans (List.not_lt.1 (of_decide_eq_false h2)) (List.not_lt.1 (of_decide_eq_false h1))
theorem aAU {w:World} {g:Nat} (L:List (FQ w g)):flat FQ.enc L=flat FP.enc (L.map (·.1)):=by
 induction L with
 | nil=>rfl
 | cons x L ih=>rw[fD,List.map_cons,fD,ih];rfl
theorem xF {w w':World} {ao:Option Addr} {n c:Nat} {A:List Int} (h:SlI w ao n c A) (hk:∀ad,ao=some ad->w'.heap[ad.block]?=w.heap[ad.block]?):SlI w' ao n c A:=by
 refine⟨Sl.len h,Sl.le h,Sl.max h,Sl.nil h,fun i u hi=> ?_⟩;obtain⟨b,of,e,hc⟩:=Sl.at_ h i u hi;exact⟨b,of,e,(World.cell?_of_block (a:=⟨b,of+i,none⟩) (hk ⟨b,of,none⟩ e)).trans hc⟩
theorem cmpLaysQ (w:World) (g size:Nat):CmpLays Tryz.prog 56 #[] (FQ.enc (w:=w) (g:=g)) 2 cmpQ g 0 size w:=by
 intro m os dk _ x y;have hx:=xF (w':=sortWorldK FQ.enc 2 w g 0 m dk os) x.2.1 (fun ad e=>B4 (x.2.2 ad e).2 (x.2.2 ad e).1 m dk os);have hy:=xF (w':=sortWorldK FQ.enc 2 w g 0 m dk os) y.2.1 (fun ad e=>B4 (y.2.2 ad e).2 (y.2.2 ad e).1 m dk os);exact T8 x.1 y.1 _ hx hy
def ApartQ (w:World) (v:Value) (P:List FP):Prop:=∀p∈P,SlI w p.ao p.n p.c p.syms/\∀ad,p.ao=some ad->v.ownBlock≠some ad.block/\ad.block<w.heap.size
theorem wV {w:World} {base:Nat} {v:Value} {P:List FP} (h:dA FP.enc 2 95 w base v P) (hb:base<=w.heap.size) (hP:ApartQ w v P) (hsz:P.length<4611686018427387904):
  Calls Tryz.prog 55 #[v, .func (.func 56) #[] #[]] w fun e w'=>e= .returned (.tuple #[])/\
   ∃P',P'.Perm P/\eC (P'.map FP.fr)/\dA FP.enc 2 95 w' base v P'/\RowKit.Below base w w'/\∀q,q<w.heap.size->v.ownBlock≠some q->w'.heap[q]?=w.heap[q]? :=by
 obtain⟨ao,cap,rfl,_⟩:=h.sl
 cases ao with
 | none=>
  have h0:P.length=0:=by
   rcases h.2 with⟨_,hn⟩ | ⟨g,c2,cur,hv,_⟩
   ·exact hn
   ·simp at hv
  have hM:P= []:=List.eq_nil_of_length_eq_zero h0;subst hM;have hcon:=AnyF.slices_SortFunc_none Tryz.sortF none cap (.func (.func 56) #[] #[]) w;change Calls Tryz.prog 55 _ _ _ at hcon;refine hcon.mono ?_
  rintro e w' ⟨rfl,rfl⟩;exact⟨rfl,[],List.Perm.refl _,List.Pairwise.nil,h,RowKit.Below.refl _ _,fun _ _ _=>rfl⟩
 | some ad=>
  obtain⟨g,hg⟩:∃g,ad=⟨g,0,none⟩:=by
   rcases h.2 with⟨hv,_⟩ | ⟨g,c2,cur,hv,_⟩
   ·simp at hv
   ·simp at hv;exact⟨g,hv.1⟩
  subst hg;obtain⟨Q,hQ⟩:∃Q:List (FQ w g),Q.map (·.1)=P:=by
   refine⟨P.attachWith (fun p=>SlI w p.ao p.n p.c p.syms/\∀ad,p.ao=some ad->ad.block≠g/\ad.block<w.heap.size) (fun p hp=>⟨(hP p hp).1,fun ad e=> ?_⟩),?_⟩
   ·have:=(hP p hp).2 ad e;exact⟨fun e2=>this.1 (by rw[e2];rfl),this.2⟩
   ·exact List.attachWith_map_subtype_val _
  have hlen:Q.length=P.length:=by rw[<-hQ,List.length_map]
  have hQo:dA FQ.enc 2 95 w base (.slice (some ⟨g,0,none⟩) P.length cap) Q:=by
   unfold dA at h |-;rw[aAU,hQ,hlen];exact h
  obtain⟨hH,hln,hbg,hlt⟩:=xZ (enc:=FQ.enc) (fun p=>FP.enc_len p.1) (by omega) hQo;have eg:∀args w,(callFunc 56 args).run Tryz.prog w= .ok (.enter 56 args) w:=enters_of Tryz.func56 (by kernel_rfl) rfl;have hcon:=AnyQ.slices_SortFunc Tryz.sortF 2 Tryz.isAgg95 Tryz.sizeOf95 FQ.enc (fun p=>FP.enc_len p.1) (fun p=>FP.enc_one p.1) cmpQ (swoQ w g) 56 #[] g 0 cap Q.toArray w eg (cmpLaysQ w g Q.toArray.size) hH hlt (by simpa[hlen]using hsz);change Calls Tryz.prog 55 _ _ _ at hcon;rw[show Q.toArray.size=P.length by simpa using hlen]at hcon;refine hcon.mono ?_
  rintro e w' ⟨rfl,d',n,os,hp,hs,rfl⟩;rw[show P.length=Q.toArray.size by simpa using hlen.symm]at hp hs;obtain⟨h1,h2,h3⟩:=cW hp hs;refine⟨rfl,d'.toList.map (·.1),?_,?_,?_,vN hbg hb _ _ _,fun q h5 h6=>B4 h5 (fun e=>h6 (by rw[e];rfl)) _ _ _⟩
  ·rw[<-hQ];exact h1.map _
  ·unfold eC;rw[List.map_map,List.pairwise_map];refine h2.imp fun{a b} h=> ?_
   rw[ltQ]at h;exact of_decide_eq_false h
  ·have:=eW (enc:=FQ.enc) (fun p=>FP.enc_len p.1) (by omega) hQo h3 n os;unfold dA at this |-;rw[aAU]at this;rw[List.length_map];exact this
def IdxHi (B:Nat) (w':World) (g:Nat) (P:List FP):Prop:=∀w'':World,(∀q,B<=q->q<w'.heap.size->w''.heap[q]?=w'.heap[q]?)->J0 w'' g P
def aCB (V:Vc) (N:List ByteArray) (w:World) (e:Ending) (w':World):Prop:=
 (∃x P,e= .returned (.pointer (some ⟨x,0,none⟩))/\J0 w' x P/\(P.map FP.fr).Perm (B8 V N)/\eC (P.map FP.fr)/\IdxHi w.heap.size w' x P)/\Below w.heap.size w w'
theorem rJ {V:Vc} {N:List ByteArray} {kind:Int} {T:List Rg} {base g cb:Nat} (w:World) (hC:∀w',Below w.heap.size w w'->mG w' base g V N kind T cb) (hM:May V) (hN:A6 N):
  Calls Tryz.prog 25 #[.pointer (some ⟨g,0,none⟩)] w (aCB V N w):=by
 obtain⟨i0,z0,hi,hz0,hz1,hz2,hz3⟩:=uB aAS;have HC:=hW_ hC;have HM:=hW_ hM;have HN:=hW_ hN;have HT4:Hid (V.tokens.length<=4096):=hW_ hM.1.1;have H64:Hid (∀s∈V.tokens,s.size<=64):=hW_ hM.1.2.1;obtain⟨w0,hw0⟩:∃w0,w.alloc (.cells #[.slice none 0 0] 92)=w0:=⟨_,rfl⟩;have HB0:Hid (Below w.heap.size w w0):=hW_ (by rw[<-hw0];exact aA w _);have HX0:Hid (w0.heap[w.heap.size]?=some (.cells #[.slice none 0 0] 92)):=hW_ (by rw[<-hw0];exact heap_alloc_new w _);have hsz0:w0.heap.size=w.heap.size+1:=by rw[<-hw0];simp
 have HW0:=hW_ hw0;clear hC hM hN hw0;go_enter Tryz.func25,Tryz.ntmps25;go_wp2_with (fail);rw[HW0.out];go_loopw [11] (fun i wr=>∃(k:Nat) (P:List FP) (v:Value),k<=4096/\i= .int .i64 k/\wr.heap[w.heap.size]?=some (.cells #[v] 92)/\dA FP.enc 2 95 wr w0.heap.size v P/\Hid (P.map FP.fr=lE V N k)/\Hid (∀p∈P,∀ad,p.ao=some ad->w0.heap.size<=ad.block)/\ApartQ wr v P/\Below w.heap.size w wr) (fun i _=>4096-(intOf i).toNat)
 case atStart=>exact⟨0,[],_,by omega,rfl,HX0.out,dA.nil _ _,hW_ rfl,hW_ (fun p hp=>by simp at hp),fun p hp=>by simp at hp,HB0.out⟩
 case round=>
  obtain⟨k,P,v,hk,rfl,hx,ho,HP,HPB,hap,hb⟩:=hrel;obtain⟨ro,rc,rfl,hsl⟩:=ho.sl;have HPL:Hid (P.length<=k):=hW_ (by have:=congrArg List.length HP.out;rw[List.length_map]at this;rw[this];exact yS V N k);obtain⟨pn,hpn⟩:∃pn,P.length=pn:=⟨_,rfl⟩;rw[hpn]at hx hsl;have HO:=hW_ ho;rw[hpn]at HO;have HX:=hW_ hx;have HAP:=hW_ hap;rw[hpn]at HAP;have HB:=hW_ hb;have HPN:=hW_ hpn;have hxw:w.heap.size<wr.heap.size:=(Array.getElem?_eq_some_iff.1 hx).1
  by_cases hlt:k<4096
  ·have hsy:=lR (k:Int) wr (HC.out wr hb) H64.out HN.out;have gk:(k:Int)<4096:=by omega
   clear hx ho hap hb hsl hpn;go_wp2_with (fail);refine hsy.mono ?_
   rintro e w9 ⟨⟨vs,rfl,hos⟩,hb9⟩;obtain⟨so,sc,rfl,hss⟩:=hos.sl;obtain⟨c0,cf⟩:=I2 ((hb9.block w.heap.size hxw).trans HX.out)
   by_cases herr:(iA V N (k:Int)).2=0
   ·obtain⟨SY,hSY⟩:∃SY,(iA V N (k:Int)).1=SY:=⟨_,rfl⟩;rw[hSY]at hos hss |-;rw[herr];have HR:Hid (lE V N (k+1)=lE V N k++ [(SY,(k:Int))]):=hW_ (by rw[<-hSY];exact Y6 herr);obtain⟨sn,hsn⟩:∃sn,SY.length=sn:=⟨_,rfl⟩;rw[hsn]at hss |-;have HSS:=hW_ hss;have HOS:=hW_ hos;rw[hsn]at HOS;have HB9:=hW_ hb9;have HSN:=hW_ hsn;have hc0a:=eA (aA w9 (.cells #[.slice so sn sc, .int .i64 k] 95)) _ _ c0;have HOa:Hid (dA FP.enc 2 95 (w9.alloc (.cells #[.slice so sn sc, .int .i64 k] 95)) w0.heap.size (.slice ro pn rc) P):=hW_ (dA.alloc (dA.below HO.out HB9.out) _);have HSa:Hid (SlF 2 (w9.alloc (.cells #[.slice so sn sc, .int .i64 k] 95)) (some ⟨w9.heap.size,0,none⟩) 1 1 (flat FP.enc [⟨so,sn,sc,k,SY⟩])):=hW_ (SlF.one FP.enc_len w9 ⟨so,sn,sc,k,SY⟩ 95 (cs:=#[.slice so sn sc, .int .i64 k]) rfl);have hszr:w0.heap.size<=w9.heap.size:=by have:=hb9.size;omega
    have HLTO:=hW_ (World.ownsRow.lt HO.out);clear hos hss hb9 hsn herr hsy hSY;go_wp2_with (at_builtin;go_loud (refine zE rfl _ _ 90 rfl i0 z0 32 Tryz.underlying90 hi hz0 hz1 hz2 hz3 FP.enc_len (by omega) FP.enc_one rfl HOa.out rfl HSa.out (by omega) (by have:=HPN.out;have:=HPL.out;unfold maxLen;omega) (by have:=HPN.out;have:=HPL.out;omega) (by simp;omega) rfl ?_));intro gg cap w1 ho1 hg1 hat hb1;rw[HPN.out]at ho1;have hx1:w1.heap[w.heap.size]?=some (.cells #[.slice ro pn rc] 92):=
     (hb1.block w.heap.size (by omega)).trans ((Below.heap_alloc _ _ _ (by have:=HB9.out.size;omega)).trans ((HB9.out.block w.heap.size hxw).trans HX.out))
    obtain⟨d0,df⟩:=I2 hx1;have HX1:=hW_ hx1;have HO1:=hW_ ho1;have HG1:=hW_ hg1;have HAT:=hW_ hat;have HB1:=hW_ hb1;rw[HPN.out];clear hx1 ho1 hg1 hat hb1 hc0a c0 cf;go_wp2_with (fail);go_roundw
    case rel=>
     have HO1:=HO1.out;rw[<-hsz0]at HO1;have HO1:=hW_ HO1;have hx2:=set1N (v:= .slice (some ⟨gg,0,none⟩) (pn+1) cap) HX1.out;have hbw:Below w.heap.size w (w1.setCell ⟨w.heap.size,0,none⟩ (.slice (some ⟨gg,0,none⟩) (pn+1) cap)):=
      ((HB.out.trans ((HB9.out.alloc HB9.out.size _).mono HB.out.size)).trans (HB1.out.mono (by omega))).setCell (p:=⟨w.heap.size,0,none⟩) (Nat.le_refl _) _
     refine⟨k+1,P++ [⟨so,sn,sc,k,SY⟩],_,by omega,by go_num,hx2,?_,hW_ ?_,hW_ ?_,?_,hbw⟩
     ·exact oA (v:= .slice (some ⟨gg,0,none⟩) (pn+1) cap) HO1.out fun q hq=>Below.heap_setCell _ _ _ _ (by
       have:=(World.ownsRow.lt HO1.out q hq).1;show q≠w.heap.size;omega)
     ·rw[List.map_append,HP.out,HR.out];rfl
     ·intro p hp ad e;rcases List.mem_append.1 hp with hp | hp
      ·exact HPB.out p hp ad e
      ·simp at hp;subst hp;subst e;have:=(World.ownsRow.lt HOS.out ad.block rfl).1;omega
     ·have hkeep:∀q,q<wr.heap.size->q≠w.heap.size->(Value.slice ro pn rc).ownBlock≠some q->(w1.setCell ⟨w.heap.size,0,none⟩ (.slice (some ⟨gg,0,none⟩) (pn+1) cap)).heap[q]?=wr.heap[q]? :=fun q h1 h2 h3=>
       (Below.heap_setCell _ _ _ _ h2).trans ((HG1.out.block q (by have:=HB9.out.size;simp;omega) (fun e=>h3 e.symm)).trans ((Below.heap_alloc _ _ _ (by have:=HB9.out.size;omega)).trans (HB9.out.block q h1)))
      have hkeep9:∀q,wr.heap.size<=q->q<w9.heap.size->(w1.setCell ⟨w.heap.size,0,none⟩ (.slice (some ⟨gg,0,none⟩) (pn+1) cap)).heap[q]?=w9.heap[q]? :=fun q h1 h2=>
       (Below.heap_setCell _ _ _ _ (by show q≠w.heap.size;omega)).trans ((HG1.out.block q (by simp;omega) (fun e=>by have:=(HLTO.out q e.symm).2;omega)).trans (Below.heap_alloc _ _ _ h2))
      have hsz1:w9.heap.size<(w1.setCell ⟨w.heap.size,0,none⟩ (.slice (some ⟨gg,0,none⟩) (pn+1) cap)).heap.size:=by
       have:=HG1.out.size;simp at this |-;omega
      intro p hp;rcases List.mem_append.1 hp with hp | hp
      ·obtain⟨a1,a2⟩:=HAP.out p hp;refine⟨xF a1 fun ad e=>hkeep _ (a2 ad e).2 (fun e2=> ?_) (a2 ad e).1,fun ad e=>⟨fun e2=> ?_,by have:=(a2 ad e).2;have:=HB9.out.size;omega⟩⟩
       ·have:=HPB.out p hp ad e;omega
       ·simp[Value.ownBlock]at e2;rcases HAT.out with h | h
        ·exact(a2 ad e).1 (by rw[h,e2])
        ·have:=(a2 ad e).2;have:=HB9.out.size;omega
      ·simp at hp;subst hp;have hl:=World.ownsRow.lt HOS.out;refine⟨xF HSS.out fun ad e=> ?_,fun ad e=> ?_⟩
       ·subst e;have:=hl ad.block rfl;exact hkeep9 _ this.1 this.2
       ·subst e;have:=hl ad.block rfl;refine⟨fun e2=> ?_,by omega⟩;simp[Value.ownBlock]at e2;rcases HAT.out with h | h
        ·have:=(HLTO.out gg h).2;omega
        ·omega
    case measure=>
     show 4096-((k:Int)+1).toNat<4096-(k:Int).toNat;omega
   ·have HR:Hid (lE V N (k+1)=lE V N k):=hW_ (xS herr);obtain⟨er,her⟩:∃er,(iA V N (k:Int)).2=er:=⟨_,rfl⟩;rw[her]at herr |-;have hbe:(er==0)=false:=by simpa using herr
    have HB9:=hW_ hb9;clear hos hss hb9 herr hsy her c0 cf;go_wp2_with (fail);go_roundw
    case rel=>
     exact⟨k+1,P,_,by omega,by go_num,(HB9.out.block w.heap.size hxw).trans HX.out,by have:=dA.below HO.out HB9.out;exact this,hW_ (by rw[HR.out];exact HP.out),HPB,fun p hp=>⟨(HAP.out p hp).1.below HB9.out,fun ad e=>⟨((HAP.out p hp).2 ad e).1,Nat.lt_of_lt_of_le ((HAP.out p hp).2 ad e).2 HB9.out.size⟩⟩,HB.out.trans (HB9.out.mono HB.out.size)⟩
    case measure=>
     show 4096-((k:Int)+1).toNat<4096-(k:Int).toNat;omega
  ·obtain rfl:k=4096:=by omega
   have HRA:Hid (P.map FP.fr=B8 V N):=hW_ (by
    have h:=gL (N:=N) HM.out (4096-V.tokens.length);rw[show V.tokens.length+(4096-V.tokens.length)=4096 by have:=HT4.out;omega]at h;rw[HP.out,h])
   obtain⟨c0,cf⟩:=I2 hx;have hso:=wV HO.out (by have:=hb.size;omega) HAP.out (by have:=HPN.out;have:=HPL.out;omega);clear hx ho hap hb hsl hpn;go_wp2_with (fail);refine hso.mono ?_
   rintro e w9 ⟨rfl,P',hp1,hp2,ho9,hb9,hk9⟩;have hx9:=(hk9 w.heap.size hxw (fun e=>by have:=(World.ownsRow.lt HO.out _ e).1;omega)).trans HX.out;have HB9:Hid (Below w.heap.size w w9):=hW_ (HB.out.trans (hb9.mono (by omega)));have hl':P'.length=pn:=by rw[hp1.length_eq];exact HPN.out
   obtain⟨ro',rc',e',hs9⟩:=ho9.sl;rw[hl']at e' hs9;simp only[Value.slice.injEq,true_and]at e';obtain⟨rfl,rfl⟩:=e';have HI:Hid (J0 w9 w.heap.size P'):=hW_ ⟨⟨ro,rc,by rw[hl'];exact hx9,by rw[hl'];exact hs9⟩,fun p hp=>by
    obtain⟨a1,a2⟩:=HAP.out p (hp1.mem_iff.1 hp);exact xF a1 fun ad e=>hk9 _ (a2 ad e).2 (a2 ad e).1⟩
   have hlo9:=World.ownsRow.lt ho9;have HHI:Hid (IdxHi w.heap.size w9 w.heap.size P'):=hW_ (fun w'' hag=>⟨⟨ro,rc,by rw[hl'];exact(hag w.heap.size (Nat.le_refl _) (by have:=HB9.out.size;have:=(Array.getElem?_eq_some_iff.1 hx9).1;omega)).trans hx9,by
    rw[hl'];exact hs9.keep0 (fun ad e h0=>hag ad.block (by subst e;have:=(hlo9 ad.block rfl).1;omega) (by subst e;exact(hlo9 ad.block rfl).2))⟩,fun p hp=>xF (HI.out.syms p hp) fun ad e=>hag ad.block (by have:=HPB.out p (hp1.mem_iff.1 hp) ad e;omega) (by
     have h1:=((HAP.out p (hp1.mem_iff.1 hp)).2 ad e).2;have h2:=hb9.size;omega)⟩)
   have HPP:Hid ((P'.map FP.fr).Perm (B8 V N)):=hW_ (by rw[<-HRA.out];exact hp1.map _);have HSO:=hW_ hp2;clear hp1 hp2 ho9 hb9 hk9 hx9 hs9 hso hlo9 c0 cf;go_wp2_with (fail);go_ret;exact⟨⟨w.heap.size,P',rfl,HI.out,HPP.out,HSO.out,HHI.out⟩,HB9.out⟩
structure N5 (w:World) (g:Nat) (P:List FP) (V:Vc) (N:List ByteArray):Prop where
 idx:J0 w g P
 perm:(P.map FP.fr).Perm (B8 V N)
 sorted:eC (P.map FP.fr)
theorem N5.below {w w':World} {g:Nat} {P:List FP} {V:Vc} {N:List ByteArray} (h:N5 w g P V N) (hb:Below w.heap.size w w'):N5 w' g P V N:=⟨h.idx.below hb,h.perm,h.sorted⟩
theorem V5 {V:Vc} {N:List ByteArray} (hM:May V):(B8 V N).length<=4096:=by
 rw[<-gL hM 0];exact Nat.le_trans (yS _ _ _) hM.1.1
theorem N5.len {w:World} {g:Nat} {P:List FP} {V:Vc} {N:List ByteArray} (h:N5 w g P V N):P.length=(B8 V N).length:=by
 rw[<-h.perm.length_eq,List.length_map]
theorem N5.uniq {w:World} {g:Nat} {P:List FP} {V:Vc} {N:List ByteArray} (h:N5 w g P V N) (hM:May V):∀a∈P.map FP.fr,∀b∈P.map FP.fr,a.1=b.1->a=b:=
 fun a ha b hb e=>(goodF hM).uniq a (h.perm.mem_iff.1 ha) b (h.perm.mem_iff.1 hb) e
theorem U8 (p:Addr) (so:Option Addr) (sc:Nat) (w:World):
  Calls Tryz.prog 28 #[.pointer (some p), .slice so 0 sc] w fun e w'=>e= .returned (.slice none 0 0)/\w=w':=by
 go_enter Tryz.func28,Tryz.ntmps28;go_wp2_with (fail);go_ret;exact⟨rfl,rfl⟩
theorem kY {P:List FP} {g:Nat} {V:Vc} {N:List ByteArray} (w:World) (hI:N5 w g P V N):
  Calls Tryz.prog 51 #[.pointer (some ⟨g,0,none⟩)] w fun e w'=>e= .returned (.int .i64 (B8 V N).length)/\w=w':=by
 rw[<-hI.len];exact pZ w hI.idx
theorem lP {P:List FP} {g:Nat} {V:Vc} {N:List ByteArray} {S:List Int} {so:Option Addr} {sn sc:Nat} (w:World) (hI:N5 w g P V N) (hM:May V) (hS:SlI w so sn sc S):
  Calls Tryz.prog 53 #[.pointer (some ⟨g,0,none⟩), .slice so sn sc] w fun e w'=>e= .returned (.int .i64 (B1 (P.map FP.fr) S (min S.length 64)))/\Below w.heap.size w w':=by
 rw[hS.len];exact vR w hI.idx hS (by rw[hI.len];exact Nat.le_trans (V5 hM) (by omega)) hI.sorted (hI.uniq hM)
theorem F1 {P:List FP} {g:Nat} {V:Vc} {N:List ByteArray} {S:List Int} {so:Option Addr} {sn sc:Nat} (w:World) (hI:N5 w g P V N) (hM:May V) (hS:SlI w so sn sc S):
  Calls Tryz.prog 28 #[.pointer (some ⟨g,0,none⟩), .slice so sn sc] w fun e w'=>(∃v,e= .returned v/\Own w' w.heap.size v (cC (B8 V N) S))/\Below w.heap.size w w':=by
 rcases Nat.eq_zero_or_pos sn with h0 | h0
 ·subst h0;have hE:S= []:=List.eq_nil_of_length_eq_zero hS.len;subst hE;refine(U8 _ _ _ w).mono ?_
  rintro e w' ⟨rfl,rfl⟩;exact⟨⟨_,rfl,by simpa[cC]using Own.nil w w.heap.size⟩,Below.refl _ _⟩
 ·refine(aS w hI.idx hS (by rw[hI.len];exact Nat.le_trans (V5 hM) (by omega)) hI.sorted (hI.uniq hM) h0).mono ?_
  rintro e w' ⟨⟨v,rfl,ho⟩,hb⟩;have hne:S≠[]:=by
   intro e;have:=hS.len;rw[e]at this;simp at this;omega
  rw[<-hS.len,eX hM hI.perm hne]at ho;exact⟨⟨v,rfl,ho⟩,hb⟩
theorem Z1 {V:Vc} {N:List ByteArray} {kind:Int} {T:List Rg} {base g cb:Nat} (w:World) (hC:∀w',Below w.heap.size w w'->mG w' base g V N kind T cb) (hM:May V) (hN:A6 N):
  Calls Tryz.prog 25 #[.pointer (some ⟨g,0,none⟩)] w fun e w'=>(∃x P,e= .returned (.pointer (some ⟨x,0,none⟩))/\N5 w' x P V N)/\Below w.heap.size w w':=by
 refine(rJ w hC hM hN).mono ?_
 rintro e w' ⟨⟨x,P,rfl,h1,h2,h3,-⟩,hb⟩;exact⟨⟨x,P,rfl,⟨h1,h2,h3⟩⟩,hb⟩
theorem fX {V:Vc} {N:List ByteArray} {kind:Int} {T:List Rg} {base g cb:Nat} (w:World) (hC:∀w',Below w.heap.size w w'->mG w' base g V N kind T cb) (hM:May V) (hN:A6 N):
  Calls Tryz.prog 25 #[.pointer (some ⟨g,0,none⟩)] w fun e w'=>(∃x P,e= .returned (.pointer (some ⟨x,0,none⟩))/\N5 w' x P V N/\∀w'',(∀q,w.heap.size<=q->q<w'.heap.size->w''.heap[q]?=w'.heap[q]?)->N5 w'' x P V N)/\Below w.heap.size w w':=by
 refine(rJ w hC hM hN).mono ?_
 rintro e w' ⟨⟨x,P,rfl,h1,h2,h3,h4⟩,hb⟩;exact⟨⟨x,P,rfl,⟨h1,h2,h3⟩,fun w'' h=>⟨h4 w'' h,h2,h3⟩⟩,hb⟩
theorem Sl.lit (w:World) (vs:List Value) (cs:Array Value) (hcs:cs=vs.toArray) (g n:Nat) (hg:g=w.heap.size) (hn:n=vs.length) (hm:n<=100) (t:TypeId):
  Sl (w.alloc (.cells cs t)) (some ⟨g,0, .none⟩) n n vs:=by
 subst hg hn hcs;refine⟨rfl,Nat.le_refl _,by unfold maxLen;omega,fun h=>(by cases h),fun i u hu=>⟨_,_,rfl,?_⟩⟩;simp[hu]
theorem aCt:∀s∈[abS,bS],s.size<=maxLen:=fun s hs=>by
 rcases List.mem_cons.1 hs with rfl | hs
 ·exact show 2<=maxLen by unfold maxLen;omega
 ·obtain rfl:=List.mem_singleton.1 hs;exact show 3<=maxLen by unfold maxLen;omega
theorem mM:A6 []:=⟨by simp,by simp,by simp⟩
theorem aBB:cE [] 2 [] 4:=⟨mM,by omega,by omega,⟨by simp,by simp,by simp⟩,by omega,by omega⟩
theorem sD (w:World) (hU:Usu w):Calls Tryz.prog 24 #[] w fun e w'=>e= .returned (.bool true)/\Below w.heap.size w w':=by
 obtain⟨w1,hw1⟩:∃w1,w.alloc (.cells #[.string ⟨#[97,98]⟩, .string ⟨#[97,98,99]⟩] 9)=w1:=⟨_,rfl⟩;have hb1:Below w.heap.size w w1:=hw1▸aA w _;have HS1:Hid (SlS w1 (some ⟨w.heap.size,0,none⟩) 2 2 [abS,bS]):=hW_ (by rw[<-hw1];exact Sl.lit w _ _ rfl _ _ rfl rfl (by simp) _);have HU1:=hW_ (hU.below hb1);have HB1:=hW_ hb1;have HW1:=hW_ hw1;clear hw1 hb1 hU;go_enter Tryz.func24,Tryz.ntmps24;go_wp2_with (fail);rw[HW1.out];refine(wR (M:=[abS,bS]) (N:=[]) w1 HS1.out Sl.none aCt (by simp) (by omega) (by omega)).mono ?_
 rintro e w2 ⟨hpost,hb2⟩;rw[R1_eq]at hpost;have hn0:nJ [abS,bS] []= []:=rfl;rw[hn0,voc_R1]at hpost;rcases hpost with⟨_,⟨ta,tn,tc,ma,mn,mc,sa,sn,sc⟩,rfl,hv⟩ | ⟨hn,_⟩;rotate_left
 ·exact absurd good_R1 hn
 obtain⟨w3,hw3⟩:∃w3,w2.alloc (.cells #[.slice ta tn tc, .slice ma mn mc, .slice sa sn sc] 26)=w3:=⟨_,rfl⟩;have hb3:Below w2.heap.size w2 w3:=hw3▸aA w2 _;have HB3:Hid (Below w.heap.size w w3):=hW_ (HB1.out.trans ((hb2.trans (hb3.mono hb2.size)).mono HB1.out.size));have HV3:=hW_ (hv.below hb3);have HU3:=hW_ ((HU1.out.below hb2).below hb3);have HW3:=hW_ hw3;clear hw3 hb3 hb2 hv hn0;simp only[Vd.val];go_wp2_with (fail);rw[HW3.out];refine(pK (dd:=⟨ta,tn,tc,ma,mn,mc,sa,sn,sc⟩) (kind:=2) (N:=[]) (T:=[]) (room:=4) w3 HV3.out ⟨fun s hs=>Nat.le_trans (oL.1.2.1 s hs) (by unfold maxLen;omega),fun s hs=>(by cases hs),(show 0<=1048576 by omega)⟩ Sl.none (by simp) (by omega) (SlF.nothing _) (by omega) HU3.out).mono ?_
 rintro e w4 ⟨hpost,hb4⟩;rcases hpost with⟨h,_⟩ | ⟨_,h,_⟩ | ⟨_,_,g,cb,mb,rfl,hcod⟩
 ·exact absurd oL h
 ·exact absurd aBB h
 have HB4:=hW_ (HB3.out.trans (hb4.mono HB3.out.size));have HCOD:=hW_ hcod.stay;clear hb4 hcod;go_wp2_with (fail);refine(Z1 w4 HCOD.out oL mM).mono ?_
 rintro e w5 ⟨⟨x,P,rfl,hi⟩,hb5⟩;have HB5:=hW_ (HB4.out.trans (hb5.mono HB4.out.size));have HI:=hW_ hi;clear hb5 hi;go_wp2_with (fail);refine(kY w5 HI.out).mono ?_
 rintro e w5' ⟨rfl,rfl⟩;rw[Y7];obtain⟨w6,hw6⟩:∃w6,w5.alloc (.cells #[.int .i64 97, .int .i64 98] 3)=w6:=⟨_,rfl⟩;have hb6:Below w5.heap.size w5 w6:=hw6▸aA w5 _;have HS6:Hid (SlI w6 (some ⟨w5.heap.size,0,none⟩) 2 2 [97,98]):=hW_ (by rw[<-hw6];exact Sl.lit w5 _ _ rfl _ _ rfl rfl (by simp) _);have HB6:=hW_ (HB5.out.trans (hb6.mono HB5.out.size));have HI6:=hW_ (HI.out.below hb6);have HW6:=hW_ hw6;clear hw6 hb6;go_wp2_with (fail);rw[HW6.out];refine(F1 w6 HI6.out oL HS6.out).mono ?_
 rintro e w7 ⟨⟨v,rfl,ho⟩,hb7⟩;rw[aAf]at ho;obtain⟨ao,cap,rfl,hs⟩:=ho.sl;obtain⟨w8,hw8⟩:∃w8,w7.alloc (.cells #[.int .i64 97, .int .i64 256, .int .i64 257] 3)=w8:=⟨_,rfl⟩;have hb8:Below w7.heap.size w7 w8:=hw8▸aA w7 _;have HS8:Hid (SlI w8 (some ⟨w7.heap.size,0,none⟩) 3 3 [97,256,257]):=hW_ (by rw[<-hw8];exact Sl.lit w7 _ _ rfl _ _ rfl rfl (by simp) _);have HA8:=hW_ (hs.below hb8);have HB8:=hW_ ((HB6.out.trans (hb7.mono HB6.out.size)).trans (hb8.mono (Nat.le_trans HB6.out.size hb7.size)));have HI8:=hW_ ((HI6.out.below hb7).below hb8);have HW8:=hW_ hw8;clear hw8 hb8 hb7 ho hs;go_wp2_with (fail);rw[HW8.out];refine(same10 w8 HA8.out HS8.out).mono ?_
 rintro e w9 ⟨k,rfl,rfl⟩;rw[nX rfl];obtain⟨wa,hwa⟩:∃wa,(w8.drewN k).alloc (.cells #[.int .i64 97, .int .i64 98] 3)=wa:=⟨_,rfl⟩;have hb9:Below w8.heap.size w8 (w8.drewN k):=bA (Below.refl _ _) k;have hba:Below (w8.drewN k).heap.size (w8.drewN k) wa:=hwa▸aA _ _;have HSA:Hid (SlI wa (some ⟨w8.heap.size,0,none⟩) 2 2 [97,98]):=hW_ (by rw[<-hwa];exact Sl.lit (w8.drewN k) _ _ rfl _ _ rfl rfl (by simp) _);have HBA:=hW_ (HB8.out.trans ((hb9.trans (hba.mono (Nat.le_refl _))).mono HB8.out.size));have HIA:=hW_ ((HI8.out.below hb9).below hba);have HWA:=hW_ hwa;clear hwa hb9 hba;have HBST:Hid (B1 (P.map FP.fr) [97,98] (min [(97:Int),98].length 64)=256):=hW_ (best_V1.all (goodF oL) HI.out.perm).symm;go_wp2_with (fail);rw[HWA.out];refine(lP wa HIA.out oL HSA.out).mono ?_
 rintro e wb ⟨rfl,hbb⟩;rw[HBST.out];have HBB:=hW_ (HBA.out.trans (hbb.mono HBA.out.size));clear hbb;go_wp2_with (fail);go_ret;exact⟨rfl,HBB.out⟩
theorem cA {P:Program} {md:Region.Mode} {ops:Array Oper} {Q:Exit->Act->World->Prop} {S:World->Prop} {i:Nat} {oi:Oper} {d:Option Tmp} {v:Value} {fuel:Nat} {listed:Array Bool} {a:Act} {w:World} (hi:ops[i]?=some oi) (hd:oi.dst=d)
  (hs:Region.noSelect ops=true) (hf:Region.free md ops listed i=true) (hr:(Region.ready md ops listed).contains i=true)
  (hQ:∀c a w,Q (.panic c) (a.put d v) w->Q (.panic c) a w) (hy:YieldsIf P ops S oi v a) (hS:S w)
  (h:wpAnyH P md ops Q S fuel (listed.setIfInBounds i true) (a.put d v) w):wpAnyH P md ops Q S (fuel+1) listed a w:=by
 subst hd;exact wpAnyH_take hi hs hf hr hQ hy hS h
theorem O9 {V:Vc} {dd:Vd} {N:List ByteArray} {kind:Int} {T:List Rg} {room:Int} {no to_:Option Addr} {nn nc tn tc:Nat} (cut:Int) {so:Option Addr} {sl sc:Nat} {SL:List Int} {uo:Option Addr} {ul uc:Nat} {UL:List Int} (w:World) (hV:eE w dd V) (hok:(∀s∈V.tokens,s.size<=maxLen)/\M3 V.specials) (hN:SlS w no nn nc N) (hNs:∀s∈N,s.size<=maxLen)
  (hT:SlF 3 w to_ tn tc (flat Rg.enc T)) (hs:SlI w so sl sc SL) (hu:SlI w uo ul uc UL) (hcut0:0<=cut/\cut<256) (hU:Usu w):
  Frame.Law Tryz.prog 4 #[.agg #[.slice dd.ta dd.tn dd.tc, .slice dd.ma dd.mn dd.mc, .slice dd.sa dd.sn dd.sc, .slice no nn nc, .int .i64 kind, .slice to_ tn tc, .int .i64 room], .slice so sl sc, .int .u8 cut, .slice uo ul uc] w:=by
 unfold Frame.Law;obtain⟨ta,tn',tc',ma,mn,mc,sa,sn,sc'⟩:=dd;obtain⟨w0,hw0⟩:∃w0,w.alloc (.cells #[.slice ta tn' tc', .slice ma mn mc, .slice sa sn sc', .slice no nn nc, .int .i64 kind, .slice to_ tn tc, .int .i64 room] 29)=w0:=⟨_,rfl⟩;have hb0:Below w.heap.size w w0:=hw0▸aA w _;have hx0:w0.heap[w.heap.size]?=some (.cells #[.slice ta tn' tc', .slice ma mn mc, .slice sa sn sc', .slice no nn nc, .int .i64 kind, .slice to_ tn tc, .int .i64 room] 29):=by rw[<-hw0];exact heap_alloc_new w _
 have hmade:=rW (dd:=⟨ta,tn',tc',ma,mn,mc,sa,sn,sc'⟩) (kind:=kind) (room:=room) w0 (hV.below hb0) hok (Sl.below hN hb0) hNs (hT.below hb0) (hU.below hb0);have Hs:=hW_ hs;have hmxs:=Nat.le_trans (Sl.le hs) (Sl.max hs);have hlns:=hs.len;unfold maxLen at hmxs;have Hu:=hW_ hu;have hmxu:=Nat.le_trans (Sl.le hu) (Sl.max hu);have hlnu:=hu.len;unfold maxLen at hmxu;have HU:=hW_ hU;have HB0:=hW_ hb0;have HW0:=hW_ hw0;obtain⟨c0,c1,c2,c3,c4,c5,c6⟩:=box7 hx0;rw[<-HW0.out]at c0 c1 c2 c3 c4 c5 c6;clear hV hok hN hNs hT hU hb0 hw0 hx0 hs hu;go_enter Tryz.func4,Tryz.ntmps4;go_wp2_with (fail);rw[HW0.out];clear c0 c1 c2 c3 c4 c5 c6;refine hmade.mono ?_
 rintro e w1 ⟨hpost,hb1⟩;have hZ01:Hid (w0.heap.size<=w1.heap.size):=hW_ hb1.size;have HB01:=hW_ hb1;have HB1:Hid (Below w.heap.size w w1):=hW_ (HB0.out.trans (hb1.mono HB0.out.size));clear hb1 hmade;rcases hpost with⟨rfl,-⟩ | ⟨hM,hOK,hG,g,cb,mb,to2,tn2,tc2,rfl,hTC,hCR,hTB⟩
 ·unfold noC;have hb2:=HB1.out.alloc HB1.out.size (.cells #[.slice none 0 0, .slice none 0 0, .slice none 0 0, .slice none 0 0, .int .i64 0, .slice none 0 0] 32);have HB2:=hW_ hb2;clear hb2;go_wp2_with (fail);refine(sD _ (HU.out.below HB2.out)).mono ?_
  rintro e w3 ⟨rfl,hb3⟩;have HB3:=hW_ (HB2.out.trans (hb3.mono HB2.out.size));clear hb3;go_wp2_with (fail);go_ret;exact⟨rfl,HB3.out⟩
 obtain⟨w2,hw2⟩:∃w2,w1.alloc (.cells #[.slice ta tn' tc', .slice ma mn mc, .slice sa sn sc', .slice no nn nc, .int .i64 kind, .slice to2 tn2 tc2] 32)=w2:=⟨_,rfl⟩;have hb2:Below w1.heap.size w1 w2:=hw2▸aA w1 _;have hx2:w2.heap[w1.heap.size]?=some (.cells #[.slice ta tn' tc', .slice ma mn mc, .slice sa sn sc', .slice no nn nc, .int .i64 kind, .slice to2 tn2 tc2] 32):=by rw[<-hw2];exact heap_alloc_new w1 _
 have hz2:w1.heap.size<w2.heap.size:=by rw[<-hw2];simp
 have HB2:Hid (Below w.heap.size w w2):=hW_ (HB1.out.trans (hb2.mono HB1.out.size));have hK1:=Cdr.new hTC hOK.2.2.2.2.1;have HK1:=hW_ (hK1.below hb2);have HCR:=hW_ (hCR.below hb2);have HM:=hW_ hM;have HOK:=hW_ hOK;have HX2:=hW_ hx2;have HZ2:=hW_ hz2;have HW2:=hW_ hw2;have HN1:Hid (N.length<=16/\0<=kind/\kind<=3/\mA (C3 T)/\0<=room/\room<=1048576):=hW_ ⟨hOK.1.1,hOK.2.1,hOK.2.2.1,aBK hOK.2.2.2.1,hOK.2.2.2.2.1,hOK.2.2.2.2.2⟩;clear hb2 hx2 hz2 hw2 hTC hCR hTB hM hOK hG hK1;unfold X4
 by_cases hls:20<sl
 ·have hl1:(20:Int)<(sl:Int):=by omega
  go_wp2_with (fail);rw[HW2.out];refine(sD _ (HU.out.below HB2.out)).mono ?_
  rintro e w3 ⟨rfl,hb3⟩;have HB3:=hW_ (HB2.out.trans (hb3.mono HB2.out.size));clear hb3;go_wp2_with (fail);go_ret;exact⟨rfl,HB3.out⟩
 have hls1:¬(20:Int)<(sl:Int):=by omega
 by_cases hlu:60<ul
 ·have hl1:(60:Int)<(ul:Int):=by omega
  go_wp2_with (fail);rw[HW2.out];refine(sD _ (HU.out.below HB2.out)).mono ?_
  rintro e w3 ⟨rfl,hb3⟩;have HB3:=hW_ (HB2.out.trans (hb3.mono HB2.out.size));clear hb3;go_wp2_with (fail);go_ret;exact⟨rfl,HB3.out⟩
 have hlu1:¬(60:Int)<(ul:Int):=by omega
 obtain⟨cbx,hcod⟩:=HK1.out.cod;have HTC:Hid (∀w'',Below w2.heap.size w2 w''->mG w'' w0.heap.size g V N kind (C3 T) cbx):=hW_ (fun w'' h=>hcod.below h);clear hcod;go_wp2_with (fail);rw[HW2.out];go_at_call 25;refine(fX w2 HTC.out HM.out HOK.out.1).mono ?_
 rintro e w3 ⟨⟨x,P,rfl,hi,hh⟩,hb3⟩;have HB23:=hW_ hb3;have HB3:=hW_ (HB2.out.trans (hb3.mono HB2.out.size));have HI:=hW_ hi;have HH:=hW_ hh;obtain⟨b0,b1,b2,b3,b4,b5,bf⟩:=nK ((hb3.block _ HZ2.out).trans HX2.out);have hd:=qR (dd:=⟨ta,tn',tc',ma,mn,mc,sa,sn,sc'⟩) (kind:=kind) (to_:=to2) (tn':=tn2) (tc':=tc2) w3 (HCR.out.below hb3) (SlI.below Hs.out HB3.out) (by omega);unfold X4 aBg at hd;obtain⟨⟨R,er⟩,hR⟩:∃r,xA V N SL=r:=⟨_,rfl⟩;rw[hR]at hd;dsimp only at hd;have HD:=hW_ hd;have HRR:=hW_ hR;clear hi hh hb3 hd hR;go_wp2_with (fail);go_at_call 26;refine HD.out.mono ?_
 rintro e w4 ⟨⟨v4,rfl,ho4⟩,hb4⟩;obtain⟨a4,k4,rfl,hs4⟩:=Own.sl (show Own w4 w3.heap.size v4 R from ho4);have HS4:=hW_ hs4;have HB4:=hW_ (HB3.out.trans (hb4.mono HB3.out.size));have HI4:=hW_ (HI.out.below hb4);have HB34:=hW_ hb4;obtain⟨rn,hrn⟩:∃n,R.length=n:=⟨_,rfl⟩;have hrm:=Nat.le_trans (Sl.le hs4) (Sl.max hs4);unfold maxLen at hrm;rw[hrn]at HS4 hrm |-;have HRN:=hW_ hrn;clear ho4 hb4 hs4 hrn b0 b1 b2 b3 b4 b5 bf
 go_upto_region 6 with(fail)
 go_cut [51] from 45 (fun c wx=>c= .bool (decide (er=0/\0<rn))/\wx=w4)
 case first=>
  by_cases h1:er=0
  ·have g1:(er==0)=true:=by simpa using h1
   by_cases h2:0<rn
   ·have g2:decide ((0:Int)<(rn:Int))=true:=by simp;omega
    have K:Hid (decide (er=0/\0<rn)=true):=hW_ (decide_eq_true ⟨h1,h2⟩);clear h1 h2;go_wp2_with (fail);go_meet
    case rel=>exact⟨by rw[K.out]<;>first | rfl | simpa using g2,rfl⟩
   ·have g2:decide ((0:Int)<(rn:Int))=false:=by simp;omega
    have K:Hid (decide (er=0/\0<rn)=false):=hW_ (decide_eq_false (fun h=>h2 h.2));clear h1 h2;go_wp2_with (fail);go_meet
    case rel=>exact⟨by rw[K.out]<;>first | rfl | simpa using g2,rfl⟩
  ·have g1:(er==0)=false:=by simpa using h1
   have K:Hid (decide (er=0/\0<rn)=false):=hW_ (decide_eq_false (fun h=>h1 h.1));clear h1;go_wp2_with (fail);go_meet
   case rel=>exact⟨by rw[K.out]<;>first | rfl | simpa using g2,rfl⟩
 case rest=>
 obtain⟨rfl,rfl⟩:=hcut;obtain⟨w5,hw5⟩:∃w5,w5=wc:=⟨_,rfl⟩;subst hw5;generalize hbb:decide (er=0/\0<rn)=bb;go_upto_if 51 with(fail);go_cut [] from 51 (fun wx=>Hid (Ge w5 wx))
 case first=>
  cases bb
  rotate_left
  ·have hc:=of_decide_eq_true hbb;obtain⟨q,hq⟩:∃q:Nat,cut % (rn:Int)=q:=⟨(cut % (rn:Int)).toNat,by have:=Int.emod_nonneg cut (show(rn:Int)≠0 by omega);omega⟩;have hql:q<rn:=by have:=Int.emod_lt_of_pos cut (show(0:Int)<(rn:Int) by omega);omega
   have hw1:IntKind.i64.wrap cut=cut:=by rw[IntKind.wrap_i64];omega
   have hw2:Int.tmod cut (rn:Int)=(q:Int):=by rw[Int.tmod_eq_emod_of_nonneg hcut0.1];exact hq
   have hw3:IntKind.i64.wrap (1+(q:Int))=((1+q:Nat):Int):=by rw[IntKind.wrap_i64];omega
   have hz:((rn:Int)==0)=false:=by simp;omega
   have hz2:¬(rn:Int)=0:=by omega
   have hq2:cut % (rn:Int)=(q:Int):=hq;obtain⟨i0,hi0,hz0,hz1,hzz⟩:=info_parts vC;have hfx:=iX HM.out (by have:=HRR.out;rw[hc.1]at this;exact this) (s:=R.take (1+q)) (by intro e;have:=congrArg List.length e;rw[List.length_take,HRN.out]at this;simp at this;omega) (List.take_prefix _ _);have hs0:0<sl:=by have:=hfx.1;omega
   obtain⟨tb,tf,hao,hct⟩:=(SlI.below Hs.out HB4.out).at_ hs0;subst hao;rw[Nat.add_zero]at hct;obtain⟨AL,hAL⟩:∃A,cC (B8 V N) (R.take (1+q))=A:=⟨_,rfl⟩;obtain⟨y,hy⟩:∃y,ix SL 0=y:=⟨_,rfl⟩;rw[hAL,hy]at hfx;rw[hy]at hct;have hin:decide (y∈AL)=true:=decide_eq_true hfx.2;have HALL:Hid (∀W,Ge w5 W->Calls Tryz.prog 28 #[.pointer (some ⟨x,0,none⟩), .slice a4 (1+q) k4] W fun E w'=>∃vo vc,E= .returned (.slice vo AL.length vc)/\SlI w' vo AL.length vc AL/\Ge w5 w'):=hW_ (fun W h=>by
    have ha:=F1 W (HI4.out.below h) HM.out (SlI.below (HS4.out.take (k:=1+q) (by omega)) h);rw[hAL]at ha;refine ha.mono ?_
    rintro E w' ⟨⟨v,rfl,ho⟩,hb⟩;obtain⟨vo,vc,rfl,hs⟩:=ho.sl;exact⟨vo,vc,rfl,hs,h.below hb⟩)
   have HHS:Hid (∀W vo vc,SlI W vo AL.length vc AL->Calls Tryz.prog 27 #[.slice vo AL.length vc, .int .i64 y] W fun E w'=>E= .returned (.bool true)/\W=w'):=hW_ (fun W vo vc h=>by have:=S9 y W h;rw[hin]at this;exact this);have G0:=fun w' (hg:Ge w5 w')=>hg.at w5 w' hct
   have gr:=Ge.refl w5;have gs0:(0:Int)<(sl:Int):=by omega
   have hs1:0<sl:=hs0;clear hc hbb hq hfx hs0 hAL hy hin hct;go_wp2_with (with_reducible show wpList _ _ _ (⟨_, .slice _ _ none (some _) none,_,_,_,_⟩::_) _ _;refine rI rfl 40 _ _ rfl 3 i0 Tryz.underlying40 hi0 hz1 (k:=1+q) rfl HS4.out rfl rfl (by omega) ?_;intro hs5;clear hs5)
   go_region_held3 (Ge w5) (first | (with_reducible assumption) | (with_reducible refine Ge.drew ?_;with_reducible assumption) | (with_reducible refine Ge.drewN ?_ _;with_reducible assumption)) (first
    | (go_at_call 28;refine(HALL.out _ (by first | assumption | exact Ge.drewN gr _)).mono ?_;rintro E w6 ⟨vo6,vc6,rfl,hs6,hg6⟩;have HS6:=hW_ hs6;clear hs6)
    | (go_at_call 27;refine(HHS.out _ _ _ HS6.out).mono ?_;rintro E W7 ⟨rfl,rfl⟩))
   go_wp2_with (fail);go_meet
   case rel=>exact hW_ (by assumption)
  ·clear hbb;go_wp2_with (fail);go_meet
   case rel=>exact hW_ (Ge.refl _)
 case rest=>
 have hBc:Below w2.heap.size w2 wc:=HB23.out.trans ((HB34.out.mono HB23.out.size).trans (Below.mono hcut.out (by have:=HB23.out.size;have:=HB34.out.size;omega)));have HKc:=hW_ (HK1.out.below hBc);have HBc:Hid (Below w.heap.size w wc):=hW_ (HB2.out.trans (hBc.mono HB2.out.size));have HGc:=hcut;have hz5:=hcut.out.size;clear hcut hBc
 by_cases hck:vA V N UL=0
 rotate_left
 ·obtain⟨z,hz⟩:∃z,vA V N UL=z:=⟨_,rfl⟩;obtain⟨cb3,hcod⟩:=HKc.out.cod;have hen:=jR wc hcod HN1.out.1 (SlI.below Hu.out HBc.out) (by omega) hck;rw[hz]at hen hck;have gz:(z != 0)=true:=by simpa using hck
  have HEN:=hW_ hen;have HFX:=hW_ (fun W (h:Ge wc W)=>(sD W (HU.out.below (HBc.out.trans (h.mono HBc.out.size)))).mono (R':=fun e w'=>e= .returned (.bool true)/\Ge wc w') (fun e w' hh=>⟨hh.1,h.below hh.2⟩));have gr:=Ge.refl wc;have gzn:¬z=0:=hck;clear hen hcod hck hz;go_wp2_with (fail);go_at_call 29;refine HEN.out.mono ?_
  rintro e W6 ⟨rfl,rfl⟩;go_wp2_with (fail);refine wp_region_held_drew (S:=Ge W6) (by kernel_rfl) (by first | assumption | exact Ge.drewN gr _ | (refine Ge.drew ?_;assumption)) (fun hHeld=> ?_);refine wpAnyH_ready (rs:=[0]) (by kernel_rfl) (by simp) ?_
  refine AllReadyH.cons rfl (fun K hK=> ?_) AllReadyH.nil
  go_simp
  go_at_call 24;refine(HFX.out _ (by first | assumption | exact Ge.drewN gr _)).mono ?_
  rintro E w10 ⟨rfl,hg10⟩;go_wp2_with (fail);refine hK.out _ _ (by assumption) (fun hHeld2=> ?_);clear hK K hHeld
  try simp only[Act.put,List.setIfInBounds_toArray,List.set_cons_zero,List.set_cons_succ]
  refine cA (i:=1) (d:=some 75) (v:= .bool true) rfl rfl (by kernel_rfl) (by kernel_rfl) (by kernel_rfl) (fun _ _ _ h=>h) (Or.inl ⟨by rfl,fun w hSw=>by(try dsimp only at hSw);go_simp⟩) (by assumption) ?_
  try simp only[Act.put,List.setIfInBounds_toArray,List.set_cons_zero,List.set_cons_succ]
  refine cA (i:=2) (d:=some 76) (v:= .int .i64 z) rfl rfl (by kernel_rfl) (by kernel_rfl) (by kernel_rfl) (fun _ _ _ h=>h) (Or.inl ⟨by rfl,fun w hSw=>by(try dsimp only at hSw);go_simp⟩) (by assumption) ?_
  try simp only[Act.put,List.setIfInBounds_toArray,List.set_cons_zero,List.set_cons_succ]
  refine cA (i:=3) (d:=some 77) (v:= .bool true) rfl rfl (by kernel_rfl) (by kernel_rfl) (by kernel_rfl) (fun _ _ _ h=>h) (Or.inl ⟨by rfl,fun w hSw=>by(try dsimp only at hSw);go_simp⟩) (by assumption) ?_
  try simp only[Act.put,List.setIfInBounds_toArray,List.set_cons_zero,List.set_cons_succ]
  refine cA (i:=4) (d:=some 78) (v:= .bool true) rfl rfl (by kernel_rfl) (by kernel_rfl) (by kernel_rfl) (fun _ _ _ h=>h) (Or.inl ⟨by rfl,fun w hSw=>by(try dsimp only at hSw);go_simp⟩) (by assumption) ?_
  try simp only[Act.put,List.setIfInBounds_toArray,List.set_cons_zero,List.set_cons_succ]
  refine cA (i:=5) (d:=some 79) (v:=undef) rfl rfl (by kernel_rfl) (by kernel_rfl) (by kernel_rfl) (fun _ _ _ h=>h) (Or.inr ⟨by rfl,rfl⟩) (by assumption) ?_
  try simp only[Act.put,List.setIfInBounds_toArray,List.set_cons_zero,List.set_cons_succ]
  refine cA (i:=6) (d:=some 80) (v:=undef) rfl rfl (by kernel_rfl) (by kernel_rfl) (by kernel_rfl) (fun _ _ _ h=>h) (Or.inr ⟨by rfl,rfl⟩) (by assumption) ?_
  try simp only[Act.put,List.setIfInBounds_toArray,List.set_cons_zero,List.set_cons_succ]
  refine cA (i:=7) (d:=some 81) (v:=undef) rfl rfl (by kernel_rfl) (by kernel_rfl) (by kernel_rfl) (fun _ _ _ h=>h) (Or.inr ⟨by rfl,rfl⟩) (by assumption) ?_
  try simp only[Act.put,List.setIfInBounds_toArray,List.set_cons_zero,List.set_cons_succ]
  refine cA (i:=8) (d:=some 82) (v:= .bool true) rfl rfl (by kernel_rfl) (by kernel_rfl) (by kernel_rfl) (fun _ _ _ h=>h) (Or.inl ⟨by rfl,fun w hSw=>by(try dsimp only at hSw);go_simp⟩) (by assumption) ?_
  try simp only[Act.put,List.setIfInBounds_toArray,List.set_cons_zero,List.set_cons_succ]
  refine cA (i:=9) (d:=some 83) (v:= .bool true) rfl rfl (by kernel_rfl) (by kernel_rfl) (by kernel_rfl) (fun _ _ _ h=>h) (Or.inl ⟨by rfl,fun w hSw=>by(try dsimp only at hSw);go_simp⟩) (by assumption) ?_
  try simp only[Act.put,List.setIfInBounds_toArray,List.set_cons_zero,List.set_cons_succ]
  refine cA (i:=10) (d:=some 84) (v:=undef) rfl rfl (by kernel_rfl) (by kernel_rfl) (by kernel_rfl) (fun _ _ _ h=>h) (Or.inr ⟨by rfl,rfl⟩) (by assumption) ?_
  try simp only[Act.put,List.setIfInBounds_toArray,List.set_cons_zero,List.set_cons_succ]
  refine cA (i:=11) (d:=some 85) (v:=undef) rfl rfl (by kernel_rfl) (by kernel_rfl) (by kernel_rfl) (fun _ _ _ h=>h) (Or.inr ⟨by rfl,rfl⟩) (by assumption) ?_
  try simp only[Act.put,List.setIfInBounds_toArray,List.set_cons_zero,List.set_cons_succ]
  refine cA (i:=12) (d:=some 86) (v:=undef) rfl rfl (by kernel_rfl) (by kernel_rfl) (by kernel_rfl) (fun _ _ _ h=>h) (Or.inr ⟨by rfl,rfl⟩) (by assumption) ?_
  try simp only[Act.put,List.setIfInBounds_toArray,List.set_cons_zero,List.set_cons_succ]
  refine cA (i:=13) (d:=some 87) (v:=undef) rfl rfl (by kernel_rfl) (by kernel_rfl) (by kernel_rfl) (fun _ _ _ h=>h) (Or.inr ⟨by rfl,rfl⟩) (by assumption) ?_
  try simp only[Act.put,List.setIfInBounds_toArray,List.set_cons_zero,List.set_cons_succ]
  refine cA (i:=14) (d:=some 88) (v:=undef) rfl rfl (by kernel_rfl) (by kernel_rfl) (by kernel_rfl) (fun _ _ _ h=>h) (Or.inr ⟨by rfl,rfl⟩) (by assumption) ?_
  try simp only[Act.put,List.setIfInBounds_toArray,List.set_cons_zero,List.set_cons_succ]
  refine cA (i:=15) (d:=some 89) (v:=undef) rfl rfl (by kernel_rfl) (by kernel_rfl) (by kernel_rfl) (fun _ _ _ h=>h) (Or.inr ⟨by rfl,rfl⟩) (by assumption) ?_
  try simp only[Act.put,List.setIfInBounds_toArray,List.set_cons_zero,List.set_cons_succ]
  refine cA (i:=16) (d:=some 90) (v:=undef) rfl rfl (by kernel_rfl) (by kernel_rfl) (by kernel_rfl) (fun _ _ _ h=>h) (Or.inr ⟨by rfl,rfl⟩) (by assumption) ?_
  try simp only[Act.put,List.setIfInBounds_toArray,List.set_cons_zero,List.set_cons_succ]
  refine cA (i:=17) (d:=some 91) (v:=undef) rfl rfl (by kernel_rfl) (by kernel_rfl) (by kernel_rfl) (fun _ _ _ h=>h) (Or.inr ⟨by rfl,rfl⟩) (by assumption) ?_
  try simp only[Act.put,List.setIfInBounds_toArray,List.set_cons_zero,List.set_cons_succ]
  refine cA (i:=18) (d:=some 92) (v:=undef) rfl rfl (by kernel_rfl) (by kernel_rfl) (by kernel_rfl) (fun _ _ _ h=>h) (Or.inr ⟨by rfl,rfl⟩) (by assumption) ?_
  try simp only[Act.put,List.setIfInBounds_toArray,List.set_cons_zero,List.set_cons_succ]
  refine cA (i:=19) (d:=some 93) (v:=undef) rfl rfl (by kernel_rfl) (by kernel_rfl) (by kernel_rfl) (fun _ _ _ h=>h) (Or.inr ⟨by rfl,rfl⟩) (by assumption) ?_
  try simp only[Act.put,List.setIfInBounds_toArray,List.set_cons_zero,List.set_cons_succ]
  refine cA (i:=20) (d:=some 94) (v:=undef) rfl rfl (by kernel_rfl) (by kernel_rfl) (by kernel_rfl) (fun _ _ _ h=>h) (Or.inr ⟨by rfl,rfl⟩) (by assumption) ?_
  try simp only[Act.put,List.setIfInBounds_toArray,List.set_cons_zero,List.set_cons_succ]
  refine cA (i:=21) (d:=some 95) (v:=undef) rfl rfl (by kernel_rfl) (by kernel_rfl) (by kernel_rfl) (fun _ _ _ h=>h) (Or.inr ⟨by rfl,rfl⟩) (by assumption) ?_
  try simp only[Act.put,List.setIfInBounds_toArray,List.set_cons_zero,List.set_cons_succ]
  refine cA (i:=22) (d:=some 96) (v:= .bool true) rfl rfl (by kernel_rfl) (by kernel_rfl) (by kernel_rfl) (fun _ _ _ h=>h) (Or.inl ⟨by rfl,fun w hSw=>by(try dsimp only at hSw);go_simp⟩) (by assumption) ?_
  try simp only[Act.put,List.setIfInBounds_toArray,List.set_cons_zero,List.set_cons_succ]
  refine cA (i:=23) (d:=some 97) (v:= .bool true) rfl rfl (by kernel_rfl) (by kernel_rfl) (by kernel_rfl) (fun _ _ _ h=>h) (Or.inl ⟨by rfl,fun w hSw=>by(try dsimp only at hSw);go_simp⟩) (by assumption) ?_
  try simp only[Act.put,List.setIfInBounds_toArray,List.set_cons_zero,List.set_cons_succ]
  refine cA (i:=24) (d:=some 8) (v:= .bool true) rfl rfl (by kernel_rfl) (by kernel_rfl) (by kernel_rfl) (fun _ _ _ h=>h) (Or.inl ⟨by rfl,fun w hSw=>by(try dsimp only at hSw);go_simp⟩) (by assumption) ?_
  try simp only[Act.put,List.setIfInBounds_toArray,List.set_cons_zero,List.set_cons_succ]
  refine wpAnyH_done (by kernel_rfl) ?_ _
  go_wp2_with (fail);go_ret;exact⟨rfl,HBc.out.trans (Below.mono (by assumption) HBc.out.size)⟩
 obtain⟨TX,hTX⟩:∃F,kV V N kind (C3 T) UL=F:=⟨_,rfl⟩;obtain⟨q1,q2,q3,q4,q5,q6⟩:=HN1.out;have hen:=kR wc HKc.out HM.out q1 q4 q2 q3 q6 (SlI.below Hu.out HBc.out) (fun ad e h0=>⟨(SlI.below Hu.out HBc.out).blk ad e h0,fun hq=>by have:=Hu.out.blk ad e h0;have:=HB0.out.size;omega⟩) (by omega) (by omega) hck;have hdx:xA V N TX=(UL,0):=by rw[<-hTX];exact dec_text HM.out HOK.out.1 q4 hck
 rw[hTX]at hen;have HEN:=hW_ hen;have HDX:=hW_ hdx;clear hen hdx hTX q1 q2 q3 q4 q5 q6;go_wp2_with (fail);go_at_call 29;refine HEN.out.mono ?_
 rintro e w6 ⟨v6,P6,rfl,ho6,-,-,-,hk6⟩;have hb6:Below w0.heap.size wc w6:=hk6.below (by have:=HBc.out.size;have:=hZ01.out;have:=HZ2.out;have:=HB23.out.size;have:=HB34.out.size;omega) (fun q hq=>hq.1);have HB6:Hid (Below w.heap.size w w6):=hW_ (HBc.out.trans (hb6.mono HB0.out.size));have HI6:=hW_ (HH.out w6 (fun q h1 h2=>(hk6.block q (by have:=HB34.out.size;omega) (fun hq=>by have:=HZ2.out;omega)).trans ((HGc.out.block q (by have:=HB34.out.size;omega)).trans (HB34.out.block q h2))));have HFX:=hW_ (fun W (h:Ge w6 W)=>(sD W (HU.out.below (HB6.out.trans (h.mono HB6.out.size)))).mono (R':=fun e w'=>e= .returned (.bool true)/\Ge w6 w') (fun e w' hh=>⟨hh.1,h.below hh.2⟩));have gr:=Ge.refl w6;obtain⟨a6,k6,rfl,hs6⟩:=ho6.sl
 by_cases hu0:ul=0
 ·have gu:((ul:Int)==0)=true:=by simp;omega
  have gu2:decide ((ul:Int)=0)=true:=by simp;omega
  have gu3:(ul==0)=true:=by simp;omega
  have gu4:decide (ul=0)=true:=by simp;omega
  have gu5:((ul:Int)=0)=True:=by simp;omega
  have gu6:(ul=0)=True:=by simp;omega
  clear hu0 ho6 hk6 hb6 hs6;go_wp2_with (fail);refine wp_region_held_drew (S:=Ge w6) (by kernel_rfl) (by first | assumption | exact Ge.drewN gr _ | (refine Ge.drew ?_;assumption)) (fun hHeld=> ?_);refine wpAnyH_ready (rs:=[0]) (by kernel_rfl) (by simp) ?_
  refine AllReadyH.cons rfl (fun K hK=> ?_) AllReadyH.nil
  go_simp
  go_at_call 24;refine(HFX.out _ (by first | assumption | exact Ge.drewN gr _)).mono ?_
  rintro E w10 ⟨rfl,hg10⟩;go_wp2_with (fail);refine hK.out _ _ (by assumption) (fun hHeld2=> ?_);clear hK K hHeld
  try simp only[Act.put,List.setIfInBounds_toArray,List.set_cons_zero,List.set_cons_succ]
  refine cA (i:=1) (d:=some 75) (v:= .bool true) rfl rfl (by kernel_rfl) (by kernel_rfl) (by kernel_rfl) (fun _ _ _ h=>h) (Or.inl ⟨by rfl,fun w hSw=>by(try dsimp only at hSw);go_simp⟩) (by assumption) ?_
  try simp only[Act.put,List.setIfInBounds_toArray,List.set_cons_zero,List.set_cons_succ]
  refine cA (i:=2) (d:=some 76) (v:= .int .i64 0) rfl rfl (by kernel_rfl) (by kernel_rfl) (by kernel_rfl) (fun _ _ _ h=>h) (Or.inl ⟨by rfl,fun w hSw=>by(try dsimp only at hSw);go_simp⟩) (by assumption) ?_
  try simp only[Act.put,List.setIfInBounds_toArray,List.set_cons_zero,List.set_cons_succ]
  refine cA (i:=3) (d:=some 77) (v:= .bool false) rfl rfl (by kernel_rfl) (by kernel_rfl) (by kernel_rfl) (fun _ _ _ h=>h) (Or.inl ⟨by rfl,fun w hSw=>by(try dsimp only at hSw);go_simp⟩) (by assumption) ?_
  try simp only[Act.put,List.setIfInBounds_toArray,List.set_cons_zero,List.set_cons_succ]
  refine cA (i:=4) (d:=some 78) (v:= .bool false) rfl rfl (by kernel_rfl) (by kernel_rfl) (by kernel_rfl) (fun _ _ _ h=>h) (Or.inl ⟨by rfl,fun w hSw=>by(try dsimp only at hSw);go_simp⟩) (by assumption) ?_
  try simp only[Act.put,List.setIfInBounds_toArray,List.set_cons_zero,List.set_cons_succ]
  refine cA (i:=5) (d:=some 79) (v:= .slice uo ul uc) rfl rfl (by kernel_rfl) (by kernel_rfl) (by kernel_rfl) (fun _ _ _ h=>h) (Or.inl ⟨by rfl,fun w hSw=>by(try dsimp only at hSw);go_simp⟩) (by assumption) ?_
  try simp only[Act.put,List.setIfInBounds_toArray,List.set_cons_zero,List.set_cons_succ]
  refine cA (i:=6) (d:=some 80) (v:= .int .i64 ul) rfl rfl (by kernel_rfl) (by kernel_rfl) (by kernel_rfl) (fun _ _ _ h=>h) (Or.inl ⟨by rfl,fun w hSw=>by(try dsimp only at hSw);go_simp⟩) (by assumption) ?_
  try simp only[Act.put,List.setIfInBounds_toArray,List.set_cons_zero,List.set_cons_succ]
  refine cA (i:=7) (d:=some 81) (v:= .bool true) rfl rfl (by kernel_rfl) (by kernel_rfl) (by kernel_rfl) (fun _ _ _ h=>h) (Or.inl ⟨by rfl,fun w hSw=>by(try dsimp only at hSw);go_simp⟩) (by assumption) ?_
  try simp only[Act.put,List.setIfInBounds_toArray,List.set_cons_zero,List.set_cons_succ]
  refine cA (i:=8) (d:=some 82) (v:= .bool true) rfl rfl (by kernel_rfl) (by kernel_rfl) (by kernel_rfl) (fun _ _ _ h=>h) (Or.inl ⟨by rfl,fun w hSw=>by(try dsimp only at hSw);go_simp⟩) (by assumption) ?_
  try simp only[Act.put,List.setIfInBounds_toArray,List.set_cons_zero,List.set_cons_succ]
  refine cA (i:=9) (d:=some 83) (v:= .bool true) rfl rfl (by kernel_rfl) (by kernel_rfl) (by kernel_rfl) (fun _ _ _ h=>h) (Or.inl ⟨by rfl,fun w hSw=>by(try dsimp only at hSw);go_simp⟩) (by assumption) ?_
  try simp only[Act.put,List.setIfInBounds_toArray,List.set_cons_zero,List.set_cons_succ]
  refine cA (i:=10) (d:=some 84) (v:=undef) rfl rfl (by kernel_rfl) (by kernel_rfl) (by kernel_rfl) (fun _ _ _ h=>h) (Or.inr ⟨by rfl,rfl⟩) (by assumption) ?_
  try simp only[Act.put,List.setIfInBounds_toArray,List.set_cons_zero,List.set_cons_succ]
  refine cA (i:=11) (d:=some 85) (v:=undef) rfl rfl (by kernel_rfl) (by kernel_rfl) (by kernel_rfl) (fun _ _ _ h=>h) (Or.inr ⟨by rfl,rfl⟩) (by assumption) ?_
  try simp only[Act.put,List.setIfInBounds_toArray,List.set_cons_zero,List.set_cons_succ]
  refine cA (i:=12) (d:=some 86) (v:=undef) rfl rfl (by kernel_rfl) (by kernel_rfl) (by kernel_rfl) (fun _ _ _ h=>h) (Or.inr ⟨by rfl,rfl⟩) (by assumption) ?_
  try simp only[Act.put,List.setIfInBounds_toArray,List.set_cons_zero,List.set_cons_succ]
  refine cA (i:=13) (d:=some 87) (v:=undef) rfl rfl (by kernel_rfl) (by kernel_rfl) (by kernel_rfl) (fun _ _ _ h=>h) (Or.inr ⟨by rfl,rfl⟩) (by assumption) ?_
  try simp only[Act.put,List.setIfInBounds_toArray,List.set_cons_zero,List.set_cons_succ]
  refine cA (i:=14) (d:=some 88) (v:=undef) rfl rfl (by kernel_rfl) (by kernel_rfl) (by kernel_rfl) (fun _ _ _ h=>h) (Or.inr ⟨by rfl,rfl⟩) (by assumption) ?_
  try simp only[Act.put,List.setIfInBounds_toArray,List.set_cons_zero,List.set_cons_succ]
  refine cA (i:=15) (d:=some 89) (v:=undef) rfl rfl (by kernel_rfl) (by kernel_rfl) (by kernel_rfl) (fun _ _ _ h=>h) (Or.inr ⟨by rfl,rfl⟩) (by assumption) ?_
  try simp only[Act.put,List.setIfInBounds_toArray,List.set_cons_zero,List.set_cons_succ]
  refine cA (i:=16) (d:=some 90) (v:=undef) rfl rfl (by kernel_rfl) (by kernel_rfl) (by kernel_rfl) (fun _ _ _ h=>h) (Or.inr ⟨by rfl,rfl⟩) (by assumption) ?_
  try simp only[Act.put,List.setIfInBounds_toArray,List.set_cons_zero,List.set_cons_succ]
  refine cA (i:=17) (d:=some 91) (v:=undef) rfl rfl (by kernel_rfl) (by kernel_rfl) (by kernel_rfl) (fun _ _ _ h=>h) (Or.inr ⟨by rfl,rfl⟩) (by assumption) ?_
  try simp only[Act.put,List.setIfInBounds_toArray,List.set_cons_zero,List.set_cons_succ]
  refine cA (i:=18) (d:=some 92) (v:=undef) rfl rfl (by kernel_rfl) (by kernel_rfl) (by kernel_rfl) (fun _ _ _ h=>h) (Or.inr ⟨by rfl,rfl⟩) (by assumption) ?_
  try simp only[Act.put,List.setIfInBounds_toArray,List.set_cons_zero,List.set_cons_succ]
  refine cA (i:=19) (d:=some 93) (v:=undef) rfl rfl (by kernel_rfl) (by kernel_rfl) (by kernel_rfl) (fun _ _ _ h=>h) (Or.inr ⟨by rfl,rfl⟩) (by assumption) ?_
  try simp only[Act.put,List.setIfInBounds_toArray,List.set_cons_zero,List.set_cons_succ]
  refine cA (i:=20) (d:=some 94) (v:=undef) rfl rfl (by kernel_rfl) (by kernel_rfl) (by kernel_rfl) (fun _ _ _ h=>h) (Or.inr ⟨by rfl,rfl⟩) (by assumption) ?_
  try simp only[Act.put,List.setIfInBounds_toArray,List.set_cons_zero,List.set_cons_succ]
  refine cA (i:=21) (d:=some 95) (v:=undef) rfl rfl (by kernel_rfl) (by kernel_rfl) (by kernel_rfl) (fun _ _ _ h=>h) (Or.inr ⟨by rfl,rfl⟩) (by assumption) ?_
  try simp only[Act.put,List.setIfInBounds_toArray,List.set_cons_zero,List.set_cons_succ]
  refine cA (i:=22) (d:=some 96) (v:= .bool true) rfl rfl (by kernel_rfl) (by kernel_rfl) (by kernel_rfl) (fun _ _ _ h=>h) (Or.inl ⟨by rfl,fun w hSw=>by(try dsimp only at hSw);go_simp⟩) (by assumption) ?_
  try simp only[Act.put,List.setIfInBounds_toArray,List.set_cons_zero,List.set_cons_succ]
  refine cA (i:=23) (d:=some 97) (v:= .bool true) rfl rfl (by kernel_rfl) (by kernel_rfl) (by kernel_rfl) (fun _ _ _ h=>h) (Or.inl ⟨by rfl,fun w hSw=>by(try dsimp only at hSw);go_simp⟩) (by assumption) ?_
  try simp only[Act.put,List.setIfInBounds_toArray,List.set_cons_zero,List.set_cons_succ]
  refine cA (i:=24) (d:=some 8) (v:= .bool true) rfl rfl (by kernel_rfl) (by kernel_rfl) (by kernel_rfl) (fun _ _ _ h=>h) (Or.inl ⟨by rfl,fun w hSw=>by(try dsimp only at hSw);go_simp⟩) (by assumption) ?_
  try simp only[Act.put,List.setIfInBounds_toArray,List.set_cons_zero,List.set_cons_succ]
  refine wpAnyH_done (by kernel_rfl) ?_ _
  go_wp2_with (fail);go_ret;exact⟨rfl,HB6.out.trans (Below.mono (by assumption) HB6.out.size)⟩
 ·have gu:((ul:Int)==0)=false:=by simp;omega
  have hfx:=iX HM.out HDX.out (s:=UL) (by intro e;rw[e]at hlnu;simp at hlnu;omega) (List.prefix_refl _);obtain⟨b6,c6,e6⟩:=bK ho6 hfx.1;obtain⟨rfl,-,rfl⟩:=Value.slice.inj e6;obtain⟨tb,tf,hao,hct⟩:=SlI.at_ hs6 hfx.1;obtain⟨rfl,rfl⟩:b6=tb/\0=tf:=by simpa using hao
  rw[Nat.add_zero]at hct;obtain⟨AL,hAL⟩:∃A,cC (B8 V N) UL=A:=⟨_,rfl⟩;obtain⟨y,hy⟩:∃y,ix TX 0=y:=⟨_,rfl⟩;rw[hAL,hy]at hfx;rw[hy]at hct;have hin:decide (y∈AL)=true:=decide_eq_true hfx.2;have HALL:Hid (∀W,Ge w6 W->Calls Tryz.prog 28 #[.pointer (some ⟨x,0,none⟩), .slice uo ul uc] W fun E w'=>∃vo vc,E= .returned (.slice vo AL.length vc)/\SlI w' vo AL.length vc AL/\Ge w6 w'):=hW_ (fun W h=>by
   have ha:=F1 W (HI6.out.below h) HM.out (SlI.below (SlI.below Hu.out HB6.out) h);rw[hAL]at ha;refine ha.mono ?_
   rintro E w' ⟨⟨v,rfl,ho⟩,hb⟩;obtain⟨vo,vc,rfl,hs⟩:=ho.sl;exact⟨vo,vc,rfl,hs,h.below hb⟩)
  have HHS:Hid (∀W vo vc,SlI W vo AL.length vc AL->Calls Tryz.prog 27 #[.slice vo AL.length vc, .int .i64 y] W fun E w'=>E= .returned (.bool true)/\W=w'):=hW_ (fun W vo vc h=>by have:=S9 y W h;rw[hin]at this;exact this);obtain⟨xn,hxn⟩:∃n,TX.length=n:=⟨_,rfl⟩;rw[hxn]at hfx |-;have gt0:(0:Int)<(xn:Int):=by have:=hfx.1;omega
  have gt1:decide ((0:Int)<(xn:Int))=true:=by simpa using gt0
  have gt2:decide (0<xn)=true:=by simp;omega
  have gt3:0<xn:=by omega
  have gu3:(ul==0)=false:=by simp;omega
  have gu4:decide (ul=0)=false:=by simp;omega
  have gu5:¬ul=0:=by omega
  have G0:=fun w' (hg:Ge w6 w')=>hg.at w6 w' hct
  clear ho6 hk6 hb6 hs6 hfx hAL hy hin hct e6 hao hxn hu0;go_wp2_with (fail)
  go_region_held3 (Ge w6) (first | (with_reducible assumption) | (with_reducible refine Ge.drew ?_;with_reducible assumption) | (with_reducible refine Ge.drewN ?_ _;with_reducible assumption)) (first
   | (go_at_call 24;refine(HFX.out _ (by first | assumption | exact Ge.drewN gr _)).mono ?_;rintro E w10 ⟨rfl,hg10⟩)
   | (go_at_call 28;refine(HALL.out _ (by first | assumption | exact Ge.drewN gr _)).mono ?_;rintro E w11 ⟨vo11,vc11,rfl,hs11,hg11⟩;have HS11:=hW_ hs11;clear hs11)
   | (go_at_call 27;refine(HHS.out _ _ _ HS11.out).mono ?_;rintro E W12 ⟨rfl,rfl⟩))
  go_wp2_with (fail);go_ret;exact⟨rfl,HB6.out.trans (Below.mono (by assumption) HB6.out.size)⟩
open Go.ChangeShapes Go.WideShapes Go.RowKit
theorem aBA {P:Program} {w:World} {r:Reach} {base:Nat} {t:TypeId} {v:Value} (ht:P.underlying t=some (.int .u8)) (h:Value.okWide P w r base t v):∃n,v= .int .u8 n/\0<=n/\n<=255:=by
 obtain⟨n,rfl⟩:=okWide_int ht h;simp only[Value.okWide,ht,Cell.okWide,Cell.ok,IntKind.has]at h;exact⟨n,rfl,h.2.1,h.2.2⟩
theorem aCc {H:Type} {enc:TypeId×Value->H} {P:Program} {w:World} {base:Nat} {spare:Nat->Bool} {held:Bool} {t1 t2 t3 t4:TypeId} {args:Array Value} {ds:List (DataW H)} {ps:List MemPlace} (h:DataW.TrodAll enc P w base spare held [t1,t2,t3,t4] args.toList ds ps):
  ∃v1 v2 v3 v4 d1 d2 d3 d4 p1 p2 p3 p4,args= #[v1,v2,v3,v4]/\ds= [d1,d2,d3,d4]/\ps=p1++p2++p3++p4/\DataW.Trod enc P w base spare held t1 v1 d1 p1/\DataW.Trod enc P w base spare held t2 v2 d2 p2/\DataW.Trod enc P w base spare held t3 v3 d3 p3/\DataW.Trod enc P w base spare held t4 v4 d4 p4:=by
 obtain⟨v1,vs,d1,ds1,p1,q1,hargs,rfl,rfl,hd1,hr1⟩:=trodAll_cons h;obtain⟨v2,vs2,d2,ds2,p2,q2,rfl,rfl,rfl,hd2,hr2⟩:=trodAll_cons hr1;obtain⟨v3,vs3,d3,ds3,p3,q3,rfl,rfl,rfl,hd3,hr3⟩:=trodAll_cons hr2;obtain⟨v4,vs4,d4,ds4,p4,q4,rfl,rfl,rfl,hd4,hr4⟩:=trodAll_cons hr3;obtain⟨rfl,rfl,rfl⟩:=trodAll_nil hr4;exact⟨v1,v2,v3,v4,d1,d2,d3,d4,p1,p2,p3,p4,by cases args;simp_all,rfl,by simp,hd1,hd2,hd3,hd4⟩
theorem own:ownKnob Tryz.prog.godebug=none:=by kernel_rfl
theorem laidOut:laidOutB Tryz.prog=true:=by kernel_rfl
end Go.Proofs.YtjlokfejnijokaaGreatDoor
