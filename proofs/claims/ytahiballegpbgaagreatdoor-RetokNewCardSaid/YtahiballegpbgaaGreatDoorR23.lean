/- The reader of points: how it lies; more. -/
import Derived.Test.YtahiballegpbgaaGreatDoorR17
import Derived.Test.YtahiballegpbgaaGreatDoorR22
import Derived.Test.YtahiballegpbgaaGreatDoorR8
import Derived.Deep.RegionLaw
import Derived.Deep.LoopGhost
set_option linter.unusedVariables false
set_option maxHeartbeats 2000000
set_option maxRecDepth 100000
namespace Go.Proofs.YtahiballegpbgaaGreatDoor
open Go.RowKit
def Pt.enc (p:Pt):List Value:=[.int .i64 p.code, .int .i64 p.cls, .int .i64 p.n, .bool p.sure]
theorem Pt.enc_len (p:Pt):p.enc.length=4:=rfl
theorem Pt.enc_one (p:Pt):∀v∈p.enc,v.oneCell'=true:=by
 intro v hv;simp[Pt.enc]at hv;rcases hv with rfl | rfl | rfl | rfl<;>rfl
theorem infoPt:(Tryz.prog.info? 273).map (fun i=>(i.zero.map (·.cells.size),i.size,i.bytes))=some (some 4,4,32):=by kernel_rfl
theorem aCw:(Tryz.prog.info? 5).map (fun i=>(i.zero,i.size,i.bytes))=some (some (.int .u8 0),1,1):=by kernel_rfl
theorem aF {w:World} {g:Nat} {a b c d e:Value} {t:TypeId} (h:w.heap[g]?=some (.cells #[a,b,c,d,e] t)):
  w.cell? ⟨g,0,none⟩=some a/\w.cell? ⟨g,1,none⟩=some b/\w.cell? ⟨g,2,none⟩=some c/\w.cell? ⟨g,3,none⟩=some d/\w.cell? ⟨g,4,none⟩=some e/\∀o,w.frozen? ⟨g,o,none⟩=false:=by
 simp[World.cell?,World.frozen?,h]
theorem aAG {w:World} {g:Nat} {a b c d e v:Value} {t:TypeId} (h:w.heap[g]?=some (.cells #[a,b,c,d,e] t)):(w.setCell ⟨g,0,none⟩ v).heap[g]?=some (.cells #[v,b,c,d,e] t):=by
 simp[World.setCell,Array.getElem?_modify,h]
theorem aAF {w:World} {g:Nat} {a b c d e v:Value} {t:TypeId} (h:w.heap[g]?=some (.cells #[a,b,c,d,e] t)):(w.setCell ⟨g,2,none⟩ v).heap[g]?=some (.cells #[a,b,v,d,e] t):=by
 simp[World.setCell,Array.getElem?_modify,h]
theorem set5_3 {w:World} {g:Nat} {a b c d e v:Value} {t:TypeId} (h:w.heap[g]?=some (.cells #[a,b,c,d,e] t)):(w.setCell ⟨g,3,none⟩ v).heap[g]?=some (.cells #[a,b,c,v,e] t):=by
 simp[World.setCell,Array.getElem?_modify,h]
def mN (T:List Rg) (op:Bool) (rest:List Int):List Pt:=if op then rest.map (fun _=>pB)else pts T rest
structure RdV (w0 w:World) (g:Nat) (T:List Rg) (wide:Bool) (L:List Pt) (k:Nat) (v:Value):Prop where
 ex:∃ro rn rc rest op to_ tn tc,w.heap[g]?=some (.cells #[.slice ro rn rc, .slice to_ tn tc,v, .bool op, .bool wide] 270)/\SlB w0 ro rn rc rest/\(∀x∈rest,0<=x/\x<256)/\L.drop k=mN T op rest/\SlF 3 w0 to_ tn tc (flat Rg.enc T)
 own:iA Pt.enc 4 273 w w0.heap.size v (L.take k)
 apart:v.ownBlock≠some g
 le:k<=L.length
 small:L.length<=1048576
 lo:w0.heap.size<=g
 below:Below w0.heap.size w0 w
theorem RdV.lt {w0 w:World} {g:Nat} {T:List Rg} {wide:Bool} {L:List Pt} {k:Nat} {v:Value} (h:RdV w0 w g T wide L k v):g<w.heap.size:=by
 obtain⟨ro,rn,rc,rest,op,to_,tn,tc,h1,_⟩:=h.ex;exact(Array.getElem?_eq_some_iff.1 h1).1
theorem RdV.stay {w0 w w':World} {g:Nat} {T:List Rg} {wide:Bool} {L:List Pt} {k:Nat} {v:Value} (h:RdV w0 w g T wide L k v) (hb:Below w.heap.size w w'):RdV w0 w' g T wide L k v:=by
 have hg:=h.lt;obtain⟨⟨ro,rn,rc,rest,op,to_,tn,tc,h1,h2⟩,a1,a2,a3,a4,a5,a6⟩:=h;exact⟨⟨ro,rn,rc,rest,op,to_,tn,tc,(hb.block g hg).trans h1,h2⟩,a1.below hb,a2,a3,a4,a5,a6.trans (hb.mono a6.size)⟩
theorem RdV.set {w0 w:World} {g:Nat} {T:List Rg} {wide:Bool} {L:List Pt} {k:Nat} {v:Value} (h:RdV w0 w g T wide L k v) {r:Nat} (hr:w0.heap.size<=r) (hg:r≠g) (hv:v.ownBlock≠some r) (i:Nat) (x:Value):RdV w0 (w.setCell ⟨r,i,none⟩ x) g T wide L k v:=by
 obtain⟨⟨ro,rn,rc,rest,op,to_,tn,tc,h1,h2⟩,a1,a2,a3,a4,a5,a6⟩:=h;refine⟨⟨ro,rn,rc,rest,op,to_,tn,tc,(Below.heap_setCell _ _ _ _ (Ne.symm hg)).trans h1,h2⟩,?_,a2,a3,a4,a5,a6.setCell hr _⟩;exact iA.keepG (g:=r) a1 (fB.set (fB.refl _ _) _ _) (fun q hq e=>by subst e;exact hv hq)
theorem bY {T:List Rg} {op:Bool}:mN T op []= []:=by cases op<;>rfl
theorem qZ {α:Type} {L:List α} {k:Nat} (h:L.drop k= []) (hk:k<=L.length):k=L.length:=by
 have:=List.drop_eq_nil_iff.1 h;omega
theorem dP {α:Type} {L:List α} {k:Nat} {x:α} {l:List α} (h:L.drop k=x::l):k<L.length/\L.take k++ [x]=L.take (k+1)/\L.drop (k+1)=l:=by
 have hk:k<L.length:=by
  rcases Nat.lt_or_ge k L.length with h1 | h1
  ·exact h1
  ·rw[List.drop_eq_nil_iff.2 h1]at h;cases h
 have hx:L[k]=x:=by
  rw[List.drop_eq_getElem_cons hk]at h;exact(List.cons.inj h).1
 refine⟨hk,by rw[<-hx];simp,?_⟩;rw[List.drop_eq_getElem_cons hk]at h;exact(List.cons.inj h).2
theorem eW {w0 w w9 w1 w2:World} {g:Nat} {T:List Rg} {wide op':Bool} {L:List Pt} {k gg cap:Nat} {v:Value} {ro' to_:Option Addr} {rn' rc' tn tc:Nat} {rest':List Int}
  (hle:k<L.length) (hsm:L.length<=1048576) (hlo:w0.heap.size<=g) (hglt:g<w.heap.size) (hvlt:∀q,v.ownBlock=some q->w0.heap.size<=q/\q<w.heap.size) (hap:v.ownBlock≠some g)
  (hb9:w.heap.size<=w9.heap.size) (hown1:iA Pt.enc 4 273 w1 w0.heap.size (.slice (some ⟨gg,0,none⟩) (k+1) cap) (L.take (k+1))) (hat:v.ownBlock=some gg\/gg=w9.heap.size)
  (hx2:w2.heap[g]?=some (.cells #[.slice ro' rn' rc', .slice to_ tn tc, .slice (some ⟨gg,0,none⟩) (k+1) cap, .bool op', .bool wide] 270)) (hk2:fB g w1 w2)
  (hbel:Below w0.heap.size w0 w2) (hr:SlB w0 ro' rn' rc' rest') (hbytes:∀x∈rest',0<=x/\x<256) (hdrop:L.drop (k+1)=mN T op' rest') (htab:SlF 3 w0 to_ tn tc (flat Rg.enc T)):
  RdV w0 w2 g T wide L (k+1) (.slice (some ⟨gg,0,none⟩) (k+1) cap)/\((Value.slice (some ⟨gg,0,none⟩) (k+1) cap).ownBlock=v.ownBlock\/∃q,(Value.slice (some ⟨gg,0,none⟩) (k+1) cap).ownBlock=some q/\w.heap.size<=q):=by
 have hne:gg≠g:=by
  rcases hat with h | h
  ·intro e;subst e;exact hap h
  ·omega
 refine⟨⟨⟨ro',rn',rc',rest',op',to_,tn,tc,hx2,hr,hbytes,hdrop,htab⟩,iA.keepG hown1 hk2 (fun q hq=>by cases hq;exact hne),(fun e=>by cases e;exact hne rfl),by omega,hsm,hlo,hbel⟩,?_⟩;rcases hat with h | h
 ·exact .inl h.symm
 ·exact .inr ⟨gg,rfl,by omega⟩
theorem ownFK {w:World} {base:Nat} {v:Value} {e:TypeId} {L:List Pt} {k:Nat} (h:iA Pt.enc 4 e w base v L) (hk:L.length=k):w.ownsRow base e 4 v k (flat Pt.enc L):=by
 subst hk;exact h
def MorePost (w0 w:World) (g:Nat) (T:List Rg) (wide:Bool) (L:List Pt) (k:Nat) (v:Value) (e:Ending) (w':World):Prop:=
 (e= .returned (.bool false)/\k=L.length/\w=w')\/
 (e= .returned (.bool true)/\k<L.length/\∃v',RdV w0 w' g T wide L (k+1) v'/\(v'.ownBlock=v.ownBlock\/∃q,v'.ownBlock=some q/\w.heap.size<=q)/\∀q,q<w.heap.size->q≠g->v.ownBlock≠some q->w'.heap[q]?=w.heap[q]?)
theorem aAY {w0:World} {g:Nat} {T:List Rg} {wide:Bool} {L:List Pt} {k:Nat} {v:Value} (w:World) (h:RdV w0 w g T wide L k v) (hT:oA T):
  Calls Tryz.prog 246 #[.pointer (some ⟨g,0,none⟩)] w (MorePost w0 w g T wide L k v):=by
 have hglt:=h.lt;obtain⟨⟨ro,rn,rc,rest,op,to_,tn,tc,hx,hrest,hbytes,hdrop,htab⟩,hown,hap,hle,hsm,hlo,hbel⟩:=h;obtain⟨vo,vc,rfl,_⟩:=hown.sl;have hvl:(L.take k).length=k:=by rw[List.length_take];omega
 rw[hvl]at hx hap hown |-;obtain⟨g0,g1,g2,g3,g4,gf⟩:=aF hx;obtain⟨i0,z0,hi,hz0,hz1,hz2,hz3⟩:=B6 infoPt;obtain⟨j0,hj,hj0,hj1,hj2⟩:=info_parts aCw;have HX:=hW_ hx;have HREST:=hW_ hrest;have HBY:=hW_ hbytes;have HDROP:=hW_ hdrop;have HTAB:=hW_ htab;have HOWN:=hW_ hown;have HAP:=hW_ hap;have HBEL:=hW_ hbel;have HT:=hW_ hT;have hll:=hrest.len;have hrc:=Sl.le hrest;have hrm:=Sl.max hrest;unfold maxLen at hrm;have hwn:(IntKind.i64.wrap (rn:Int))=(rn:Int):=by rw[IntKind.wrap_i64];omega
 cases rest with
 | nil=>
  have h0:rn=0:=by simpa using hll.symm
  subst h0;rw[bY]at hdrop;have hk:=qZ hdrop hle;clear hx hrest hbytes hdrop htab hown hap hbel hT hwn;go_enter Tryz.func246,Tryz.ntmps246;go_wp2_with (fail);go_ret;exact .inl ⟨rfl,hk,rfl⟩
 | cons c l=>
  have hrn:0<rn:=by simp at hll;omega
  have hr0:((rn:Int)==0)=false:=by simp;omega
  clear hx hrest hbytes hdrop htab hown hap hbel hT hwn
  cases op with
  | true=>
   obtain⟨W,rfl⟩:∃W,W=w:=⟨_,rfl⟩;have hglW:=hglt;have HXW:=HX;have HOW:=HOWN;have HBW:=HBEL;have HDR:Hid (L.drop k=(c::l).map (fun _=>pB)):=HDROP;clear HX HOWN HBEL HDROP g0 g1 g2 g3 g4 gf;go_enter Tryz.func246,Tryz.ntmps246;have hvo:∀q,(Value.slice vo k vc).ownBlock=some q->w0.heap.size<=q/\q<W.heap.size:=fun q hq=>World.ownsRow.lt HOW.out q hq
   have HVO:=hW_ hvo;have hdr:=HDR.out;rw[List.map_cons]at hdr;obtain⟨hk1,hk2,hk3⟩:=dP hdr;have HK2:=hW_ hk2;have HK3:=hW_ hk3;obtain⟨g0,g1,g2,g3,g4,gf⟩:=aF HXW.out;have HOA:Hid (iA Pt.enc 4 273 (W.alloc (.cells #[.int .i64 (-1), .int .i64 0, .int .i64 1, .bool false] 273)) w0.heap.size (.slice vo k vc) (L.take k)):=hW_ (HOW.out.alloc _);have HS1:Hid (SlF 4 (W.alloc (.cells #[.int .i64 (-1), .int .i64 0, .int .i64 1, .bool false] 273)) (some ⟨W.heap.size,0,none⟩) 1 1 (flat Pt.enc [pB])):=hW_ (by have:=SlF.one Pt.enc_len W pB 273 (cs:=#[.int .i64 (-1), .int .i64 0, .int .i64 1, .bool false]) rfl;first | exact this | (rw[<-HSW.out];exact this));have HLEK:Hid ((L.take k).length=k):=hW_ hvl;clear hdr hk2 hk3 hvo hvl;go_wp2_with (at_builtin;go_loud (refine rI rfl _ _ 268 rfl i0 z0 32 Tryz.underlying268 hi hz0 hz1 hz2 hz3 Pt.enc_len (by omega) Pt.enc_one rfl HOA.out rfl HS1.out (by omega) (by have:=HLEK.out;unfold maxLen;omega) (by have:=HLEK.out;omega) (by have:=HBW.out.size;simp;omega) (H:=W.heap.size+1) (by simp) ?_));intro gg cap w1 ho1 hg1 hat hb1;rw[HK2.out]at ho1;have hx1:w1.heap[g]?=some (.cells #[.slice ro rn rc, .slice to_ tn tc, .slice vo k vc, .bool true, .bool wide] 270):=(hg1.block g (by simp;omega) (fun e=>HAP.out e.symm)).trans ((Below.heap_alloc _ _ _ hglW).trans HXW.out)
   have hx2:=aAF (v:= .slice (some ⟨gg,0,none⟩) (k+1) cap) hx1;have HX2:=hW_ hx2;have HO1:=hW_ ho1;have HAT:=hW_ hat;have HG1:=hW_ hg1;have HB1:Hid (Below w0.heap.size w0 w1):=hW_ ((HBW.out.alloc HBW.out.size _).trans (hb1.mono (Nat.le_refl _)));obtain⟨d0,d1,d2,d3,d4,df⟩:=aF hx1;obtain⟨e0,e1,e2,e3,e4,ef⟩:=aF hx2;clear hx1 hx2 ho1 hg1 hat hb1 g0 g1 g2 g3 g4 gf;go_wp2_with (with_reducible show wpList _ _ _ (⟨_, .slice _ _ (some _) none none,_,_,_,_⟩::_) _ _;go_loud (refine oC rfl 113 _ _ rfl 5 j0 Tryz.underlying113 hj hj1 ro rn rc rfl hrc .i64 1 1 rfl rfl (by omega) ?_));intro ro' hro';have HRO:Hid (SlB w0 ro' (rn-1) (rc-1) l):=hW_ (by have:=hro' w0 _ HREST.out;simpa[SlB]using this);clear hro';go_wp2_with (fail);go_ret;obtain⟨r1,r2⟩:=eW hk1 hsm hlo hglW HVO.out HAP.out (w9:=W.alloc (.cells #[.int .i64 (-1), .int .i64 0, .int .i64 1, .bool false] 273)) (by simp) HO1.out (by simpa using HAT.out) (aAG HX2.out) (((fB.refl _ _).set _ _).set _ _) ((HB1.out.setCell (p:=⟨g,2,none⟩) hlo _).setCell (p:=⟨g,0,none⟩) hlo _) HRO.out (fun x hx=>HBY.out x (List.mem_cons_of_mem _ hx)) (by rw[HK3.out];rfl) HTAB.out;exact .inr ⟨rfl,hk1,_,r1,r2.imp_right fun⟨q,e,h⟩=>⟨q,e,by first | exact h | (rw[<-HSW.out];exact h)⟩,fun q h1 h2 h3=>(Below.heap_setCell _ _ _ _ h2).trans ((Below.heap_setCell _ _ _ _ h2).trans ((HG1.out.block q (by simp;first | omega | (have:=HSW.out;omega)) (fun e=>h3 e.symm)).trans ((Below.heap_alloc _ _ _ (by first | omega | (have:=HSW.out;omega))).trans rfl)))⟩
  | false=>
   have hdec:=fun W (hb:Below w0.heap.size w0 W)=>uW false W (SlB.below HREST.out hb) HBY.out
   have hdn:=lS (final:=false) (b:=c::l) (by simp);obtain⟨⟨code,n,mo⟩,hd⟩:∃q,dec false (c::l)=q:=⟨_,rfl⟩;have hdecw:=hdec w HBEL.out;unfold pL at hdecw;rw[hd]at hdn hdecw;simp only at hdn hdecw;have HD:=hW_ hd;have HDN:=hW_ hdn;clear hdec hd hdn;go_enter Tryz.func246,Tryz.ntmps246;go_wp2_with (fail);refine hdecw.mono ?_
   rintro e w1 ⟨rfl,rfl⟩;clear hdecw
   cases mo with
   | true=>
    have hxs:=set5_3 (v:= .bool true) HX.out;have hdr:L.drop k=(c::l).map (fun _=>pB):=by
     have:=HDROP.out;rw[this];unfold mN;rw[if_neg (by simp)];exact xR T (by simp) (by rw[HD.out])
    obtain⟨W,hW⟩:∃W,w.setCell ⟨g,3,none⟩ (.bool true)=W:=⟨_,rfl⟩;have HOW:Hid (iA Pt.enc 4 273 W w0.heap.size (.slice vo k vc) (L.take k)):=hW_ (by
     rw[<-hW];exact iA.keepG (g:=g) HOWN.out (fB.set (fB.refl _ _) _ _) (fun q hq e=>by subst e;exact HAP.out hq))
    have HBW:Hid (Below w0.heap.size w0 W):=hW_ (by rw[<-hW];exact HBEL.out.setCell (p:=⟨g,3,none⟩) hlo _);have HDR:=hW_ hdr;have hglW:g<W.heap.size:=by rw[<-hW];simpa using hglt
    have hsW:W.heap.size=w.heap.size:=by rw[<-hW];simp
    rw[hW]at hxs;have HXW:=hW_ hxs;have HW:=hW_ hW;have HSW:=hW_ hsW;clear hxs hdr hW hsW HX HOWN HBEL HDROP;have hvo:∀q,(Value.slice vo k vc).ownBlock=some q->w0.heap.size<=q/\q<W.heap.size:=fun q hq=>World.ownsRow.lt HOW.out q hq
    have HVO:=hW_ hvo;have hdr:=HDR.out;rw[List.map_cons]at hdr;obtain⟨hk1,hk2,hk3⟩:=dP hdr;have HK2:=hW_ hk2;have HK3:=hW_ hk3;have HOA:Hid (iA Pt.enc 4 273 (W.alloc (.cells #[.int .i64 (-1), .int .i64 0, .int .i64 1, .bool false] 273)) w0.heap.size (.slice vo k vc) (L.take k)):=hW_ (HOW.out.alloc _);have HS1:Hid (SlF 4 (W.alloc (.cells #[.int .i64 (-1), .int .i64 0, .int .i64 1, .bool false] 273)) (some ⟨w.heap.size,0,none⟩) 1 1 (flat Pt.enc [pB])):=hW_ (by have:=SlF.one Pt.enc_len W pB 273 (cs:=#[.int .i64 (-1), .int .i64 0, .int .i64 1, .bool false]) rfl;first | exact this | (rw[<-HSW.out];exact this));have HLEK:Hid ((L.take k).length=k):=hW_ hvl;clear hdr hk2 hk3 hvo hvl;go_wp2_with (at_builtin;rw[HW.out];go_loud (refine rI rfl _ _ 268 rfl i0 z0 32 Tryz.underlying268 hi hz0 hz1 hz2 hz3 Pt.enc_len (by omega) Pt.enc_one rfl HOA.out rfl HS1.out (by omega) (by have:=HLEK.out;unfold maxLen;omega) (by have:=HLEK.out;omega) (by have:=HBW.out.size;simp;omega) (H:=W.heap.size+1) (by simp) ?_));intro gg cap w1 ho1 hg1 hat hb1;rw[HK2.out]at ho1;have hx1:w1.heap[g]?=some (.cells #[.slice ro rn rc, .slice to_ tn tc, .slice vo k vc, .bool true, .bool wide] 270):=(hg1.block g (by simp;omega) (fun e=>HAP.out e.symm)).trans ((Below.heap_alloc _ _ _ hglW).trans HXW.out)
    have hx2:=aAF (v:= .slice (some ⟨gg,0,none⟩) (k+1) cap) hx1;have HX2:=hW_ hx2;have HO1:=hW_ ho1;have HAT:=hW_ hat;have HG1:=hW_ hg1;have HB1:Hid (Below w0.heap.size w0 w1):=hW_ ((HBW.out.alloc HBW.out.size _).trans (hb1.mono (Nat.le_refl _)));obtain⟨d0,d1,d2,d3,d4,df⟩:=aF hx1;obtain⟨e0,e1,e2,e3,e4,ef⟩:=aF hx2;clear hx1 hx2 ho1 hg1 hat hb1 g0 g1 g2 g3 g4 gf;go_wp2_with (with_reducible show wpList _ _ _ (⟨_, .slice _ _ (some _) none none,_,_,_,_⟩::_) _ _;go_loud (refine oC rfl 113 _ _ rfl 5 j0 Tryz.underlying113 hj hj1 ro rn rc rfl hrc .i64 1 1 rfl rfl (by omega) ?_));intro ro' hro';have HRO:Hid (SlB w0 ro' (rn-1) (rc-1) l):=hW_ (by have:=hro' w0 _ HREST.out;simpa[SlB]using this);clear hro';go_wp2_with (fail);go_ret;obtain⟨r1,r2⟩:=eW hk1 hsm hlo hglW HVO.out HAP.out (w9:=W.alloc (.cells #[.int .i64 (-1), .int .i64 0, .int .i64 1, .bool false] 273)) (by simp) HO1.out (by simpa using HAT.out) (aAG HX2.out) (((fB.refl _ _).set _ _).set _ _) ((HB1.out.setCell (p:=⟨g,2,none⟩) hlo _).setCell (p:=⟨g,0,none⟩) hlo _) HRO.out (fun x hx=>HBY.out x (List.mem_cons_of_mem _ hx)) (by rw[HK3.out];rfl) HTAB.out;exact .inr ⟨rfl,hk1,_,r1,r2.imp_right fun⟨q,e,h⟩=>⟨q,e,by first | exact h | (rw[<-HSW.out];exact h)⟩,fun q h1 h2 h3=>(Below.heap_setCell _ _ _ _ h2).trans ((Below.heap_setCell _ _ _ _ h2).trans ((HG1.out.block q (by simp;first | omega | (have:=HSW.out;omega)) (fun e=>h3 e.symm)).trans ((Below.heap_alloc _ _ _ (by first | omega | (have:=HSW.out;omega))).trans (by rw[<-HW.out];exact Below.heap_setCell _ _ _ _ h2))))⟩
   | false=>
    obtain⟨hn1,hn2,hn3⟩:=HDN.out.2 rfl;obtain⟨m,hm⟩:=Int.eq_ofNat_of_zero_le (show 0<=n by omega);subst hm;have hmr:m<=rn:=by have:=hll;omega
    have hdr:L.drop k=⟨code,wH T code,m,true⟩::pts T ((c::l).drop m):=by
     have:=HDROP.out;rw[this];unfold mN;rw[if_neg (by simp),F0 T (by simp) (by rw[HD.out]),HD.out];rfl
    obtain⟨hk1,hk2,hk3⟩:=dP hdr;have HK2:=hW_ hk2;have HK3:=hW_ hk3;have hcls:∀w',Below w.heap.size w w'->Calls Tryz.prog 252 #[.slice to_ tn tc, .int .i64 code] w' fun e w9=>e= .returned (.int .i64 (wH T code))/\Below w.heap.size w w9:=fun w' hb=>
     (aU w' (SlF.below HTAB.out (HBEL.out.trans (hb.mono HBEL.out.size))) HT.out).mono fun e w9 ⟨h1,h2⟩=>⟨h1,hb.trans (h2.mono hb.size)⟩
    obtain⟨cl,hcl⟩:∃cl,wH T code=cl:=⟨_,rfl⟩;rw[hcl]at hcls HK2;have hown0:=World.ownsRow.lt HOWN.out;have HLTW:=hW_ hown0;have HVL:=hW_ hvl;clear hdr hk2 hk3 hcl hown0 hn1 hn2 hn3 hvl;go_wp2_with (fail)
    go_region_law (first
     | (go_simp;go_at_call 252;refine(hcls _ (by exact(Below.refl _ _).drew)).mono ?_;rintro e w9 ⟨rfl,hb9⟩;have hx9:=(hb9.block g hglt).trans HX.out;obtain⟨e0,e1,e2,e3,e4,ef⟩:=aF hx9;have f2:=eA (aA w9 (.cells #[.int .i64 code, .int .i64 cl, .int .i64 m, .bool true] 273)) _ _ e2;have ho9:=ownFK (HOWN.out.below hb9) HVL.out;have hs9:=hb9.size)
     | (refine step_append_lies _ (by rfl) _ _ _ (by rfl) w0.heap.size 273 i0 z0 4 32 Tryz.underlying268 hi hz0 hz1 hz2 hz3 (by omega) _ k _ (by rfl) (World.ownsRow.alloc ho9 _) ⟨w9.heap.size,0,none⟩ 1 1 [.int .i64 code, .int .i64 cl, .int .i64 m, .bool true] (by rfl) (by rfl) (World.news_of_block (cs:=#[.int .i64 code, .int .i64 cl, .int .i64 m, .bool true]) (heap_alloc_new w9 _)) (by simp[Value.oneCell']) (by omega) (by unfold maxLen;omega) (by omega) (by have:=HBEL.out.size;simp;omega) (w9.heap.size+1) (by simp) ?_;intro gg cap w1 hown1 hgrow hat hlt;have hx1:=(hgrow.block g (by simp;omega) (fun e=>HAP.out e.symm)).trans ((Below.heap_alloc _ _ _ (by omega)).trans hx9);obtain⟨k0,k1,k2,k3,k4,kf⟩:=aF hx1))
    all_goals(
     have hx2:=aAF (v:= .slice (some ⟨gg,0,none⟩) (k+1) cap) hx1;have HX2:=hW_ hx2;have HO1:Hid (iA Pt.enc 4 273 w1 w0.heap.size (.slice (some ⟨gg,0,none⟩) (k+1) cap) (L.take (k+1))):=hW_ (by
      rw[<-HK2.out];unfold iA;rw[cB,cE,List.length_append,HVL.out];exact hown1)
     have HAT:=hW_ hat;have HB1:Hid (Below w0.heap.size w0 w1):=hW_ (((HBEL.out.trans (hb9.mono HBEL.out.size)).alloc (by have:=HBEL.out.size;omega) _).trans ((Below.refl _ _).grown hgrow (by have:=HBEL.out.size;simp;omega) (fun q hq=>(HLTW.out q hq).1)));have HS9:=hW_ hs9;have HG1:=hW_ hgrow;have HB9:=hW_ hb9;obtain⟨e0,e1,e2,e3,e4,ef⟩:=aF hx2;clear hx1 hx2 hown1 hgrow hat hb9 hs9;go_wp2_with (with_reducible show wpList _ _ _ (⟨_, .slice _ _ (some _) none none,_,_,_,_⟩::_) _ _;go_loud (refine oC rfl 113 _ _ rfl 5 j0 Tryz.underlying113 hj hj1 ro rn rc rfl hrc .i64 m m rfl rfl hmr ?_));intro ro' hro';have HRO:Hid (SlB w0 ro' (rn-m) (rc-m) ((c::l).drop m)):=hW_ (by have:=hro' w0 _ HREST.out;unfold SlB;rw[List.map_drop];exact this);clear hro';go_wp2_with (fail);go_ret;obtain⟨r1,r2⟩:=eW hk1 hsm hlo hglt HLTW.out HAP.out (w9:=w9.alloc (.cells #[.int .i64 code, .int .i64 cl, .int .i64 m, .bool true] 273)) (op':=false) (wide:=wide) (T:=T) (by have:=HS9.out;simp;omega) HO1.out (by simpa using HAT.out) (aAG HX2.out) (((fB.refl _ _).set _ _).set _ _) ((HB1.out.setCell (p:=⟨g,2,none⟩) hlo _).setCell (p:=⟨g,0,none⟩) hlo _) HRO.out (fun x hx=>HBY.out x (List.mem_of_mem_drop hx)) (by rw[HK3.out];rfl) HTAB.out;exact .inr ⟨rfl,hk1,_,r1,r2,fun q h1 h2 h3=>(Below.heap_setCell _ _ _ _ h2).trans ((Below.heap_setCell _ _ _ _ h2).trans ((HG1.out.block q (by have:=HS9.out;simp;omega) (fun e=>h3 e.symm)).trans ((Below.heap_alloc _ _ _ (by have:=HS9.out;omega)).trans (HB9.out.block q h1))))⟩)
def ptV (p:Pt):Value:= .agg #[.int .i64 p.code, .int .i64 p.cls, .int .i64 p.n, .bool p.sure]
structure RdS (w0 w:World) (g:Nat) (T:List Rg) (wide:Bool) (L:List Pt) (k:Nat):Prop where
 ex:∃v,RdV w0 w g T wide L k v
theorem RdS.stay {w0 w w':World} {g:Nat} {T:List Rg} {wide:Bool} {L:List Pt} {k:Nat} (h:RdS w0 w g T wide L k) (hb:Below w.heap.size w w'):RdS w0 w' g T wide L k:=by
 obtain⟨v,h⟩:=h;exact⟨v,h.stay hb⟩
def oB (w0 w':World) (g:Nat) (T:List Rg) (wide:Bool) (L:List Pt) (k n:Nat):Prop:=∃k',RdS w0 w' g T wide L k'/\k<=k'/\min n L.length<=k'
theorem mF {L:List Pt} {i:Nat} (h:i<L.length):L[i]?=some (ptC L i):=by simp[ptC,h]
theorem ptC_out {L:List Pt} {i:Nat} (h:¬i<L.length):ptC L i=⟨0,0,0,false⟩:=by
 unfold ptC;rw[List.getElem?_eq_none (by omega)]
theorem box4r {w:World} {g:Nat} {a b c d:Value} {t:TypeId} (h:w.heap[g]?=some (.cells #[a,b,c,d] t)):
  w.cell? ⟨g,0,none⟩=some a/\w.cell? ⟨g,1,none⟩=some b/\w.cell? ⟨g,2,none⟩=some c/\w.cell? ⟨g,3,none⟩=some d/\∀o,w.frozen? ⟨g,o,none⟩=false:=by
 simp[World.cell?,World.frozen?,h]
def aBK (w0:World) (g:Nat) (T:List Rg) (wide:Bool) (L:List Pt) (k i:Nat) (e:Ending) (w':World):Prop:=
 e= .returned (.tuple #[ptV (ptC L i), .bool (decide (i<L.length))])/\oB w0 w' g T wide L k (i+1)
theorem F3 {w0:World} {g:Nat} {T:List Rg} {wide:Bool} {L:List Pt} {k:Nat} (i:Nat) (w:World) (h:RdS w0 w g T wide L k) (hT:oA T) (hi:i<=1048576):
  Calls Tryz.prog 227 #[.pointer (some ⟨g,0,none⟩), .int .i64 i] w (aBK w0 g T wide L k i):=by
 obtain⟨v,h⟩:=h;obtain⟨W,hW⟩:∃W,w.alloc (.cells #[.int .i64 0, .int .i64 0, .int .i64 0, .bool false] 273)=W:=⟨_,rfl⟩;have hbW:Below w.heap.size w W:=hW▸aA w _;have HV0:=hW_ (h.stay hbW);have hxW:W.heap[w.heap.size]?=some (.cells #[.int .i64 0, .int .i64 0, .int .i64 0, .bool false] 273):=by rw[<-hW];exact heap_alloc_new w _
 have HXW:=hW_ hxW;have hglt:=h.lt;have HR0:Hid (w0.heap.size<=w.heap.size):=hW_ h.below.size;have HAP0:Hid (v.ownBlock≠some w.heap.size):=hW_ (fun e=>by have:=(World.ownsRow.lt h.own _ e).2;omega);have HT:=hW_ hT;have HW:=hW_ hW;have hsW:w.heap.size<W.heap.size:=by rw[<-hW];simp
 have hsm:=h.small;clear h hxW hT hW hbW;go_enter Tryz.func227,Tryz.ntmps227;go_wp2_with (fail);rw[HW.out]
 go_loopg [] (L.length-k) (fun m wr=>∃(k':Nat) (v':Value),m=L.length-k'/\k<=k'/\Hid (RdV w0 wr g T wide L k' v')/\Hid (v'.ownBlock≠some w.heap.size)/\Hid (wr.heap[w.heap.size]?=some (.cells #[.int .i64 0, .int .i64 0, .int .i64 0, .bool false] 273))/\w.heap.size<wr.heap.size)
 case atStart=>exact⟨k,v,rfl,Nat.le_refl _,HV0,HAP0,HXW,hsW⟩
 case round=>
  obtain⟨k',v',rfl,hk,HV,HAP,HX,hsz⟩:=hrel;have hle:=HV.out.le;obtain⟨ro,rn,rc,rest,op,to_,tn,tc,hx,_⟩:=HV.out.ex;obtain⟨vo,vc,rfl,hsl⟩:=HV.out.own.sl;have hvl:(L.take k').length=k':=by rw[List.length_take];omega
  rw[hvl]at hx hsl HV HAP;obtain⟨g0,g1,g2,g3,g4,gf⟩:=aF hx;have HSL:=hW_ hsl;have hmore:=aAY wr HV.out HT.out;clear hx hsl hvl
  by_cases hlt:k'<=i
  ·have gk:(k':Int)<=(i:Int):=by omega
   go_wp2_with (fail);refine hmore.mono ?_
   rintro e w2 (⟨rfl,hkL,rfl⟩ | ⟨rfl,hkL,v2,hv2,hob,hfr⟩)
   ·obtain⟨c0,c1,c2,c3,cf⟩:=box4r HX.out;clear hmore;go_wp2_with (fail);have hni:¬i<L.length:=by omega
    refine bodyPost_ret (v:= .tuple #[ptV (ptC L i), .bool (decide (i<L.length))]) ?_ rfl ⟨rfl,k',⟨_,(((HV.out.set HR0.out (Ne.symm (Nat.ne_of_lt hglt)) HAP.out 0 (.int .i64 0)).set HR0.out (Ne.symm (Nat.ne_of_lt hglt)) HAP.out 1 (.int .i64 0)).set HR0.out (Ne.symm (Nat.ne_of_lt hglt)) HAP.out 2 (.int .i64 0)).set HR0.out (Ne.symm (Nat.ne_of_lt hglt)) HAP.out 3 (.bool false)⟩,hk,by omega⟩
    rw[ptC_out hni];simp[results,Tryz.results227,go_sem,ptV,hni,c0,c1,c2,c3]
   ·have HX2:=hW_ ((hfr w.heap.size hsz (Nat.ne_of_gt hglt) HAP.out).trans HX.out);have HV2:=hW_ hv2;have HAP2:Hid (v2.ownBlock≠some w.heap.size):=hW_ (by
     rcases hob with h | ⟨q,h1,h2⟩
     ·rw[h];exact HAP.out
     ·rw[h1];intro e;cases e;omega)
    have hsz2:w.heap.size<w2.heap.size:=(Array.getElem?_eq_some_iff.1 HX2.out).1;clear hmore hv2 hob hfr;go_wp2_with (fail)
    go_roundg (L.length-(k'+1))
    case measure=>omega
    case rel=>exact⟨k'+1,v2,rfl,by omega,HV2,HAP2,HX2,hsz2⟩
  ·have hiL:i<L.length:=by omega
   have hik:i<k':=by omega
   have gk:¬(k':Int)<=(i:Int):=by omega
   have gi:(i:Int)<(k':Int):=by omega
   have hel:(L.take k')[i]?=some (ptC L i):=by rw[List.getElem?_take,if_pos hik];exact mF hiL
   obtain⟨b,o,hao,hce⟩:=HSL.out.elem Pt.enc_len (by omega) hel;subst hao;obtain⟨p,hp⟩:∃p,ptC L i=p:=⟨_,rfl⟩;rw[hp]at hce;have d0:=hce 0 _ rfl;have d1:=hce 1 _ rfl;have d2:=hce 2 _ rfl;have d3:=hce 3 _ rfl;rw[Nat.add_zero]at d0;obtain⟨c0,c1,c2,c3,cf⟩:=box4r HX.out;clear hmore hel hce;go_wp2_with (fail);refine bodyPost_ret (v:= .tuple #[ptV (ptC L i), .bool (decide (i<L.length))]) ?_ rfl ⟨rfl,k',⟨_,(((HV.out.set HR0.out (Ne.symm (Nat.ne_of_lt hglt)) HAP.out 0 (.int .i64 p.code)).set HR0.out (Ne.symm (Nat.ne_of_lt hglt)) HAP.out 1 (.int .i64 p.cls)).set HR0.out (Ne.symm (Nat.ne_of_lt hglt)) HAP.out 2 (.int .i64 p.n)).set HR0.out (Ne.symm (Nat.ne_of_lt hglt)) HAP.out 3 (.bool p.sure)⟩,hk,by omega⟩
   rw[hp];simp[results,Tryz.results227,go_sem,ptV,hiL,c0,c1,c2,c3]
end Go.Proofs.YtahiballegpbgaaGreatDoor
