/- Walks: class.Usual, text.New. -/
import Derived.Test.YtahiballegpbgaaGreatDoorR18
import Derived.Test.YtahiballegpbgaaGreatDoorR13
import Derived.Test.YtahiballegpbgaaGreatDoorR19
import Derived.Test.YtahiballegpbgaaGreatDoorR20
import Derived.Deep.DeepCutAuto
import Derived.Deep.AppendLies
import Derived.Deep.RegionLaw
set_option linter.unusedVariables false
set_option maxHeartbeats 2000000
set_option maxRecDepth 100000
namespace Go.Proofs.YtahiballegpbgaaGreatDoor
open Go.RowKit
theorem nX (w:World) (hU:Usu w):
  Calls Tryz.prog 72 #[] w fun e w'=>∃v,e= .returned v/\iA Rg.enc 3 125 w' w.heap.size v usR/\Below w.heap.size w w':=by
 have hcl:=eM (S:=usR) w hU (by omega);clear hU;go_enter Tryz.func72,Tryz.ntmps72;go_wp2_with (fail);refine hcl.mono ?_
 rintro e w' ⟨v,rfl,ho⟩;have HO:=hW_ ho;clear ho hcl;go_wp2;go_ret;exact⟨v,rfl,HO.out⟩
theorem aAT (room:Int) (w:World):Calls Tryz.prog 69 #[.int .i64 room] w fun en w'=>∃pc,en= .returned (.pointer pc)/\((pc=none/\¬(0<=room/\room<=1048576))\/((0<=room/\room<=1048576)/\∃cb mb,pc=some ⟨cb,0,none⟩/\mH w' w.heap.size w'.heap.size cb mb none [] room 0 0))/\Below w.heap.size w w':=by
 by_cases h:0<=room/\room<=1048576
 ·refine(crep_new room h.1 h.2 w).mono ?_
  rintro en w' ⟨cb,mb,rfl,hr,hb⟩;exact⟨_,rfl, .inr ⟨h,cb,mb,rfl,hr⟩,hb⟩
 ·refine(new_no room (by omega) w).mono ?_
  rintro en w' ⟨rfl,hb⟩;exact⟨_,rfl, .inl ⟨rfl,h⟩,hb⟩
theorem nK (S:List Sp) (N:List ByteArray):(nC S N).length=N.length:=by simp[nC]
theorem lW {S:List Sp} {N:List ByteArray} {k:Nat} (h:k<N.length):nC S (N.take k)++ [idOf (fG S (tk N k))]=nC S (N.take (k+1)):=by
 unfold nC;rw[List.take_add_one,sB h];simp
theorem ownK {w:World} {base:Nat} {v:Value} {A:List Int} {k:Nat} (h:Own w base v A) (e:A.length=k):w.ownsRow base 3 1 v k (A.map (.int .i64)):=by
 subst e;exact h
theorem aT.keep {w w':World} {base g:Nat} {V:Vc} (h:aT w base g V) (hk:∀q,base<=q->q<w.heap.size->w'.heap[q]?=w.heap[q]?) (hs:w.heap.size<=w'.heap.size):aT w' base g V:=by
 obtain⟨lo,cs,to_,tcc,pg,h1,h2,h3,h4⟩:=h;have hg:g<w.heap.size:=(Array.getElem?_eq_some_iff.1 h1).1;exact⟨lo,cs,to_,tcc,pg,(hk g lo hg).trans h1,h2,jA h3 (fun q hq=>hk q (World.ownsRow.lt h3 q hq).1 (World.ownsRow.lt h3 q hq).2),h4.keep hk hs⟩
theorem aT.mono {w:World} {base base' g:Nat} {V:Vc} (h:aT w base g V) (hb:base'<=base):aT w base' g V:=by
 obtain⟨lo,cs,to_,tcc,pg,h1,h2,h3,h4⟩:=h;exact⟨by omega,cs,to_,tcc,pg,h1,h2,iA.mono h3 hb,h4.mono hb⟩
theorem mH.ft {w:World} {base top cb mb:Nat} {no:Option Addr} {l:List Row} {room hits misses:Int} (h:mH w base top cb mb no l room hits misses) (k:Nat) (hk:Ft cb mb no k):base<=k/\k<top:=by
 obtain⟨m,cap,N,e,y,ord,sz,f,R,hc,hg,hl⟩:=h;rcases hk with h | h | h
 ·subst h;exact hc.bc
 ·subst h;exact hc.bm
 ·subst h;rcases hc.nd with⟨h1,_⟩ | ⟨nb,h1,_,_,_,h5,h6⟩
  ·cases h1
  ·simp at h1;subst h1;exact⟨h5,h6⟩
structure TabOwn (base lo hi:Nat) (w:World) (v:Value) (T:List Rg):Prop where
 own:iA Rg.enc 3 125 w base v T
 out:∀q,v.ownBlock=some q->q<lo\/hi<q
structure qL (w:World) (base g:Nat) (V:Vc) (N:List ByteArray) (kind:Int) (T:List Rg) (cb:Nat):Prop where
 lo:base<=g
 tab:∃ta tc sa sc na nc ma mc oa oc eg,w.heap[g]?=some (.cells #[.slice ta V.tokens.length tc, .slice none 0 0, .slice sa V.specials.length sc, .slice na N.length nc, .slice ma N.length mc, .int .i64 kind, .slice oa T.length oc, .pointer (some ⟨eg,0,none⟩), .pointer (some ⟨cb,0,none⟩)] 129)/\
  iA J4 1 9 w base (.slice ta V.tokens.length tc) V.tokens/\iA Sp.enc 2 117 w base (.slice sa V.specials.length sc) V.specials/\iA J4 1 9 w base (.slice na N.length nc) N/\
  Own w base (.slice ma N.length mc) (nC V.specials N)/\iA Rg.enc 3 125 w base (.slice oa T.length oc) T/\aT w base eg V
def Sta (S:Nat->Prop) (F:World->Prop) (w:World):Prop:=∀w',(∀q,S q->w'.heap[q]?=w.heap[q]?)->w.heap.size<=w'.heap.size->F w'
theorem Sta.self {S:Nat->Prop} {F:World->Prop} {w:World} (h:Sta S F w):F w:=h w (fun _ _=>rfl) (Nat.le_refl _)
theorem Sta.next {S:Nat->Prop} {F:World->Prop} {w w':World} (h:Sta S F w) (hk:∀q,S q->w'.heap[q]?=w.heap[q]?) (hs:w.heap.size<=w'.heap.size):Sta S F w':=
 fun w'' h1 h2=>h w'' (fun q hq=>(h1 q hq).trans (hk q hq)) (Nat.le_trans hs h2)
structure K8 (w:World) (base g:Nat) (V:Vc) (N:List ByteArray) (kind:Int) (T:List Rg) (room:Int) (cb mb:Nat) (no:Option Addr) (l:List Row) (hits misses:Int):Prop where
 sta:∃S,Sta S (fun w=>qL w base g V N kind T cb) w/\(∀q,S q->(base<=q/\q<w.heap.size)/\¬Ft cb mb no q)
 rep:mH w base w.heap.size cb mb no l room hits misses
def TextPost (V:Vc) (N:List ByteArray) (kind:Int) (T:List Rg) (room:Int) (w:World) (e:Ending) (w':World):Prop:=
 ((¬May V/\e= .returned (.tuple #[.pointer none, .int .i64 2]))\/(May V/\¬wE N kind T room/\e= .returned (.tuple #[.pointer none, .int .i64 1]))\/
  (May V/\wE N kind T room/\∃g cb mb,e= .returned (.tuple #[.pointer (some ⟨g,0,none⟩), .int .i64 0])/\K8 w' w.heap.size g V N kind (D4 T) room cb mb none [] 0 0))/\Below w.heap.size w w'
theorem fO {w:World} {g:Nat} {a b c d e f x y z:Value} {t:TypeId} (h:w.heap[g]?=some (.cells #[a,b,c,d,e,f,x,y,z] t)):
  w.cell? ⟨g,0,none⟩=some a/\w.cell? ⟨g,1,none⟩=some b/\w.cell? ⟨g,2,none⟩=some c/\w.cell? ⟨g,3,none⟩=some d/\w.cell? ⟨g,4,none⟩=some e/\w.cell? ⟨g,5,none⟩=some f/\w.cell? ⟨g,6,none⟩=some x/\w.cell? ⟨g,7,none⟩=some y/\w.cell? ⟨g,8,none⟩=some z/\∀o,w.frozen? ⟨g,o,none⟩=false:=by
 simp[World.cell?,World.frozen?,h]
theorem mH.base {w:World} {base base' top cb mb:Nat} {no:Option Addr} {l:List Row} {room hits misses:Int} (h:mH w base top cb mb no l room hits misses) (hb:base'<=base):mH w base' top cb mb no l room hits misses:=by
 obtain⟨m,cap,N,e,y,ord,sz,f,R,hc,hg,hl⟩:=h;refine⟨m,cap,N,e,y,ord,sz,f,R,⟨hc.fl,?_,hc.mp,hc.ch,hc.lt,hc.cm,⟨by have:=hc.bc.1;omega,hc.bc.2⟩,⟨by have:=hc.bm.1;omega,hc.bm.2⟩,fun i hi=> ?_,hc.keys⟩,hg,hl⟩
 ·rcases hc.nd with h' | ⟨nb,h1,h2,h3,h4,h5,h6⟩
  ·exact .inl h'
  ·exact .inr ⟨nb,h1,h2,h3,h4,by omega,h6⟩
 ·obtain⟨h1,h2⟩:=hc.rows i hi;exact⟨h1,fun ad e=>by obtain⟨a,b,c⟩:=h2 ad e;exact⟨by omega,b,c⟩⟩
theorem codR_mk {w w0 w1 w2 w3 w4 wb wc wr:World} {V:Vc} {N:List ByteArray} {kind room:Int} {T2:List Rg} {nn cb mb eg:Nat} {pa qa na mo oa2:Option Addr} {pcap qcap ncc mcc oc2:Nat}
  (hN:N.length=nn) (h0:w.heap.size<=w0.heap.size) (h1:w0.heap.size<=w1.heap.size) (b12:Below w1.heap.size w1 w2) (b23:Below w2.heap.size w2 w3) (b34:Below w3.heap.size w3 w4) (b4r:Below w4.heap.size w4 wr)
  (kbc:fB w4.heap.size wb wc) (kcr:fB w4.heap.size wc wr) (hsb:w4.heap.size<wb.heap.size) (h4b:w4.heap.size<=wb.heap.size) (hec:aT w1 w0.heap.size eg V) (hon:iA J4 1 9 w2 w1.heap.size (.slice na nn ncc) N)
  (hot:iA J4 1 9 wc wb.heap.size (.slice pa V.tokens.length pcap) V.tokens) (hos:iA Sp.enc 2 117 wc wb.heap.size (.slice qa V.specials.length qcap) V.specials)
  (htab:TabOwn w2.heap.size w3.heap.size w4.heap.size wb (.slice oa2 T2.length oc2) T2)
  (hx:wr.heap[w4.heap.size]?=some (.cells #[.slice pa V.tokens.length pcap, .slice none 0 0, .slice qa V.specials.length qcap, .slice na nn ncc, .slice mo nn mcc, .int .i64 kind, .slice oa2 T2.length oc2, .pointer (some ⟨eg,0,none⟩), .pointer (some ⟨cb,0,none⟩)] 129))
  (how:Own wr wc.heap.size (.slice mo nn mcc) (nC V.specials (N.take nn))) (hrep:mH w4 w3.heap.size w4.heap.size cb mb none [] room 0 0):
  K8 wr w.heap.size w4.heap.size V N kind T2 room cb mb none [] 0 0:=by
 subst hN;rw[List.take_length]at how;have s12:=b12.size;have s23:=b23.size;have s34:=b34.size;have s4r:=b4r.size;have sbc:=kbc.size;have scr:=kcr.size;have hb2r:∀q,q<w2.heap.size->wr.heap[q]?=w2.heap[q]? :=fun q hq=>(b4r.block q (by omega)).trans ((b34.block q (by omega)).trans (b23.block q hq))
 refine⟨⟨fun q=>w.heap.size<=q/\q<wr.heap.size/\(q<w3.heap.size\/w4.heap.size<=q),fun w' hag hsz=>⟨by omega,pa,pcap,qa,qcap,na,ncc,mo,mcc,oa2,oc2,eg,(hag _ ⟨by omega,by omega, .inr (Nat.le_refl _)⟩).trans hx,?_,?_,?_,?_,?_,?_⟩,?_⟩,?_⟩
 ·exact iA.mono (base:=wb.heap.size) (jA hot fun q hq=>by
   obtain⟨g1,g2⟩:=World.ownsRow.lt hot q hq;exact(hag q ⟨by omega,by omega, .inr (by omega)⟩).trans (kcr.block q g2 (by omega))) (by omega)
 ·exact iA.mono (base:=wb.heap.size) (jA hos fun q hq=>by
   obtain⟨g1,g2⟩:=World.ownsRow.lt hos q hq;exact(hag q ⟨by omega,by omega, .inr (by omega)⟩).trans (kcr.block q g2 (by omega))) (by omega)
 ·exact iA.mono (base:=w1.heap.size) (jA hon fun q hq=>by
   obtain⟨g1,g2⟩:=World.ownsRow.lt hon q hq;exact(hag q ⟨by omega,by omega, .inl (by omega)⟩).trans (hb2r q g2)) (by omega)
 ·exact Own.mono (base:=wc.heap.size) (jA how fun q hq=>by
   obtain⟨g1,g2⟩:=World.ownsRow.lt how q hq;exact hag q ⟨by omega,by omega, .inr (by omega)⟩) (by omega)
 ·exact iA.mono (base:=w2.heap.size) (jA htab.own fun q hq=>by
   obtain⟨g1,g2⟩:=World.ownsRow.lt htab.own q hq;have g3:=htab.out q hq;exact(hag q ⟨by omega,by omega,by omega⟩).trans ((kcr.block q (by omega) (by omega)).trans (kbc.block q g2 (by omega)))) (by omega)
 ·exact aT.mono (hec.keep (fun q g1 g2=>(hag q ⟨by omega,by omega, .inl (by omega)⟩).trans ((hb2r q (by omega)).trans (b12.block q g2))) (by omega)) h0
 ·intro q ⟨g1,g2,g3⟩;refine⟨⟨g1,g2⟩,fun hf=> ?_⟩;have:=hrep.ft q hf;omega
 ·exact(((hrep.below b4r).up s4r).base (by omega))
theorem set3N {w:World} {g:Nat} {a b c d e f x y z a' b' c':Value} {t:TypeId} (h:w.heap[g]?=some (.cells #[a,b,c,d,e,f,x,y,z] t)):
  (((w.setCell ⟨g,0,none⟩ a').setCell ⟨g,1,none⟩ b').setCell ⟨g,2,none⟩ c').heap[g]?=some (.cells #[a',b',c',d,e,f,x,y,z] t):=by
 simp[World.setCell,Array.getElem?_modify,h]
theorem fB.set3 (g:Nat) (w:World) (a b c:Value):fB g w (((w.setCell ⟨g,0,none⟩ a).setCell ⟨g,1,none⟩ b).setCell ⟨g,2,none⟩ c):=(((fB.refl g w).set 0 a).set 1 b).set 2 c
theorem aDB {wc wr w9 w1:World} {g4:Nat} {o:Obj} {v:Value} (hkr:fB g4 wc wr) (hbr:Below g4 wc wr) (h4:g4<wc.heap.size) (hb9:Below wr.heap.size wr w9) (hgrow:(w9.alloc o).grownBy w1 v.ownBlock)
  (hlt:∀q,v.ownBlock=some q->wc.heap.size<=q/\q<wr.heap.size) (i:Nat) (x:Value):fB g4 wc (w1.setCell ⟨g4,i,none⟩ x)/\Below g4 wc (w1.setCell ⟨g4,i,none⟩ x):=by
 have s1:=hkr.size;have s2:=hb9.size;have hb:=((hbr.trans ((hb9.alloc hb9.size o).mono (by omega))).grown hgrow (by simp;omega) fun q hq=>by have:=(hlt q hq).1;omega);refine⟨fB.set ⟨by have:=hb.size;omega,fun q h1 h2=> ?_⟩ i x,hb.setCell (Nat.le_refl _) x⟩;have e1:=hgrow.block q (by simp;omega) (fun e=>by have:=(hlt q e.symm).1;omega);rw[e1];exact(Below.heap_alloc _ _ _ (by omega)).trans ((hb9.block q (by omega)).trans (hkr.block q h1 h2))
theorem mark_own {w1:World} {B gg n cap g4:Nat} {A MA:List Int} {ID:Int} {i:Nat} {x:Value} (h:w1.ownsRow B 3 1 (.slice (some ⟨gg,0,none⟩) (n+1) cap) (n+1) (A.map (.int .i64)++ [.int .i64 ID])) (hMA:A++ [ID]=MA) (hl:A.length=n) (h4:g4<B):
  Own (w1.setCell ⟨g4,i,none⟩ x) B (.slice (some ⟨gg,0,none⟩) (n+1) cap) MA:=by
 subst hMA;refine jA (v:= .slice (some ⟨gg,0,none⟩) (n+1) cap) (by rw[List.length_append,List.map_append,hl];exact h) fun q hq=>Below.heap_setCell _ _ _ _ ?_
 have:=(World.ownsRow.lt h q hq).1;show q≠g4;omega
theorem set4N {w:World} {g:Nat} {a b c d e f x y z v:Value} {t:TypeId} (h:w.heap[g]?=some (.cells #[a,b,c,d,e,f,x,y,z] t)):(w.setCell ⟨g,4,none⟩ v).heap[g]?=some (.cells #[a,b,c,d,v,f,x,y,z] t):=by
 simp[World.setCell,Array.getElem?_modify,h]
theorem tL {V:Vc} {dd:Vd} {N:List ByteArray} {kind:Int} {T:List Rg} {room:Int} {no to_:Option Addr} {nn nc tn tc:Nat} (w:World) (hV:xE w dd V) (hok:VOk V) (hN:SlS w no nn nc N) (hNs:∀s∈N,s.size<=maxLen) (hnn:nn<=1048576)
  (hT:SlF 3 w to_ tn tc (flat Rg.enc T)) (htn:tn<=1048576) (hU:Usu w):
  Calls Tryz.prog 35 #[dd.val, .slice no nn nc, .int .i64 kind, .slice to_ tn tc, .int .i64 room] w (TextPost V N kind T room w):=by
 obtain⟨ta,tn',tc',ma,mn,mc,sa,sn,sc⟩:=dd;obtain⟨w0,hw0⟩:∃w0,w.alloc (.cells #[.slice ta tn' tc', .slice ma mn mc, .slice sa sn sc] 26)=w0:=⟨_,rfl⟩;have hb0:Below w.heap.size w w0:=hw0▸aA w _;have hx0:w0.heap[w.heap.size]?=some (.cells #[.slice ta tn' tc', .slice ma mn mc, .slice sa sn sc] 26):=by rw[<-hw0];exact heap_alloc_new w _
 have hs0:w.heap.size<w0.heap.size:=by rw[<-hw0];simp
 obtain⟨c0,c1,c2⟩:=A4 hx0;have HV:=hW_ (hV.below hb0);have HN:=hW_ (hN.below hb0);have HT:=hW_ (hT.below hb0);have HU:=hW_ (hU.below hb0);have HB0:=hW_ hb0;have HX0:=hW_ hx0;have HW0:=hW_ hw0;have HNS:=hW_ hNs;have HNL:=hW_ hN.count;have HTL:=hW_ (hT.count Rg.enc_len (by omega));have hen:=sW (dd:=⟨ta,tn',tc',ma,mn,mc,sa,sn,sc⟩) w0 HV.out hok;have HOK:=hW_ hok;have HTC:=hW_ hV.tok.count;have HSC:=hW_ (hV.spc.count Sp.enc_len (by omega));clear hV hN hT hU hNs hb0 hx0 hw0 hok;go_enter Tryz.func35,Tryz.ntmps35;go_wp2_with (fail);rw[HW0.out];refine hen.mono ?_
 rintro e w1 ⟨⟨hno,rfl⟩ | ⟨hmay,eg,rfl,hec⟩,hb1⟩
 ·have HF:=hW_ hno;have HB1:=hW_ hb1;clear hb1 hno hen;go_wp2_with (fail);refine bodyPost_ret (v:= .tuple #[.pointer none, .int .i64 2]) ?_ rfl ⟨.inl ⟨HF.out,rfl⟩,HB0.out.trans (HB1.out.mono HB0.out.size)⟩
  simp[results,Tryz.results35,go_sem]
 have HM:=hW_ hmay;have HB1:=hW_ hb1;have HEC:=hW_ hec;have HLT:Hid (tn'<=1048576):=hW_ (by have h1:V.tokens.length=tn':=HTC.out;have h2:=hmay.1.1;omega);have HLS:Hid (sn<=1048576):=hW_ (by have h1:V.specials.length=sn:=HSC.out;have h2:=HOK.out.2.2;omega);have hcn:=cH w1 (SlS.flat (Sl.below HN.out HB1.out)) hnn;clear hb1 hmay hen hec c0 c1 c2;go_wp2_with (fail);refine hcn.mono ?_
 rintro e w2 ⟨vn,rfl,hon,hb2⟩;obtain⟨na,ncc,rfl,_⟩:=hon.sl;have hnl:N.length=nn:=HNL.out;rw[hnl]at hon;have HON:=hW_ hon;have HB12:=hW_ hb2;have HB2:=hW_ (HB1.out.trans (hb2.mono HB1.out.size));have hct:=eM w2 (HT.out.below HB2.out) htn;rw[hnl];clear hb2 hon hcn hnl;go_wp2_with (fail);refine hct.mono ?_
 rintro e w3 ⟨vt,rfl,hot,hb3⟩;obtain⟨oa,occ,rfl,_⟩:=hot.sl;have htl:T.length=tn:=HTL.out;rw[htl]at hot;have HOT:=hW_ hot;have HB23:=hW_ hb3;have HB3:=hW_ (HB2.out.trans (hb3.mono HB2.out.size));have hnc:=aAT room w3;rw[htl];clear hb3 hot hct htl;go_wp2_with (fail);refine hnc.mono ?_
 rintro e w4 ⟨pc,rfl,hpc,hb4⟩;have HPC:=hW_ hpc;have HB34:=hW_ hb4;have HB4:=hW_ (HB3.out.trans (hb4.mono HB3.out.size));obtain⟨w5,hw5⟩:∃w5,w4.alloc (.cells #[.slice none 0 0, .slice none 0 0, .slice none 0 0, .slice na nn ncc, .slice none 0 0, .int .i64 kind, .slice oa tn occ, .pointer (some ⟨eg,0,none⟩), .pointer pc] 129)=w5:=⟨_,rfl⟩;have hb5:Below w4.heap.size w4 w5:=hw5▸aA w4 _;have hx5:w5.heap[w4.heap.size]?=some (.cells #[.slice none 0 0, .slice none 0 0, .slice none 0 0, .slice na nn ncc, .slice none 0 0, .int .i64 kind, .slice oa tn occ, .pointer (some ⟨eg,0,none⟩), .pointer pc] 129):=by rw[<-hw5];exact heap_alloc_new w4 _
 have hs5:w4.heap.size<w5.heap.size:=by rw[<-hw5];simp
 have HW5:=hW_ hw5;have HX5:=hW_ hx5;have HS5:=hW_ hs5;have HB45:=hW_ hb5;have HB5:=hW_ (HB4.out.trans (hb5.mono HB4.out.size));have hmn:=kQ w5 (Sl.below HN.out HB5.out) HNS.out;clear hb4 hpc hb5 hx5 hw5 hnc hs5;go_wp2_with (fail);rw[HW5.out];refine hmn.mono ?_
 rintro e w6 ⟨⟨b1,rfl,hi1⟩,hb6⟩;have HB56:=hW_ hb6;have HB6:=hW_ (HB5.out.trans (hb6.mono HB5.out.size));have HI1:=hW_ hi1;clear hmn hb6 hi1
 cases b1 with
 | false=>
  have HF:Hid (¬wE N kind T room):=hW_ (fun h=>vJ HI1.out rfl h.1);go_wp2_with (fail);refine bodyPost_ret (v:= .tuple #[.pointer none, .int .i64 1]) ?_ rfl ⟨.inr (.inl ⟨HM.out,HF.out,rfl⟩),HB0.out.trans ((HB6.out).mono HB0.out.size)⟩
  simp[results,Tryz.results35,go_sem]
 | true=>
 have HN1:=hW_ (HI1.out.1 rfl)
 by_cases hk0:kind<0
 ·have HF:Hid (¬wE N kind T room):=hW_ (fun h=>by have:=h.2.1;omega);go_wp2_with (fail);refine bodyPost_ret (v:= .tuple #[.pointer none, .int .i64 1]) ?_ rfl ⟨.inr (.inl ⟨HM.out,HF.out,rfl⟩),HB0.out.trans ((HB6.out).mono HB0.out.size)⟩
  simp[results,Tryz.results35,go_sem]
 by_cases hk3:(3:Int)<kind
 ·have HF:Hid (¬wE N kind T room):=hW_ (fun h=>by have:=h.2.2.1;omega);go_wp2_with (fail);refine bodyPost_ret (v:= .tuple #[.pointer none, .int .i64 1]) ?_ rfl ⟨.inr (.inl ⟨HM.out,HF.out,rfl⟩),HB0.out.trans ((HB6.out).mono HB0.out.size)⟩
  simp[results,Tryz.results35,go_sem]
 have hcm:=E8 w6 (HT.out.below HB6.out);go_wp2_with (fail);refine hcm.mono ?_
 rintro e w7 ⟨⟨b2,rfl,hi2⟩,hb7⟩;have HB57:=hW_ (HB56.out.trans (hb7.mono HB56.out.size));have HB7:=hW_ (HB6.out.trans (hb7.mono HB6.out.size));have HI2:=hW_ hi2;clear hcm hb7 hi2
 cases b2 with
 | false=>
  have HF:Hid (¬wE N kind T room):=hW_ (fun h=>vJ HI2.out rfl h.2.2.2.1);go_wp2_with (fail);refine bodyPost_ret (v:= .tuple #[.pointer none, .int .i64 1]) ?_ rfl ⟨.inr (.inl ⟨HM.out,HF.out,rfl⟩),HB0.out.trans ((HB7.out).mono HB0.out.size)⟩
  simp[results,Tryz.results35,go_sem]
 | true=>
 have HT1:=hW_ (HI2.out.1 rfl);have HX7:=hW_ ((HB57.out.block w4.heap.size HS5.out).trans HX5.out);obtain⟨g0,g1,g2,g3,g4,g5,g6,g7,g8,gf⟩:=fO HX7.out;rcases HPC.out with⟨hp0,hnr⟩ | ⟨hrm,cb,mb,hp0,hrep⟩
 ·subst hp0;have HF:Hid (¬wE N kind T room):=hW_ (fun h=>hnr ⟨h.2.2.2.2.1,h.2.2.2.2.2⟩);clear hnr;go_wp2_with (fail);refine bodyPost_ret (v:= .tuple #[.pointer none, .int .i64 1]) ?_ rfl ⟨.inr (.inl ⟨HM.out,HF.out,rfl⟩),HB0.out.trans ((HB7.out).mono HB0.out.size)⟩
  simp[results,Tryz.results35,go_sem]
 subst hp0;have HOKK:Hid (wE N kind T room):=hW_ ⟨HN1.out,by omega,by omega,HT1.out,hrm.1,hrm.2⟩;have HRM:=hW_ hrm;have HREP:=hW_ hrep;clear hrm hrep;go_upto_if 60 with(fail)
 have hsb7:w4.heap.size<w7.heap.size:=Nat.lt_of_lt_of_le HS5.out HB57.out.size;have HB47:Hid (Below w4.heap.size w4 w7):=hW_ (HB45.out.trans (HB57.out.mono HB45.out.size));clear hk0 hk3;go_cut [] (fun wx=>∃oa2 oc2,wx.heap[w4.heap.size]?=some (.cells #[.slice none 0 0, .slice none 0 0, .slice none 0 0, .slice na nn ncc, .slice none 0 0, .int .i64 kind, .slice oa2 (D4 T).length oc2, .pointer (some ⟨eg,0,none⟩), .pointer (some ⟨cb,0,none⟩)] 129)/\
   Below w0.heap.size w0 wx/\Below w4.heap.size w4 wx/\TabOwn w2.heap.size w3.heap.size w4.heap.size wx (.slice oa2 (D4 T).length oc2) (D4 T))
 case first=>
  by_cases ht0:tn=0
  ·have hT0:T= []:=List.eq_nil_of_length_eq_zero (by have:=HTL.out;omega);have hTU:D4 T=usR:=by unfold D4;rw[if_pos hT0]
   have HTU:=hW_ hTU;have HUU:=nX w7 (HU.out.below HB7.out);subst ht0;clear hT0 hTU;go_wp2_with (fail);refine HUU.mono ?_
   rintro e w8 ⟨vu,rfl,hou,hb8⟩;obtain⟨ua,uc,rfl,_⟩:=hou.sl;have hx8:=(hb8.block w4.heap.size hsb7).trans HX7.out;obtain⟨g0,g1,g2,g3,g4,g5,g6,g7,g8,gf⟩:=fO hx8;have HX8:=hW_ hx8;have HB8:=hW_ hb8;have HOU:=hW_ hou;clear hx8 hb8 hou HUU;go_wp2_with (fail);go_meet;refine⟨ua,uc,by rw[HTU.out];exact rA HX8.out,(HB7.out.trans (HB8.out.mono HB7.out.size)).setCell HB4.out.size _,(HB47.out.trans (HB8.out.mono HB47.out.size)).setCell (Nat.le_refl _) _,by rw[HTU.out];exact⟨iA.mono (iA.keepG HOU.out ((fB.refl _ _).set _ _) fun q hq=>by have:=(World.ownsRow.lt HOU.out q hq).1;omega) (by have:=HB23.out.size;have:=HB34.out.size;omega),fun q hq=> .inr (by have:=(World.ownsRow.lt HOU.out q hq).1;omega)⟩⟩
  ·have hTT:D4 T=T:=by unfold D4;rw[if_neg (fun e=>ht0 (by have:=HTL.out;rw[e]at this;simpa using this.symm))]
   have HTT:=hW_ hTT;have htl:T.length=tn:=HTL.out;have HTL2:=hW_ htl;clear hTT htl;go_wp2_with (fail);go_meet;refine⟨oa,occ,by rw[HTT.out,HTL2.out];exact HX7.out,HB7.out,HB47.out,by rw[HTT.out,HTL2.out];exact⟨HOT.out.below (HB34.out.trans (HB47.out.mono HB34.out.size)),fun q hq=> .inl (World.ownsRow.lt HOT.out q hq).2⟩⟩
 case rest=>
 obtain⟨oa2,oc2,hxb,hbb,hb4b,htab⟩:=hcut;obtain⟨wb,rfl⟩:∃wb,wb=wc:=⟨wc,rfl⟩;have HXB:=hW_ hxb;have HBB:=hW_ hbb;have HB4B:=hW_ hb4b;have HTAB:=hW_ htab;clear hxb hbb hb4b htab g0 g1 g2 g3 g4 g5 g6 g7 g8 gf;obtain⟨c0,c1,c2⟩:=A4 ((HBB.out.block w.heap.size hs0).trans HX0.out);have hclT:=fun w' (hb:Below wb.heap.size wb w')=>cH w' (SlS.flat (Sl.below (HV.out.below HBB.out).tok hb)) (by show tn'<=1048576;exact HLT.out)
 have hclS:=fun w' (hb:Below wb.heap.size wb w')=>T7 w' (SlF.below (HV.out.below HBB.out).spc hb) (by show sn<=1048576;exact HLS.out)
 have hsb:w4.heap.size<wb.heap.size:=(Array.getElem?_eq_some_iff.1 HXB.out).1;have hwb0:w.heap.size<wb.heap.size:=Nat.lt_of_lt_of_le hs0 HBB.out.size;go_wp2_with (fail);go_cut [] (fun wx=>∃pa pcap qa qcap,wx.heap[w4.heap.size]?=some (.cells #[.slice pa V.tokens.length pcap, .slice none 0 0, .slice qa V.specials.length qcap, .slice na nn ncc, .slice none 0 0, .int .i64 kind, .slice oa2 (D4 T).length oc2, .pointer (some ⟨eg,0,none⟩), .pointer (some ⟨cb,0,none⟩)] 129)/\
   iA J4 1 9 wx wb.heap.size (.slice pa V.tokens.length pcap) V.tokens/\iA Sp.enc 2 117 wx wb.heap.size (.slice qa V.specials.length qcap) V.specials/\fB w4.heap.size wb wx/\Below w4.heap.size wb wx)
 case first=>
  go_region_with (first
   | (go_at_call 67;refine(hclT _ (by exact(Below.refl _ _).drew)).mono ?_;rintro e w9 ⟨v9,rfl,ho9,hb9⟩;obtain⟨pa,pcap,rfl,_⟩:=ho9.sl;have hb9':=Below.trans (bA (Below.refl wb.heap.size wb) 1) hb9;have d2:=eA hb9' _ _ c2)
   | (go_at_call 73;refine(hclS _ (by exact hb9')).mono ?_;rintro e wa ⟨va,rfl,hoa,hba⟩;obtain⟨qa,qcap,rfl,_⟩:=hoa.sl;have hba':=Below.trans hb9' (hba.mono hb9'.size);obtain⟨g0,g1,g2,g3,g4,g5,g6,g7,g8,gf⟩:=fO ((hba'.block w4.heap.size hsb).trans HXB.out)))
  all_goals(
   have hxa:=(hba'.block w4.heap.size hsb).trans HXB.out;have hs9:wb.heap.size<=w9.heap.size:=hb9'.size;clear g0 g1 g2 g3 g4 g5 g6 g7 g8 gf;go_wp2_with (fail);go_meet)
  all_goals exact⟨pa,pcap,qa,qcap,set3N hxa,iA.keepG (ho9.below hba) (fB.set3 _ _ _ _ _) (fun q hq=>by have:=(World.ownsRow.lt ho9 q hq).1;simp at this;omega),iA.keepG (iA.mono hoa hs9) (fB.set3 _ _ _ _ _) (fun q hq=>by have:=(World.ownsRow.lt hoa q hq).1;omega),(((fB.refl _ _).below hba').set _ _ |>.set _ _).set _ _,(((hba'.mono (Nat.le_of_lt hsb)).setCell (p:=⟨w4.heap.size,0,none⟩) (Nat.le_refl _) _).setCell (p:=⟨w4.heap.size,1,none⟩) (Nat.le_refl _) _).setCell (p:=⟨w4.heap.size,2,none⟩) (Nat.le_refl _) _⟩
 case rest=>
 obtain⟨pa,pcap,qa,qcap,hxd,hot,hos,hkp,hb9⟩:=hcut;have HXD:=hW_ hxd;have HOTK:=hW_ hot;have HOSP:=hW_ hos;have HKC:=hW_ hkp;have HB4C:=hW_ (HB4B.out.trans hb9);have hsc:w4.heap.size<wc.heap.size:=Nat.lt_of_lt_of_le hsb hkp.size;have hwc0:w.heap.size<w4.heap.size:=Nat.lt_of_lt_of_le hs0 HB4.out.size;clear hxd hot hos hkp hb9 hclT hclS c0 c1 c2;have hNL:N.length=nn:=HNL.out;have HNL2:=hW_ hNL;clear hNL;go_wp2_with (fail);go_loopw [77] (fun i wr=>∃(k:Nat) (mo:Option Addr) (mc:Nat),k<=nn/\i= .int .i64 k/\wr.heap[w4.heap.size]?=some (.cells #[.slice pa V.tokens.length pcap, .slice none 0 0, .slice qa V.specials.length qcap, .slice na nn ncc, .slice mo k mc, .int .i64 kind, .slice oa2 (D4 T).length oc2, .pointer (some ⟨eg,0,none⟩), .pointer (some ⟨cb,0,none⟩)] 129)/\
   Own wr wc.heap.size (.slice mo k mc) (nC V.specials (N.take k))/\fB w4.heap.size wc wr/\Below w4.heap.size wc wr) (fun i _=>nn-(intOf i).toNat)
 case atStart=>exact⟨0,none,0,by omega,rfl,HXD.out,by simpa[nC]using Own.nil wc wc.heap.size,fB.refl _ _,Below.refl _ _⟩
 case round=>
  obtain⟨k,mo,mcc,hk,rfl,hxr,how,hkr,hbr⟩:=hrel;have HXR:=hW_ hxr;have HOW:=hW_ how;have HKR:=hW_ hkr;have HBR:=hW_ hbr;have HB0R:Hid (Below w0.heap.size w0 wr):=hW_ ((HB4.out.trans (HB4C.out.mono HB4.out.size)).trans (hbr.mono HB4.out.size));have hsr:w4.heap.size<wr.heap.size:=Nat.lt_of_lt_of_le hsc hkr.size;have hsw:wc.heap.size<=wr.heap.size:=hkr.size;have hwr0:w.heap.size<wr.heap.size:=by omega
  obtain⟨c0,c1,c2⟩:=A4 ((HB0R.out.block w.heap.size hs0).trans HX0.out);obtain⟨g0,g1,g2,g3,g4,g5,g6,g7,g8,gf⟩:=fO hxr;clear hxr how hkr hbr
  by_cases hlt:k<nn
  ·have hkN:k<N.length:=by have:=HNL2.out;omega
   obtain⟨b,o,hao,hc⟩:=SlS.cell (Sl.below HN.out HB0R.out) (sB hkN);subst hao;obtain⟨ID,hID⟩:∃ID,idOf (fG V.specials (tk N k))=ID:=⟨_,rfl⟩;have hMK:nC V.specials (N.take k)++ [ID]=nC V.specials (N.take (k+1)):=by rw[<-hID];exact lW hkN
   have hid:∀w',Below wr.heap.size wr w'->Calls Tryz.prog 74 #[.agg #[.slice ta tn' tc', .slice ma mn mc, .slice sa sn sc], .string (tk N k)] w' fun e w9=>e= .returned (.int .i64 ID)/\Below wr.heap.size wr w9:=fun w' hb=>
    (id_calls (dd:=⟨ta,tn',tc',ma,mn,mc,sa,sn,sc⟩) (tk N k) w' ((HV.out.below HB0R.out).below hb)).mono fun e w9 ⟨h1,h2⟩=>⟨by rw[h1,hID],hb.trans (h2.mono hb.size)⟩
   have HMK:=hW_ hMK;have hown0:=World.ownsRow.lt HOW.out;have HLTW:=hW_ hown0;obtain⟨i0,hi,hz0,hz1,hz2⟩:=info_parts tC;have hlk:(nC V.specials (N.take k)).length=k:=by rw[nK,List.length_take];omega
   clear hMK hown0 hID;go_wp2_with (fail)
   go_region_law (first
    | (go_simp;go_at_call 74;refine(hid _ (by exact(Below.refl _ _).drew)).mono ?_;rintro e w9 ⟨rfl,hb9⟩;have hx9:=(hb9.block w4.heap.size hsr).trans HXR.out;obtain⟨e0,e1,e2,e3,e4,e5,e6,e7,e8,ef⟩:=fO hx9;have f4:=eA (aA w9 (.cells #[.int .i64 ID] 3)) _ _ e4;have ho9:=ownK (HOW.out.below hb9) hlk;have hs9:=hb9.size)
    | (refine step_append_lies _ (by rfl) _ _ _ (by rfl) wc.heap.size 3 i0 _ 1 8 Tryz.underlying34 hi hz0 hz1 hz2 rfl (by omega) _ k _ (by rfl) (ho9.alloc _) ⟨w9.heap.size,0,none⟩ 1 1 [.int .i64 ID] (by rfl) (by rfl) (World.news_of_block (cs:=#[.int .i64 ID]) (heap_alloc_new w9 _)) (by simp[Value.oneCell']) (by omega) (by unfold maxLen;omega) (by omega) (by simp;omega) (w9.heap.size+1) (by simp) ?_;intro gg cap w1 hown1 hgrow hat hlt;have hx1:=(hgrow.block w4.heap.size (by simp;omega) (fun e=>by have:=(HLTW.out _ e.symm).1;omega)).trans ((Below.heap_alloc _ _ _ (by omega)).trans hx9);obtain⟨k0,k1,k2,k3,k4,k5,k6,k7,k8,kf⟩:=fO hx1))
   all_goals(
    obtain⟨n1,n2⟩:=aDB HKR.out HBR.out hsc hb9 hgrow HLTW.out 4 (.slice (some ⟨gg,0,none⟩) (k+1) cap);have n3:=mark_own (MA:=nC V.specials (N.take (k+1))) hown1 HMK.out hlk (i:=4) (x:= .slice (some ⟨gg,0,none⟩) (k+1) cap) hsc;have n4:=set4N (v:= .slice (some ⟨gg,0,none⟩) (k+1) cap) hx1;have N1:=hW_ n1;have N2:=hW_ n2;have N3:=hW_ n3;have N4:=hW_ n4;clear n1 n2 n3 n4 hown1 hgrow hat hx1 k0 k1 k2 k3 k4 k5 k6 k7 k8 kf;go_wp2_with (fail);go_roundw
    ·exact⟨k+1,some ⟨gg,0,none⟩,cap,by omega,by simp,N4.out,N3.out,N1.out,N2.out⟩
    ·simp[intOf];omega)
  ·obtain rfl:k=nn:=by omega
   go_wp2_with (fail);refine bodyPost_ret (v:= .tuple #[.pointer (some ⟨w4.heap.size,0,none⟩), .int .i64 0]) ?_ rfl ⟨.inr (.inr ⟨HM.out,HOKK.out,w4.heap.size,cb,mb,rfl,codR_mk HNL2.out HB0.out.size HB1.out.size HB12.out HB23.out HB34.out (HB4C.out.trans HBR.out) HKC.out HKR.out hsb HB4B.out.size HEC.out HON.out HOTK.out HOSP.out HTAB.out HXR.out HOW.out HREP.out⟩),HB0.out.trans (HB0R.out.mono HB0.out.size)⟩
   simp[results,Tryz.results35,go_sem]
end Go.Proofs.YtahiballegpbgaaGreatDoor
