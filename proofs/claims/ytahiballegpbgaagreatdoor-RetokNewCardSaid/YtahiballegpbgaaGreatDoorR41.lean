/- Walks: a track: what turn and evict ask of each; limit. -/
import Derived.Test.YtahiballegpbgaaGreatDoorR40
set_option linter.unusedVariables false
set_option maxHeartbeats 1000000
set_option maxRecDepth 100000
namespace Go.Proofs.YtahiballegpbgaaGreatDoor
open Go.RowKit
theorem aAn {S:List Int} {cb m:Nat} {W:World} (hc:W.cell? ⟨cb,0,none⟩=some (.int .i64 m)):S4 (Value.int .i64) S 81 #[.pointer (some ⟨cb,0,none⟩)] (fun x=>decide (x>(m:Int))) W:=by
 intro x _;show Calls Tryz.prog _ #[_,_] W (fun E w'=>E= .returned (.bool (decide (x>(m:Int))))/\_);obtain⟨b,hb⟩:∃b,decide (x>(m:Int))=b:=⟨_,rfl⟩;have hb2:decide ((m:Int)<x)=b:=hb;rw[hb];go_enter Tryz.func81,Tryz.ntmps81;go_wp2_with (fail);refine bodyPost_ret (v:= .bool b) ?_ rfl ⟨rfl,Below.refl _ _⟩
 simp[results,Tryz.results81,go_sem]
theorem mZ {S:List Stp} {cb tb g pb wb st tn tc f:Nat} {xo:Option Addr} {sv vv:Value} {depth most:Int} {e:Bool} {W:World} (hc:W.heap[cb]?=some (.cells #[.pointer (some ⟨tb,0,none⟩)] 31)) (hx:F4 W tb g pb wb st xo tn tc sv vv depth most f e)
  {o:Option Addr} {R:List Int} {a:Nat} {t:Int} {e':Bool} (hp:PtR W pb g o R a t e'):S4 stV S 87 #[.pointer (some ⟨cb,0,none⟩)] (fun s=>decide (s.fin<=a)) W:=by
 intro x _;have hb:=aA W (.cells #[.int .i64 x.fin, .int .i64 x.toks, .int .i64 x.need] 111);obtain⟨w1,hw1⟩:∃w1,W.alloc (.cells #[.int .i64 x.fin, .int .i64 x.toks, .int .i64 x.need] 111)=w1:=⟨_,rfl⟩;have hb1:Below W.heap.size W w1:=hw1▸hb;have hx0:w1.heap[W.heap.size]?=some (.cells #[.int .i64 x.fin, .int .i64 x.toks, .int .i64 x.need] 111):=by rw[<-hw1];exact heap_alloc_new W _
 have hcb:=(hb1.block cb (Array.getElem?_eq_some_iff.1 hc).1).trans hc;have htb:=(hb1.block tb (Array.getElem?_eq_some_iff.1 hx.box).1).trans hx.box;have hpt:=hp.stay (w':=w1) (hb1.block pb hp.lt) (fun ad e1 h0=>hb1.block _ (hp.olt ad e1 h0));have hat:=fun W2 (hW:Ge w1 W2)=>O4 (hpt.stay (hW.block _ hpt.lt) (fun ad e1 h0=>hW.block _ (hpt.olt ad e1 h0)))
 obtain⟨b,hbb⟩:∃b,decide (x.fin<=a)=b:=⟨_,rfl⟩;have hb2:decide ((x.fin:Int)<=(a:Int))=b:=by rw[<-hbb];exact decide_eq_decide.2 (by omega)
 show Calls Tryz.prog _ #[_,_] W (fun E w'=>E= .returned (.bool (decide (x.fin<=a)))/\_);rw[hbb];obtain⟨k0,-⟩:=bC hx0;obtain⟨c0,c1,-⟩:=B7 htb;have kb:w1.cell? ⟨cb,0,none⟩=some (.pointer (some ⟨tb,0,none⟩)):=by simp[World.cell?,hcb]
 have HAT:=hW_ hat;have HB1:=hW_ hb1;have HW1:=hW_ hw1;have G0:=fun w' (hg:Ge w1 w')=>hg.at w1 w' k0
 have G1:=fun w' (hg:Ge w1 w')=>hg.at w1 w' c1
 have GB:=fun w' (hg:Ge w1 w')=>hg.at w1 w' kb
 have gr:=Ge.refl w1;unfold stV;clear hb hb1 hx0 hcb htb hpt hat hc hx hp hw1 k0 c0 c1 kb;go_enter Tryz.func87,Tryz.ntmps87;go_wp2_with (fail);rw[HW1.out]
 go_region_held3 (Ge w1) (first | (with_reducible assumption) | (with_reducible refine Ge.drew ?_;with_reducible assumption) | (with_reducible refine Ge.drewN ?_ _;with_reducible assumption)) ((go_at_call 60;refine(HAT.out _ (by exact bA (Below.refl _ _) _)).mono ?_;rintro E w9 ⟨rfl,rfl⟩))
 go_wp2_with (fail);refine bodyPost_ret (v:= .bool b) ?_ rfl ⟨rfl,?_⟩
 ·simp[results,Tryz.results87,go_sem]
 ·exact bA HB1.out _
theorem Y2 {w:World} {base tb g pb wb:Nat} {V:Vc} {N:List ByteArray} {kind:Int} {T:List Rg} {room cnt:Int} {P Q:Nat->Prop} {col:Nat->Nat} {A W:List Int} {f a t bs st keep:Nat} {e:Bool} {S:List Stp} {Sv:List Int} {depth most:Int}
  (h:gE w base tb g pb wb V N kind T room cnt P Q col A W f a t bs st keep e S Sv depth most) (hst:st<=A.length) (hl:A.length<=1048576) (hs:Sv.length<=1000000):
  Calls Tryz.prog 41 #[.pointer (some ⟨tb,0,none⟩)] w fun E w'=>E= .returned (.int .i64 (Sv.head?.getD A.length))/\∃q,w'=w.drewN q:=by
 obtain⟨xo,tc,sv,vv,hb,-,-,-,-,hv,-⟩:=h.box;have HL:=hW_ (tkLen hb (n:=A.length) (by omega) hl);obtain⟨c0,c1,c2,c3,c4,c5,c6,c7,c8,c9,ca,cf⟩:=B7 hb.box;obtain⟨vo,vc,rfl,hsl⟩:=hv.sl
 cases Sv with
 | nil=>
  clear h hb hv hsl hs;go_enter Tryz.func41,Tryz.ntmps41;go_wp2_with (go_at_call 9;refine HL.out.mono ?_;rintro E w9 ⟨rfl,q9,rfl⟩);go_ret;exact⟨rfl,q9,rfl⟩
 | cons x l=>
  have g1:decide ((((x::l).length:Nat):Int)>0)=true:=decide_eq_true (by rw[List.length_cons];omega);obtain⟨n,hn⟩:∃n,(x::l).length=n:=⟨_,rfl⟩;have hn0:0<n:=by rw[<-hn];simp
  obtain⟨b,o,hbo,hce⟩:=hsl.at_ (i:=0) (by simp);subst hbo;rw[Nat.add_zero]at hce;rw[show ix (x::l) 0=x from rfl]at hce;rw[hn]at c6 g1;have g2:(0:Int)<(n:Int):=by omega
  clear h hb hv hsl hs hn;go_enter Tryz.func41,Tryz.ntmps41;go_wp2_with (fail);go_ret;exact⟨rfl,0,rfl⟩
theorem aBS {w:World} {ao:Option Addr} {n c:Nat} {A:List Int} (h:SlI w ao n c A):∀ad,ao=some ad->0<n->ad.block<w.heap.size:=fun ad e h0=>by
 obtain⟨b,o',hao,hc⟩:=h.at_ h0;obtain rfl:ad=⟨b,o',none⟩:=Option.some.inj (e.symm.trans hao);exact World.block_lt_of_cell? w _ hc
def kV (w:World) (base tb g pb wb:Nat) (V:Vc) (N:List ByteArray) (kind:Int) (T:List Rg) (room cnt:Int) (col:Nat->Nat) (A' W W':List Int) (f a t bs st keep:Nat) (Sv':List Int) (depth most:Int) (E:Ending) (w':World):Prop:=
 ∃v P' Q' col' d S',E= .returned (edV (W.length-wA W W':Nat) v)/\Own w' w.heap.size v (W'.drop (wA W W'))/\
  gE w' base tb g pb wb V N kind T room (cnt+d) P' Q' col' A' W' f a t bs st keep false S' Sv' depth most/\TkI V N kind T A' W' f a t bs st keep false S' Sv'/\Inc S'/\(0<=d/\d<=A'.length)/\
  (∀q,q<w.heap.size->col' q=col q)/\(∀q,v.ownBlock=some q->col' q=0)/\dA (fun q=>col q≠0) w w'
theorem aAo {w:World} {base tb g pb wb m cb:Nat} {V:Vc} {N:List ByteArray} {kind:Int} {T:List Rg} {room cnt:Int} {P Q:Nat->Prop} {col:Nat->Nat} {A W B:List Int} {f a t bs st keep:Nat} {S:List Stp} {Sv:List Int} {depth most:Int} {bo:Option Addr}
  (h:gE w base tb g pb wb V N kind T room cnt P Q col A W f a t bs st keep false S Sv depth most) (hI:TkI V N kind T A W f a t bs st keep false S Sv) (hInc:Inc S) (hM:May V) (hNm:dB N) (hN:N.length<=16) (hT:oA T) (hk0:0<=kind) (hk3:kind<=3) (hr:room<=1048576)
  (hm:f<=m/\m<=A.length) (hB:SlI w bo B.length cb B) (hBc:mA V N B=0) (hA:A.length<=70000) (hl:m+B.length<=70000) (hcnt:cnt+(m+B.length:Nat)<1000000) (hbase:base<=w.heap.size) (hSv:Sv.length<=1000000) (hbc:∀ad,bo=some ad->0<B.length->col ad.block=0):
  Calls Tryz.prog 40 #[.pointer (some ⟨tb,0,none⟩), .int .i64 m, .slice bo B.length cb] w (kV w base tb g pb wb V N kind T room cnt col (A.take m++B) W (B5 V N kind T (A.take m++B)) f a t bs st keep (Sv.filter (fun x=>!decide (x>(m:Int)))) depth most):=by
 obtain⟨w1,hw1⟩:∃w1,(w.alloc (.cells #[.int .i64 m] 3)).alloc (.cells #[.int .i64 0, .slice none 0 0] 44)=w1:=⟨_,rfl⟩;have hb1:Below w.heap.size w w1:=hw1▸(aA w _).alloc (by simp) _;have hs1:w1.heap.size=w.heap.size+2:=by rw[<-hw1];simp
 have hm1:w1.heap[w.heap.size]?=some (.cells #[.int .i64 m] 3):=by
  rw[<-hw1];exact(Below.heap_alloc _ _ _ (by simp)).trans (heap_alloc_new w _)
 have hr1:w1.heap[w.heap.size+1]?=some (.cells #[.int .i64 0, .slice none 0 0] 44):=by
  rw[<-hw1];have:=heap_alloc_new (w.alloc (.cells #[.int .i64 m] 3)) (.cells #[.int .i64 0, .slice none 0 0] 44);simpa using this
 have h1:=h.below hb1;have hSl:S.length<=1000000:=by have:=hI.slen hInc;omega
 obtain⟨s,hs⟩:∃s,wJ (S.filter (fun s=>decide (s.need<=m))) a t=s:=⟨_,rfl⟩;have hok:=trn_ok hI hInc hT hm hBc hA hl hs;have HLA:=hW_ (aBe h1 m hSl);rw[hs]at HLA;obtain⟨S0,hS0⟩:∃S0,S.filter (fun s=>decide (s.need<=m))=S0:=⟨_,rfl⟩;rw[hS0]at HLA hok;have hAl:(A.take m++B).length=m+B.length:=by rw[List.length_append,List.length_take];omega
 have hstm:st<=m:=by have:=hI.st_le;have:=hI.at_;omega
 obtain⟨M,hM2⟩:∃M,(A.drop st).take (m-st)=M:=⟨_,rfl⟩;have hMl:M.length=m-st:=by rw[<-hM2,List.length_take,List.length_drop];omega
 have hMB:M++B=(A.take m++B).drop st:=by rw[List.drop_append_of_le_length (by rw[List.length_take];omega),<-hM2,List.take_drop];congr 3;omega
 have hwm:IntKind.i64.wrap ((m:Int)-(st:Int))=(M.length:Int):=by rw[IntKind.wrap_i64];omega
 have hfe:(A.take m++B).take f=A.take f:=by rw[List.take_append_of_le_length (by rw[List.length_take];omega),List.take_take,Nat.min_eq_left hm.1]
 have hc0:∀q,w.heap.size<=q->col q=0:=h.c0;obtain⟨A',hA'⟩:∃A',A.take m++B=A':=⟨_,rfl⟩;obtain⟨Sv',hSv'⟩:∃Sv',Sv.filter (fun x=>!decide (x>(m:Int)))=Sv':=⟨_,rfl⟩;rw[hA']at hok hAl hMB hfe |-;rw[hSv']at hok |-;have hBl:=aBS hB;have H1:=hW_ (And.intro hb1 (And.intro hs1 (And.intro hm1 (And.intro hr1 (And.intro hSv' (And.intro hAl (And.intro hstm (And.intro hMl (And.intro hMB (And.intro hfe hc0))))))))));have H:=hW_ hok;have HM:=hW_ (And.intro hM (And.intro hNm (And.intro hN (And.intro hT hr))));have HB:=hW_ (And.intro hm (And.intro hB (And.intro hA (And.intro hl (And.intro hcnt (And.intro hbase (And.intro hSv (And.intro hbc (And.intro hBl hM2)))))))));have HW1:=hW_ hw1;have hmf:∀(fn:Fn) (first cap:Array Value) (w:World),(Instr.makeFunc fn first cap).run Tryz.prog w= .ok (.func fn first cap) w:=fun _ _ _ _=>rfl
 have k0:w1.cell? ⟨w.heap.size,0,none⟩=some (.int .i64 m):=by simp[World.cell?,hm1]
 rw[<-hw1]at k0;clear h hI hInc hM hNm hN hT hr hm hB hBc hA hl hcnt hbase hSv hbc hb1 hs1 hm1 hr1 h1 hSl hs hS0 hw1 hok hAl hstm hM2 hMl hMB hfe hc0 hA' hSv' hBl;go_enter Tryz.func40,Tryz.ntmps40;go_wp2_with (fail);rw[HW1.out];refine HLA.out.mono ?_
 rintro E w2a ⟨rfl,h2a,hk2a⟩;unfold stV;obtain⟨w2,hw2⟩:∃w2,w2a.alloc (.cells #[.int .i64 s.fin, .int .i64 s.toks, .int .i64 s.need] 111)=w2:=⟨_,rfl⟩;have hb2a:Below w2a.heap.size w2a w2:=hw2▸aA w2a _;have h2:=h2a.below hb2a;have hk2:=hk2a.trans (dA.of_below hb2a);have hsz2:w2.heap.size=w2a.heap.size+1:=by rw[<-hw2];simp
 have hxs2:w2.heap[w2a.heap.size]?=some (.cells #[.int .i64 s.fin, .int .i64 s.toks, .int .i64 s.need] 111):=by rw[<-hw2];exact heap_alloc_new w2a _
 have hsa:=hk2a.size;clear h2a hk2a hb2a;obtain⟨hb1,hs1,hm1,hr1,hSv',hAl,hstm,hMl,hMB,hfe,hc0⟩:=H1.out;obtain⟨hm,hB,hA,hl,hcnt,hbase,hSv,hbc,hBl,hM2⟩:=HB.out;have hz0:=hc0 w.heap.size (Nat.le_refl _);have hz1:=hc0 (w.heap.size+1) (by omega);have hs2:=hk2.size;have hm2:=(hk2.block w.heap.size (by omega) (by omega)).trans hm1;have hr2:=(hk2.block (w.heap.size+1) (by omega) (by omega)).trans hr1;have htb:=h2.blt;have h2c:=h2.c2;obtain⟨xo,tc,sv,vv,hbx,htx,hto,hst,hso,hsv,hvo⟩:=h2.box;obtain⟨c0,c1,c2,c3,c4,c5,c6,c7,c8,c9,ca,cf⟩:=B7 hbx.box;have km:w2.cell? ⟨w.heap.size,0,none⟩=some (.int .i64 m):=by simp[World.cell?,hm2]
 have hX2:SlI w2 xo M.length tc M:=by
  have:=htx.take (k:=m-st) (by omega);rw[hM2,<-hMl]at this;exact this
 have hB2:SlI w2 bo B.length cb B:=hB.keep0 (fun ad e h0=>(hk2.block _ (by have:=hBl ad e h0;omega) (by have:=hbc ad e h0;omega)).trans (hb1.block _ (hBl ad e h0)));rw[<-hw2]at hX2 hB2 km c0 c1 c2 c3 c4 c5 c6 c7 c8 c9 ca cf;have HAB:=hW_ (aG.two hX2 hB2 34 (w2a.heap.size+1) (by simp));have HX2:=hW_ hX2;have hle:M.length<=A.length-st:=by omega
 have hML:M.length+B.length<=70000:=by omega
 obtain⟨i0,hi0,hz0',hz1',hz2'⟩:=info_parts tC;obtain⟨hrn,-⟩:=yU (ao:=xo) (n:=A.length-st) (cap:=tc) (k:=M.length) hle (Sl.le htx) hi0 hz1';have HBX:=hW_ (And.intro hbx (And.intro htx (And.intro hto (And.intro hst (And.intro hso (And.intro hsv hvo))))));have H2:=hW_ h2;have HK2:=hW_ hk2;have HS:=hW_ (And.intro hz0 (And.intro hz1 (And.intro hs2 (And.intro hm2 (And.intro hr2 (And.intro htb (And.intro h2c (And.intro hle (And.intro hsz2 (And.intro hxs2 hsa))))))))));have HW2:=hW_ hw2;have HT2:Hid (col tb=2/\col w.heap.size=0):=hW_ ⟨h2c,hz0⟩;have HLE:Hid (w2.heap.size<=((w2a.alloc (.cells #[.int .i64 s.fin, .int .i64 s.toks, .int .i64 s.need] 111)).alloc (.cells #[.slice xo M.length tc, .slice bo B.length cb] 34)).drew.heap.size):=hW_ (by rw[hw2];simp);have HNE:Hid (w2a.heap.size≠tb):=hW_ (fun e=>by rw[<-e]at h2c;have:=hc0 w2a.heap.size (by omega);omega);have HSZ:Hid (w2a.heap.size<w2.heap.size):=hW_ (by omega);have HXS:=hW_ hxs2;have hxs2':=hxs2;obtain⟨e0,e1,e2⟩:=bC hxs2';rw[<-hw2]at e0 e1 e2;clear hb1 hs1 hm1 hr1 hSv' hAl hstm hMl hMB hfe hc0 hm hB hA hl hcnt hbase hSv hbc hBl hM2 hz0 hz1 hs2 hm2 hr2 htb h2c hbx htx hto hst hso hsv hvo hX2 hB2 h2 hk2 k0 hw2 hsz2 hxs2 hxs2' hsa;have HKM:Hid (∀w',Below (w2a.alloc (.cells #[.int .i64 s.fin, .int .i64 s.toks, .int .i64 s.need] 111)).heap.size (w2a.alloc (.cells #[.int .i64 s.fin, .int .i64 s.toks, .int .i64 s.need] 111)) w'->w'.cell? ⟨w.heap.size,0,none⟩=some (.int .i64 m)):=hW_ (fun w' hb=>eA hb _ _ km);go_wp2_with (fail);refine aEw (F:=Hd4 ⟨w.heap.size,0,none⟩ ⟨tb,3,none⟩ ⟨tb,4,none⟩ ⟨tb,4,none⟩ (.int .i64 m) (.int .i64 st) (.slice xo (A.length-st) tc) (.slice xo (A.length-st) tc)) (e:=17) (by kernel_rfl) ⟨km,c3,c4,c4⟩ (fun hHeld=> ?_);obtain⟨G0,G1,G2,G3⟩:=hd4 ⟨w.heap.size,0,none⟩ ⟨tb,3,none⟩ ⟨tb,4,none⟩ ⟨tb,4,none⟩ (.int .i64 m) (.int .i64 st) (.slice xo (A.length-st) tc) (.slice xo (A.length-st) tc);refine aEs 0 11 (.pointer (some ⟨tb,0,none⟩)) ?_
 refine aEs 1 12 (.pointer (some ⟨tb,0,none⟩)) ?_
 refine aEs 2 13 (.pointer (some ⟨tb,0,none⟩)) ?_
 refine aEs 3 14 (.pointer (some ⟨tb,4,none⟩)) ?_
 refine aEs 4 15 (.slice xo (A.length-st) tc) ?_
 refine aEs 5 16 (.int .i64 m) ?_
 refine aEs 6 17 (.pointer (some ⟨tb,0,none⟩)) ?_
 refine aEs 7 18 (.pointer (some ⟨tb,0,none⟩)) ?_
 refine aEs 8 19 (.pointer (some ⟨tb,3,none⟩)) ?_
 refine aEs 9 20 (.int .i64 st) ?_
 refine aEs 10 21 (.int .i64 (M.length:Int)) ?_
 refine aEs 11 22 (.slice xo M.length tc) ?_
 refine aEs 12 23 (.slice bo B.length cb) ?_
 (try simp only[Act.put,List.setIfInBounds_toArray,List.set_cons_zero,List.set_cons_succ])
 refine aEt (i:=13) (by kernel_rfl) rfl (fun K hK=> ?_)
 go_simp
 have hg1:Hd4 ⟨w.heap.size,0,none⟩ ⟨tb,3,none⟩ ⟨tb,4,none⟩ ⟨tb,4,none⟩ (.int .i64 m) (.int .i64 st) (.slice xo (A.length-st) tc) (.slice xo (A.length-st) tc) ((w2a.alloc (.cells #[.int .i64 s.fin, .int .i64 s.toks, .int .i64 s.need] 111)).alloc (.cells #[.slice xo M.length tc, .slice bo B.length cb] 34)).drew:=⟨HKM.out _ (aA _ _).drew,eA (aA _ _).drew _ _ c3,eA (aA _ _).drew _ _ c4,eA (aA _ _).drew _ _ c4⟩;refine hK.out _ _ (fun _=>hg1) ?_
 clear hK K hHeld
 (try simp only[Act.put,List.setIfInBounds_toArray,List.set_cons_zero,List.set_cons_succ])
 refine aEt (i:=14) (by kernel_rfl) rfl (fun K hK=> ?_)
 go_simp
 go_at_call 79;refine(rS (R:=[M,B]) (L:=M.length+B.length) _ (HAB.out.below (Below.refl _ _).drew) (by simp) (by omega)).mono ?_
 rintro E w3 ⟨vo,vc,rfl,ho3,hb3⟩;have hb3':=((aA (w2a.alloc (.cells #[.int .i64 s.fin, .int .i64 s.toks, .int .i64 s.need] 111)) (.cells #[.slice xo M.length tc, .slice bo B.length cb] 34)).drew).trans (hb3.mono (by simp));have hz3:=HKM.out _ hb3';rw[HW2.out]at hb3';have HO3:=hW_ (Own.mono ho3 HLE.out);have HB3:=hW_ hb3';obtain⟨d0,d1,d2,d3,d4,d5,d6,d7,d8,d9,da,df⟩:=B7 ((hb3'.block tb HS.out.2.2.2.2.2.1).trans HBX.out.1.box);have hg3:Hd4 ⟨w.heap.size,0,none⟩ ⟨tb,3,none⟩ ⟨tb,4,none⟩ ⟨tb,4,none⟩ (.int .i64 m) (.int .i64 st) (.slice xo (A.length-st) tc) (.slice xo (A.length-st) tc) w3:=⟨hz3,d3,d4,d4⟩;clear ho3 hb3 hb3' hz3 hg1 d0 d1 d2 d3 d5 d6 d7 d8 d9 da;go_wp2_with (fail);refine hK.out _ _ (fun _=>hg3) ?_
 clear hK K
 (try simp only[Act.put,List.setIfInBounds_toArray,List.set_cons_zero,List.set_cons_succ])
 refine aEt (i:=15) (by kernel_rfl) rfl (fun K hK=> ?_)
 go_simp
 refine hK.out _ _ (fun _=>hg3) ?_
 clear hK K
 (try simp only[Act.put,List.setIfInBounds_toArray,List.set_cons_zero,List.set_cons_succ])
 refine aEs 16 27 (.pointer (some ⟨tb,4,none⟩)) ?_
 (try simp only[Act.put,List.setIfInBounds_toArray,List.set_cons_zero,List.set_cons_succ])
 refine aEt (i:=17) (by kernel_rfl) rfl (fun K hK=> ?_)
 go_simp
 refine hK.out _ _ (fun h=>absurd rfl h) ?_
 refine aEu (by kernel_rfl) ?_ _
 clear hK K G0 G1 G2 G3;clear hg3 d4 df;have hHX:=HS.out;obtain⟨hz0,hz1,hs2,hm2,hr2,htb,h2c,-,hsz2,hxs2,hsa⟩:=HS.out;obtain⟨hbx,htx,hto,hst,hso,hsv,hvo⟩:=HBX.out;obtain⟨hb1,hs1,hm1,hr1,hSv',hAl,hstm,hMl,hMB,hfe,hc0⟩:=H1.out;obtain⟨hm,hB,hA,hl,hcnt,hbase,hSv,hbc,hBl,hM2⟩:=HB.out;have hb3:=HB3.out;have hs3:=hb3.size;have hlt2:=H2.out.lt;have hx3:=(hb3.block tb htb).trans hbx.box;have hx4:=rA (i:=4) (v:= .slice vo (M.length+B.length) vc) hx3;obtain⟨w4,hw4⟩:∃w4,w3.setCell ⟨tb,4,none⟩ (.slice vo (M.length+B.length) vc)=w4:=⟨_,rfl⟩;rw[hw4]at hx4;have hs4:w4.heap.size=w3.heap.size:=by rw[<-hw4];simp
 have h4o:∀q,q≠tb->w4.heap[q]?=w3.heap[q]? :=fun q hq=>by rw[<-hw4];exact cA hq
 have hvb:∀q,vv.ownBlock=some q->q<w2.heap.size/\q≠tb/\col q=8:=fun q hq=>by
  have h8:=hvo q hq;exact⟨hlt2 q (by omega),fun e=>by rw[e]at h8;omega,h8⟩
 have hsv4:Own w4 base vv Sv:=jA hsv (fun q hq=>by
  obtain⟨v1,v2,v3⟩:=hvb q hq;exact(h4o q v2).trans (hb3.block q v1))
 have htw:tb≠w.heap.size/\tb≠w.heap.size+1:=⟨fun e=>by rw[e]at h2c;omega,fun e=>by rw[e]at h2c;omega⟩;have hm4:=(h4o w.heap.size (Ne.symm htw.1)).trans ((hb3.block w.heap.size (by omega)).trans hm2);have hr4:=(h4o (w.heap.size+1) (Ne.symm htw.2)).trans ((hb3.block (w.heap.size+1) (by omega)).trans hr2);have hbx4:F4 w4 tb g pb wb st vo (M.length+B.length) vc sv vv depth most f false:=⟨hx4⟩;have hD:∀W4,Ge w4 W4->Calls Tryz.prog 80 #[vv, .func (.func 81) #[] #[.pointer (some ⟨w.heap.size,0,none⟩)]] W4 (fun e w'=>∃va vc,e= .returned (.slice va Sv'.length vc)/\iA bP 1 3 w' base (.slice va Sv'.length vc) Sv'/\(∀q,(Value.slice va Sv'.length vc).ownBlock=some q->vv.ownBlock=some q)/\dA (fun q=>vv.ownBlock=some q) w4 w'):=fun W4 hW4=>by
  have hk:=dA.of_below (S:=fun q=>vv.ownBlock=some q) hW4;have:=rZ (g:=81) (l:= .pointer (some ⟨w.heap.size,0,none⟩)) (p:=fun x=>decide (x>(m:Int))) (enters_of Tryz.func81 (by kernel_rfl) rfl) W4 (Own.flatI (show Own W4 base vv Sv from jA hsv4 (fun q hq=>hW4.block q (World.ownsRow.lt hsv4 q hq).2))) (fun W hW=>aAn (by
   have hne:vv.ownBlock≠some w.heap.size:=fun e=>by
    have:=(hvb _ e).2.2;omega
   have:=((hk.trans hW).block w.heap.size (by omega) hne).trans hm4;simp[World.cell?,this])) hSv
  rw[hSv']at this;refine this.mono ?_
  rintro E w5 ⟨v',rfl,ho5,hv5,hk5⟩;obtain⟨va,vc,rfl,-⟩:=ho5.sl;exact⟨va,vc,rfl,ho5,hv5,hk.trans hk5⟩
 have hkm4:∀w',dA (fun q=>vv.ownBlock=some q) w4 w'->w'.cell? ⟨w.heap.size,0,none⟩=some (.int .i64 m):=fun w' hk=>by
  have:=(hk.block w.heap.size (by omega) (fun e=>by have:=(hvb _ e).2.2;omega)).trans hm4;simp[World.cell?,this]
 have HKM4:=hW_ hkm4;have hbx5:∀w',dA (fun q=>vv.ownBlock=some q) w4 w'->F4 w' tb g pb wb st vo (M.length+B.length) vc sv vv depth most f false:=fun w' hk=>⟨(hk.block tb (by omega) (fun e=>(hvb tb e).2.1 rfl)).trans hbx4.box⟩
 have HBX5:=hW_ hbx5;have km:=hkm4 w4 (dA.refl _ _);obtain⟨c0,c1,c2,c3,c4,c5,c6,c7,c8,c9,ca,cf⟩:=B7 hbx4.box;have HD:=hW_ hD;have HW4:=hW_ hw4;have H4:=hW_ (And.intro hs3 (And.intro hbx4 (And.intro hs4 (And.intro h4o (And.intro hvb (And.intro htw (And.intro hr4 hlt2)))))));clear hHX hsz2 hxs2 hsa hz0 hz1 hs2 hm2 hr2 htb h2c hbx htx hto hst hso hsv hvo hb1 hs1 hm1 hr1 hSv' hAl hstm hMl hMB hfe hc0 hm hB hA hl hcnt hbase hSv hbc hBl hM2 hb3 hs3 hlt2 hx3 hx4 hw4 hs4 h4o hvb hsv4 htw hm4 hr4 hD hkm4 hbx4 hbx5;rw[HW4.out];go_wp2_with (fail);refine(HD.out _ (Below.refl _ _)).mono ?_
 rintro E w5 ⟨va,vc5,rfl,ho5,hv5,hk5⟩;obtain⟨hs3,hbx4,hs4,h4o,hvb,htw,hr4,hlt2⟩:=H4.out;have hx5:=(HBX5.out w5 hk5).box;have hx5b:=hx5;have hxs5:=(hk5.block w2a.heap.size (by have:=HSZ.out;omega) (fun e=>by have h1:=(hvb _ e).2.2;have h2:=H1.out.2.2.2.2.2.2.2.2.2.2 w2a.heap.size (by have:=H1.out.2.1;have:=HS.out.2.2.2.2.2.2.2.2.2.2;omega);omega)).trans ((h4o _ HNE.out).trans ((HB3.out.block _ HSZ.out).trans HXS.out));obtain⟨w6,hw6⟩:∃w6,w5.setCell ⟨tb,6,none⟩ (.slice va Sv'.length vc5)=w6:=⟨_,rfl⟩;have hx6:=rA (i:=6) (v:= .slice va Sv'.length vc5) hx5;rw[hw6]at hx6;have hs6:w6.heap.size=w5.heap.size:=by rw[<-hw6];simp
 have hs5:=hk5.size;have h6o:∀q,q≠tb->w6.heap[q]?=w5.heap[q]? :=fun q hq=>by rw[<-hw6];exact cA hq
 obtain⟨hz0,hz1,hs2,hm2,hr2,htb,h2c,-,hsz2,hxs2,hsa⟩:=HS.out;obtain⟨hbx,htx,hto,hst,hso,hsv,hvo⟩:=HBX.out;obtain⟨hb1,hs1,hm1,hr1,hSv',hAl,hstm,hMl,hMB,hfe,hc0⟩:=H1.out;obtain⟨hm,hB,hA,hl,hcnt,hbase,hSv,hbc,hBl,hM2⟩:=HB.out;have hb3:=HB3.out;have hkeep:∀q,q<w2.heap.size->q≠tb->vv.ownBlock≠some q->w6.heap[q]?=w2.heap[q]? :=fun q h1 h2 h3=>
  (h6o q h2).trans ((hk5.block q (by omega) h3).trans ((h4o q h2).trans (hb3.block q h1)))
 have hvo3:∀ad,vo=some ad->0<M.length+B.length->w2.heap.size<=ad.block/\ad.block<w3.heap.size:=fun ad e h0=>by
  obtain⟨b,c',hv⟩:=xF HO3.out (by simpa using h0);obtain⟨rfl,-,-⟩:=Value.slice.inj hv;obtain rfl:=Option.some.inj e;have:=World.ownsRow.lt HO3.out b rfl;exact⟨this.1,this.2⟩
 have hcl:M.length+B.length=A'.length-st:=by omega
 obtain⟨Z1,hZ1⟩:∃Z1:Nat->Prop,(fun q=>0<M.length+B.length/\vo.map (·.block)=some q)=Z1:=⟨_,rfl⟩
 haveI:DecidablePred Z1:=fun _=>Classical.propDecidable _
 have hZl:∀q,Z1 q->w2.heap.size<=q/\q<w3.heap.size:=fun q hq=>by
  rw[<-hZ1]at hq;obtain⟨q1,q2⟩:=hq
  cases hvo:vo with
  | none=>rw[hvo]at q2;cases q2
  | some ad=>
   rw[hvo]at q2;obtain rfl:=Option.some.inj q2;exact hvo3 ad hvo q1
 have hlo1:∀q,q<w2.heap.size->wL col w2.heap.size Z1 6 q=col q:=fun q hq=>if_pos hq
 have h6:gE w6 base tb g pb wb V N kind T room cnt P Q (wL col w2.heap.size Z1 6) A' W f a t bs st keep false S0 Sv' depth most:=by
  refine H2.out.renew (w':=w6) (by omega) hlo1 (fun q hq=> ?_) (fun q h1 h2=>hkeep q h1 (fun e=>by rw[e]at h2;omega) (fun e=>by have:=(hvb q e).2.2;omega)) ⟨vo,vc,sv, .slice va Sv'.length vc5,⟨by rw[<-hcl];exact hx6⟩,?_,fun ad e h0=> ?_,jA hst (fun q hq=> ?_),fun q hq=> ?_,jA ho5.ints (fun q hq=>h6o q (hvb q (hv5 q hq)).2.1),fun q hq=> ?_⟩ (by rw[hfe])
  ·unfold wL;rw[if_neg (by omega),if_neg (fun h=>by have:=hZl q h;omega)]
  ·obtain⟨ra,rc,e3,hsl⟩:=HO3.out.sl;obtain⟨rfl,-,rfl⟩:=Value.slice.inj e3;have h9:SlI w3 vo (M.length+B.length) vc (M++B):=by simpa using hsl
   rw[hMB,hcl]at h9;refine h9.keep0 (fun ad e h0=> ?_);obtain⟨v1,v2⟩:=hvo3 ad e (by omega);exact(h6o _ (by omega)).trans ((hk5.block _ (by omega) (fun e=>by have:=(hvb _ e).1;omega)).trans (h4o _ (by omega)))
  ·obtain⟨v1,v2⟩:=hvo3 ad e (by omega);unfold wL;rw[if_neg (by omega),if_pos (by rw[<-hZ1];exact⟨by omega,by rw[e];rfl⟩)]
  ·have h7:=hso q hq;exact hkeep q (hlt2 q (by omega)) (fun e=>by rw[e]at h7;omega) (fun e=>by have:=(hvb q e).2.2;omega)
  ·have h7:=hso q hq;rw[hlo1 q (hlt2 q (by omega))];exact h7
  ·obtain⟨v1,v2,v3⟩:=hvb q (hv5 q hq);rw[hlo1 q v1];exact v3
 obtain⟨c1',hc1'⟩:∃c1',wL col w2.heap.size Z1 6=c1':=⟨_,rfl⟩;rw[hc1']at h6 hlo1;have ok:=H.out;obtain⟨hM,hNm,hN,hT,hr⟩:=HM.out;have hF:=qW h6 hM hNm hN hT hk0 hk3 hr ok.chk (by omega) ok.lo (by omega) ok.base ok.view ok.wl ok.at_ ok.sl ok.bd ok.start ok.sum (by omega);have hk26:dA (fun q=>col q≠0) w w6:=by
  have K1:dA (fun q=>col q≠0\/w.heap.size<=q) w w6:=by
   rw[<-hw6];refine(((dA.of_below hb1).trans (HK2.out.mono (fun q _ hq=> ?_))).trans (((dA.of_below hb3).trans ((dA.refl _ w3).set (p:=⟨tb,4,none⟩) (v:= .slice vo (M.length+B.length) vc) (.inl (by show col tb≠0;omega)))).trans ?_)).set (p:=⟨tb,6,none⟩) (.inl (by show col tb≠0;omega)) _
   ·omega
   ·rw[HW4.out];exact hk5.mono (fun q _ hq=> .inl (by have:=(hvb q hq).2.2;omega))
  exact K1.mono (fun q hl hq=>hq.resolve_right (by omega))
 have hr6:=(hkeep (w.heap.size+1) (by omega) (Ne.symm htw.2) (fun e=>by have:=(hvb _ e).2.2;omega)).trans hr2;have HF:=hW_ hF;have HX5:=hW_ hx5b;have HXS5:=hW_ hxs5;have HW6:=hW_ hw6;have H6:=hW_ (And.intro hk26 (And.intro hr6 (And.intro hlo1 (And.intro (show w.heap.size+1<w2.heap.size/\w2.heap.size<=w6.heap.size by omega) hz1))));clear hsz2 hxs2 hsa hs3 hbx4 hs4 h4o hvb htw hr4 hlt2 hxs5 hx5 hx5b hx6 hw6 hs6 hs5 h6o hz0 hz1 hs2 hm2 hr2 htb h2c hbx htx hto hst hso hsv hvo hb1 hs1 hm1 hr1 hSv' hAl hstm hMl hMB hfe hc0 hm hB hA hl hcnt hbase hSv hbc hBl hM2 hb3 hkeep hvo3 hcl hZ1 hZl hlo1 h6 hc1' ok hM hNm hN hT hr hF hk26 hr6 ho5 hv5 hk5 c0 c1 c2 c3 c4 c5 c6 c7 c8 c9 ca cf km;obtain⟨c0,c1,c2,c3,c4,c5,c6,c7,c8,c9,ca,cf⟩:=B7 HX5.out;obtain⟨e0,e1,e2⟩:=bC HXS5.out;have hne:=HNE.out;go_wp2_with (fail);rw[HW6.out];refine HF.out.mono ?_
 rintro E w7 ⟨v,P',Q',col',d,Z,rfl,hov,h7,hd,hZ,hcol,hvc,hk7⟩;obtain⟨o7,c7,rfl,-⟩:=hov.sl;obtain⟨hk26,hr6,hlo1,hlt1,hz1⟩:=H6.out;have hz7:c1' (w.heap.size+1)=0:=by rw[hlo1 _ hlt1.1];exact hz1
 have hr7:=(hk7.block (w.heap.size+1) (by omega) (by omega)).trans hr6;obtain⟨n0,n1⟩:=zH hr7;have nf:∀o,w7.frozen? ⟨w.heap.size+1,o,none⟩=false:=fun o=>by simp[World.frozen?,hr7]
 have H7:=hW_ (And.intro hov (And.intro h7 (And.intro hd (And.intro hZ (And.intro hcol (And.intro hvc hk7))))));clear hov h7 hd hZ hcol hvc hk7 hk26 hr6 hlo1 hlt1 hz1 hr7 hz7;obtain⟨X,hX⟩:∃X,B5 V N kind T (A.drop s.fin)=X:=⟨_,rfl⟩;obtain⟨Y,hY⟩:∃Y,B5 V N kind T (A'.drop s.fin)=Y:=⟨_,rfl⟩;rw[hX,hY];rw[hX,hY]at H7 H;obtain⟨xl,hxl⟩:∃xl,X.length-wA X Y=xl:=⟨_,rfl⟩;obtain⟨yl,hyl⟩:∃yl,(Y.drop (wA X Y)).length=yl:=⟨_,rfl⟩;rw[hxl,hyl];rw[hyl]at H7;have HXL:=hW_ (And.intro hxl hyl);clear hxl hyl hX hY;go_wp2_with (fail);refine bodyPost_ret (v:=edV (xl:Nat) (.slice o7 yl c7)) ?_ rfl ?_
 ·simp[results,Tryz.results40,go_sem,n0,n1]
 obtain⟨hov,h7,hd,hZ,hcol,hvc,hk7⟩:=H7.out;obtain⟨hk26,hr6,hlo1,hlt1,hz1⟩:=H6.out;obtain⟨hxl,hyl⟩:=HXL.out;have ok:=H.out;obtain⟨e1,e2⟩:=ok.ed;have htk:=ok.tk Z hZ.1 (fun x hx=>hZ.2 x hx);have hs7:=hk7.size;obtain⟨w8,hw8⟩:∃w8,(w7.setCell ⟨w.heap.size+1,0,none⟩ (.int .i64 xl)).setCell ⟨w.heap.size+1,1,none⟩ (.slice o7 yl c7)=w8:=⟨_,rfl⟩;rw[hw8];have h8o:∀q,q≠w.heap.size+1->w8.heap[q]?=w7.heap[q]? :=fun q hq=>by rw[<-hw8,cA hq,cA hq]
 have hc7:∀q,q<w2.heap.size->col' q=col q:=fun q hq=>(hcol q (by omega)).trans (hlo1 q hq)
 have hk78:dA (fun q=>q=w.heap.size+1) w7 w8:=by
  rw[<-hw8];exact((dA.refl (fun q=>q=w.heap.size+1) w7).set (p:=⟨w.heap.size+1,0,none⟩) rfl _).set (p:=⟨w.heap.size+1,1,none⟩) rfl _
 refine⟨.slice o7 yl c7,P',Q',col',d,S0++Z,by rw[e1,hxl],?_,?_,htk.1,htk.2,hd,fun q hq=>hc7 q (by omega),hvc,?_⟩
 ·rw[e2];refine Own.mono (jA hov (fun q hq=>h8o q ?_)) (by omega);have:=(World.ownsRow.lt hov q hq).1;omega
 ·rw[<-ok.next];exact h7.keeps hk78 (fun q hq=>by rw[hq,hc7 _ hlt1.1];exact hz1)
 ·have K1:dA (fun q=>col q≠0\/w.heap.size<=q) w w8:=
   ((hk26.mono (fun q _ hq=> .inl hq)).trans (hk7.mono (fun q hl hq=>by
    by_cases h2:q<w.heap.size
    ·rw[hlo1 q (by omega)]at hq;exact .inl (by omega)
    ·exact .inr (by omega)))).trans (hk78.mono (fun q _ hq=> .inr (by omega)))
  exact K1.mono (fun q hl hq=>hq.resolve_right (by omega))
theorem kV.ret {w W w2 w3:World} {base tb g pb wb:Nat} {V:Vc} {N:List ByteArray} {kind:Int} {T:List Rg} {room cnt:Int} {col:Nat->Nat} {A' X Y:List Int} {f a t bs st keep:Nat} {Sv':List Int} {depth most:Int} {E:Ending} (hb:Below w.heap.size w W) (hlt:w.heap.size<W.heap.size) (hc:col w.heap.size=0)
  (h:kV W base tb g pb wb V N kind T room cnt col A' X Y f a t bs st keep Sv' depth most E w2) (hk:dA (fun q=>q=w.heap.size) w2 w3):kV w base tb g pb wb V N kind T room cnt col A' X Y f a t bs st keep Sv' depth most E w3:=by
 obtain⟨v,P',Q',col',d,S',h1,h2,h3,h4,h5,h6,h7,h8,h9⟩:=h;have hs:=hb.size;have K:dA (fun q=>col q≠0\/w.heap.size<=q) w w3:=((dA.of_below hb).trans (h9.mono (fun q _ hq=> .inl hq))).trans (hk.mono (fun q _ hq=> .inr (by omega)));exact⟨v,P',Q',col',d,S',h1,Own.mono (jA h2 (fun q hq=>by
  obtain⟨a1,a2⟩:=World.ownsRow.lt h2 q hq;exact hk.block q a2 (by omega))) hs,h3.keeps hk (fun q hq=>by rw[hq,h7 _ hlt];exact hc),h4,h5,h6,fun q hq=>h7 q (by omega),h8,K.mono (fun q hl hq=>hq.resolve_right (by omega))⟩
theorem nP {w:World} {base tb g pb wb m cb:Nat} {V:Vc} {N:List ByteArray} {kind:Int} {T:List Rg} {room cnt:Int} {P Q:Nat->Prop} {col:Nat->Nat} {A W B:List Int} {f a t bs st keep:Nat} {S:List Stp} {Sv:List Int} {depth most:Int} {bo:Option Addr}
  (h:gE w base tb g pb wb V N kind T room cnt P Q col A W f a t bs st keep false S Sv depth most) (hI:TkI V N kind T A W f a t bs st keep false S Sv) (hInc:Inc S) (hM:May V) (hNm:dB N) (hN:N.length<=16) (hT:oA T) (hk0:0<=kind) (hk3:kind<=3) (hr:room<=1048576)
  (hm:f<=m/\m<=A.length) (hB:SlI w bo B.length cb B) (hBc:mA V N B=0) (hA:A.length<=70000) (hl:m+B.length<=70000) (hcnt:cnt+(m+B.length:Nat)<1000000) (hbase:base<=w.heap.size) (hSv:Sv.length<=1000000) (hbc:∀ad,bo=some ad->0<B.length->col ad.block=0)
  (hmo:(m+B.length:Nat)<=most/\most<=65536):
  Calls Tryz.prog 10 #[.pointer (some ⟨tb,0,none⟩), .int .i64 m, .slice bo B.length cb] w fun E w'=>∃x,E= .returned (.tuple #[x, .int .i64 0])/\
   kV w base tb g pb wb V N kind T room cnt col (A.take m++B) W (B5 V N kind T (A.take m++B)) f a t bs st keep (Sv.filter (fun x=>!decide (x>(m:Int)))) depth most (.returned x) w':=by
 obtain⟨A',hA'⟩:∃A',A.take m++B=A':=⟨_,rfl⟩;obtain⟨Sv',hSv'⟩:∃Sv',Sv.filter (fun x=>!decide (x>(m:Int)))=Sv':=⟨_,rfl⟩;rw[hA',hSv'];obtain⟨w1,hw1⟩:∃w1,w.alloc (.cells #[.int .i64 0, .slice none 0 0] 44)=w1:=⟨_,rfl⟩;have hb1:Below w.heap.size w w1:=hw1▸aA w _;have hs1:w1.heap.size=w.heap.size+1:=by rw[<-hw1];simp
 have hr1:w1.heap[w.heap.size]?=some (.cells #[.int .i64 0, .slice none 0 0] 44):=by rw[<-hw1];exact heap_alloc_new w _
 have hc0:=h.c0 w.heap.size (Nat.le_refl _);have hTN:∀W1,Ge w1 W1->Calls Tryz.prog 40 #[.pointer (some ⟨tb,0,none⟩), .int .i64 m, .slice bo B.length cb] W1 (fun E w'=>∃(xl:Int) (o7:Option Addr) (n7 c7:Nat),E= .returned (edV xl (.slice o7 n7 c7))/\
   (∀w3,dA (fun q=>q=w.heap.size) w' w3->kV w base tb g pb wb V N kind T room cnt col A' W (B5 V N kind T A') f a t bs st keep Sv' depth most (.returned (edV xl (.slice o7 n7 c7))) w3)/\w'.heap[w.heap.size]?=some (.cells #[.int .i64 0, .slice none 0 0] 44)):=fun W1 hW=>by
  have hbW:Below w.heap.size w W1:=hb1.trans (hW.mono hb1.size);have hWs:=hW.size;have:=aAo (h.below hbW) hI hInc hM hNm hN hT hk0 hk3 hr hm (SlI.below hB hbW) hBc hA hl hcnt (Nat.le_trans hbase hbW.size) hSv hbc;rw[hA',hSv']at this;refine this.mono ?_
  rintro E w' hq;have hq2:=fun w3=>hq.ret (w3:=w3) hbW (by omega) hc0
  obtain⟨v,P',Q',col',d,S',rfl,h2,h3,h4,h5,h6,h7,h8,h9⟩:=hq;obtain⟨o7,c7,rfl,-⟩:=h2.sl;exact⟨_,o7,_,c7,rfl,hq2,(h9.block _ (by omega) (by simp[hc0])).trans ((hW.block _ (by omega)).trans hr1)⟩
 obtain⟨xo,tc,sv,vv,hbx,htx,hto,hst,hso,hsv,hvo⟩:=h.box;have hstm:st<=m:=by have:=hI.st_le;have:=hI.at_;omega
 have hbxA:=fun W1 (hW:Ge w1 W1)=>(⟨(hW.block tb (by have:=h.blt;omega)).trans ((hb1.block tb h.blt).trans hbx.box)⟩:F4 W1 tb g pb wb st xo (A.length-st) tc sv vv depth most f false)
 have hcl:=fun W1 (hW:Ge w1 W1)=>sX (hbxA W1 hW)
 rw[if_neg (by simp)]at hcl;have hLN:=fun W1 (hW:Ge w1 W1)=>tkLen (n:=A.length) (hbxA W1 hW) (by omega) (by omega)
 obtain⟨cb1,hcod⟩:=h.cod.cod;have hCk:=fun W1 (hW:Ge w1 W1)=>xH W1 ((hcod.below hb1).below hW) hN (SlI.below (SlI.below hB hb1) hW) (by omega)
 rw[hBc]at hCk;obtain⟨c0,c1,c2,c3,c4,c5,c6,c7,c8,c9,ca,cf⟩:=B7 (hbxA w1 (Ge.refl _)).box;rw[<-hw1]at c0 c1 c2 c3 c4 c5 c6 c7 c8 c9 ca cf;have g1:decide ((m:Int)<(f:Int))=false:=by simp;omega
 have g1n:decide (m<f)=false:=by simp;omega
 have g2n:decide (A.length<m)=false:=by simp;omega
 have g2:decide ((m:Int)>(A.length:Int))=false:=by simp;omega
 have g2':decide ((A.length:Int)<(m:Int))=false:=by simp;omega
 have g3:IntKind.i64.wrap (most-(m:Int))=most-m:=by rw[IntKind.wrap_i64];omega
 have g4:decide ((B.length:Int)>most-(m:Int))=false:=by simp;omega
 have g4':decide (most-(m:Int)<(B.length:Int))=false:=by simp;omega
 have HTN:=hW_ hTN;have HCL:=hW_ hcl;have HLN:=hW_ hLN;have HCK:=hW_ hCk;have HW1:=hW_ hw1;have HBA:=hW_ hbxA;clear h hI hInc hM hNm hN hT hk0 hk3 hr hm hB hBc hA hl hcnt hbase hSv hbc hmo hA' hSv' hTN hbx htx hto hst hso hsv hvo hstm hcl hLN hcod hCk hw1 hb1 hs1 hr1 hc0 hbxA;go_enter Tryz.func10,Tryz.ntmps10;go_wp2_with (fail);rw[HW1.out];refine(HCL.out _ (Below.refl _ _)).mono ?_
 rintro E w2 ⟨rfl,rfl⟩;rw[HW1.out]at c0 c1 c2 c3 c4 c5 c6 c7 c8 c9 ca cf;go_wp2_with (fail);refine(HLN.out _ (Below.refl _ _)).mono ?_
 rintro E w3 ⟨rfl,q3,rfl⟩;obtain⟨w3,hw3⟩:∃w3,w2.drewN q3=w3:=⟨_,rfl⟩;rw[hw3];have hb3:Ge w2 w3:=hw3▸bA (Below.refl _ _) _;clear hw3 c0 c1 c2 c3 c4 c5 c6 c7 c8 c9 ca cf;obtain⟨c0,c1,c2,c3,c4,c5,c6,c7,c8,c9,ca,cf⟩:=B7 (HBA.out _ hb3).box;go_wp2_with (first
  | (go_at_call 39;refine(HCK.out _ hb3).mono ?_;rintro E w4 ⟨rfl,rfl⟩)
  | (go_at_call 40;refine(HTN.out _ hb3).mono ?_;rintro E w5 ⟨xl,o7,n7,c7,rfl,hq,hr5⟩;have HQ:=hW_ hq;clear hq;obtain⟨n0,n1⟩:=zH hr5;have nf:∀o,w5.frozen? ⟨w.heap.size,o,none⟩=false:=fun o=>by simp[World.frozen?,hr5]))
 refine bodyPost_ret (v:= .tuple #[edV xl (.slice o7 n7 c7), .int .i64 0]) ?_ rfl ⟨_,rfl,?_⟩
 ·simp[results,Tryz.results10,go_sem,n0,n1]
 ·exact HQ.out _ (((dA.refl (fun q=>q=w.heap.size) w5).set (p:=⟨w.heap.size,0,none⟩) rfl _).set (p:=⟨w.heap.size,1,none⟩) rfl _)
open Go
section
variable {V:Vc} {N:List ByteArray} {kind:Int} {T:List Rg} {A W:List Int} {f a t bs st keep n:Nat} {S:List Stp} {Sv:List Int}
theorem bd_view {c k:Nat} (hA:mA V N A=0) (hv:W=B5 V N kind T A) (h:Bd V N kind T (A.take n) c k):k<=W.length/\pC V N (W.take k)=c:=by
 obtain⟨h1,R,hR,hd,ht⟩:=h;have e:=ht (A.drop n) (nA hA n).2;rw[List.take_append_drop]at e;have hs:=oG (V:=V) (N:=N) (W:=R) (by rw[hd]);rw[hd]at hs;simp only[List.length_take]at hs h1;rw[hv,e,<-hR,List.take_left];refine⟨by rw[List.length_append];omega,by omega⟩
structure FixOk (V:Vc) (N:List ByteArray) (kind:Int) (T:List Rg) (A W:List Int) (a t bs st keep n:Nat) (S:List Stp) (Sv:List Int) (a' t' bs' st':Nat) (S':List Stp):Prop where
 at_:a'=a+fP kind T ((A.take n).drop a) false
 toks:t'=t+(T5 V N kind T ((A.take n).drop a) false).length
 rest:((A.take n).drop a).drop (fP kind T ((A.take n).drop a) false)=(A.take n).drop a'
 le:a<=a'/\a'<=n/\t<=t'/\t'<=W.length/\st'<=a'/\bs<=bs'/\bs'<=t'/\st<=st'
 base:(bs'-bs:Nat)=max (0:Int) ((t':Int)-keep-bs)
 st:(st':Int)=st+pC V N ((W.drop bs).take (bs'-bs))
 tk:TkI V N kind T A W n a' t' bs' st' keep false S' Sv
 inc:Inc S'
theorem fix_ok (hV:May V) (hN:dB N) (hT:oA T) (hk:0<=kind/\kind<=3) (hI:TkI V N kind T A W f a t bs st keep false S Sv) (hInc:Inc S) (hn:f<=n/\n<=A.length/\∀x∈Sv,(n:Int)<=x) {a' t':Nat}
  (ha:a+fP kind T ((A.take n).drop a) false=a') (ht:t+(T5 V N kind T ((A.take n).drop a) false).length=t'):
  FixOk V N kind T A W a t bs st keep n S Sv a' t' (t'-keep) (pC V N (W.take (t'-keep))) (S.filter (fun s=>!decide (s.fin<=a'))):=by
 have hb:Bd V N kind T (A.take n) a' t':=by
  rw[<-ha,<-ht];exact aCF hV hN hT hk (nA hI.chk n).1 (bd_up hI.chk hn.1 (hI.bd rfl)) (List.prefix_refl _)
 obtain⟨v1,v2⟩:=bd_view hI.chk hI.view hb;have hc:=comN_le (kind:=kind) hT (e:=false) (nA (nA hI.chk n).1 a).2;rw[List.length_drop,List.length_take]at hc;have hat:=hI.at_;have hbs:=hI.base;have hst:=hI.start;have hm1:=V1 (V:=V) (N:=N) (W:=W) (show bs<=t'-keep by omega);have hm2:=V1 (V:=V) (N:=N) (W:=W) (show t'-keep<=t' by omega);have hsum:pC V N (W.take (t'-keep))=pC V N (W.take bs)+pC V N ((W.drop bs).take (t'-keep-bs)):=by
  have e:=List.take_add (l:=W) (i:=bs) (j:=t'-keep-bs);rw[show bs+(t'-keep-bs)=t'-keep by omega]at e;rw[e,wI]
 refine⟨ha.symm,ht.symm,by rw[List.drop_drop,ha],⟨by omega,by omega,by omega,v1,by omega,by omega,by omega,by omega⟩,by omega,by omega,⟨hI.chk,hI.view,hn.2.1,by omega,⟨v1,v2⟩,fun _=>hb,rfl,rfl,fun _ x hx=> ?_,hI.saves.1,fun x hx=>⟨hn.2.2 x hx,(hI.saves.2 x hx).2⟩⟩,hInc.filter _⟩;obtain⟨h1,h2⟩:=List.mem_filter.1 hx;have h3:¬x.fin<=a':=by simpa using h2
 have hs:=hI.steps rfl x h1;exact⟨hs.need,hs.bd,by omega,bd_mono hV.1.2.1 hI.chk hb hs.bd (List.take_prefix _ _) (List.take_prefix _ _) (by omega)⟩
end
structure zQ (w:World) (base tb g pb wb:Nat) (V:Vc) (N:List ByteArray) (kind:Int) (T:List Rg) (room cnt:Int) (P Q:Nat->Prop) (col:Nat->Nat) (A W:List Int) (f a t tw bs st keep:Nat) (S:List Stp) (Sv:List Int) (depth most:Int):Prop where
 cod:Cdr w base g V N kind T room cnt P
 pt:∃o,PtR w pb g o ((A.take f).drop a) a t false/\∀ad,o=some ad->0<((A.take f).drop a).length->col ad.block=4
 win:∃eb rb,rD w base wb eb rb (plc V N st (W.drop bs)) bs st keep tw Q/\col eb=5
 box:∃xo tc sv vv,F4 w tb g pb wb st xo (A.length-st) tc sv vv depth most f false/\SlI w xo (A.length-st) tc (A.drop st)/\(∀ad,xo=some ad->0<A.length-st->col ad.block=6)/\
  iA Stp.enc 3 111 w base sv S/\(∀q,sv.ownBlock=some q->col q=7)/\Own w base vv Sv/\(∀q,vv.ownBlock=some q->col q=8)
 c1:∀q,P q->col q=1
 c2:col tb=2
 c3:col pb=3
 c5:col wb=5/\∀q,Q q->col q=5
 c0:∀q,w.heap.size<=q->col q=0
section
variable {w:World} {base tb g pb wb:Nat} {V:Vc} {N:List ByteArray} {kind:Int} {T:List Rg} {room cnt:Int} {P Q:Nat->Prop} {col:Nat->Nat} {A W:List Int} {f a t tw bs st keep:Nat} {S:List Stp} {Sv:List Int} {depth most:Int}
theorem zQ.blt (h:zQ w base tb g pb wb V N kind T room cnt P Q col A W f a t tw bs st keep S Sv depth most):tb<w.heap.size:=by
 obtain⟨xo,tc,sv,vv,hb,-⟩:=h.box;exact(Array.getElem?_eq_some_iff.1 hb.box).1
theorem zQ.lt (h:zQ w base tb g pb wb V N kind T room cnt P Q col A W f a t tw bs st keep S Sv depth most):∀q,col q≠0->q<w.heap.size:=fun q hq=>by
 apply Classical.byContradiction;intro h2;exact hq (h.c0 q (by omega))
theorem zQ.stay {w':World} (h:zQ w base tb g pb wb V N kind T room cnt P Q col A W f a t tw bs st keep S Sv depth most) (hk:∀q,col q≠0->w'.heap[q]?=w.heap[q]?) (hs:w.heap.size<=w'.heap.size):zQ w' base tb g pb wb V N kind T room cnt P Q col A W f a t tw bs st keep S Sv depth most:=by
 obtain⟨o,hp,hpo⟩:=h.pt;obtain⟨eb,rb,hw,hwc⟩:=h.win;obtain⟨xo,tc,sv,vv,hb,ht,hto,hS,hSo,hV,hVo⟩:=h.box;have kc:∀q k,col q=k+1->w'.heap[q]?=w.heap[q]? :=fun q k e=>hk q (by omega)
 exact⟨h.cod.stay (fun q hq=>kc q 0 (h.c1 q hq)) hs,⟨o,hp.stay (kc pb 2 h.c3) (fun ad e h0=>kc _ 3 (hpo ad e h0)),hpo⟩,⟨eb,rb,hw.stay (fun q hq=>kc q 4 (by rcases hq with h1 | rfl | rfl;exact h.c5.2 q h1;exact h.c5.1;exact hwc)),hwc⟩,
  ⟨xo,tc,sv,vv,⟨(kc tb 1 h.c2).trans hb.box⟩,ht.keep0 (fun ad e h0=>kc _ 5 (hto ad e h0)),hto,jA hS (fun q hq=>kc q 6 (hSo q hq)),hSo,jA hV (fun q hq=>kc q 7 (hVo q hq)),hVo⟩,
  h.c1,h.c2,h.c3,h.c5,fun q hq=>h.c0 q (Nat.le_trans hs hq)⟩
theorem zQ.below {w':World} (h:zQ w base tb g pb wb V N kind T room cnt P Q col A W f a t tw bs st keep S Sv depth most) (hb:Below w.heap.size w w'):zQ w' base tb g pb wb V N kind T room cnt P Q col A W f a t tw bs st keep S Sv depth most:=
 h.stay (fun q hq=>hb.block q (h.lt q hq)) hb.size
end
def Hd3 (p q r:Addr) (u v x:Value) (w:World):Prop:=w.cell? p=some u/\w.cell? q=some v/\w.cell? r=some x
def EvQ (w:World) (base tb g pb wb:Nat) (V:Vc) (N:List ByteArray) (kind:Int) (T:List Rg) (room cnt:Int) (P Q:Nat->Prop) (col:Nat->Nat) (A W:List Int) (f a t bs st keep:Nat) (S:List Stp) (Sv:List Int) (depth most:Int) (w':World):Prop:=
 ∃col',gE w' base tb g pb wb V N kind T room cnt P Q col' A W f a t bs st keep false S Sv depth most/\(∀q,q<w.heap.size->col' q=col q)/\dA (fun q=>col q≠0) w w'
theorem nZ {w:World} {base tb g pb wb bs' st':Nat} {V:Vc} {N:List ByteArray} {kind:Int} {T:List Rg} {room cnt:Int} {P Q:Nat->Prop} {col:Nat->Nat} {A W:List Int} {f a t tw bs st keep:Nat} {S S':List Stp} {Sv:List Int} {depth most:Int}
  (h:zQ w base tb g pb wb V N kind T room cnt P Q col A W f a t tw bs st keep S Sv depth most) (hS:S.filter (fun s=>!decide (s.fin<=a))=S') (hw:tw<=t/\t<=W.length) (hk:keep<=4096) (hb:bs<=tw/\bs<=bs'/\bs'<=t) (hd:(bs'-bs:Nat)=max (0:Int) ((t:Int)-keep-bs)) (hst:(st':Int)=st+pC V N ((W.drop bs).take (bs'-bs)))
  (hs2:st<=st'/\st'<=A.length) (hA:A.length<=70000) (hW:W.length<=100000) (hSl:S.length<=1000000) (hbase:base<=w.heap.size):
  Calls Tryz.prog 43 #[.pointer (some ⟨tb,0,none⟩)] w fun E w'=>E= .returned (.tuple #[])/\EvQ w base tb g pb wb V N kind T room cnt P Q col A W f a t bs' st' keep S' Sv depth most w':=by
 obtain⟨w1,hw1⟩:∃w1,w.alloc (.cells #[.pointer (some ⟨tb,0,none⟩)] 31)=w1:=⟨_,rfl⟩;have hb1:Below w.heap.size w w1:=hw1▸aA w _;have hs1:w1.heap.size=w.heap.size+1:=by rw[<-hw1];simp
 have hm1:w1.heap[w.heap.size]?=some (.cells #[.pointer (some ⟨tb,0,none⟩)] 31):=by rw[<-hw1];exact heap_alloc_new w _
 have h1:=h.below hb1;have htb:=h.blt;have hc0:=h.c0;have hlt:=h.lt;obtain⟨o,hp,hpo⟩:=h1.pt;obtain⟨eb,rb,hwin,hebc⟩:=h1.win;obtain⟨xo,tc,sv,vv,hbx,htx,hto,hst1,hso,hsv,hvo⟩:=h1.box;have hq5:∀q,(Q q\/q=wb\/q=eb)->col q=5:=fun q hq=>by
  rcases hq with h2 | rfl | rfl
  ·exact h.c5.2 q h2
  ·exact h.c5.1
  ·exact hebc
 have hTK:∀W',Ge w1 W'->Calls Tryz.prog 85 #[.pointer (some ⟨pb,0,none⟩)] W' (fun E w'=>E= .returned (.int .i64 t)/\w'=W'):=fun W' hW=>zR (hp.stay (hW.block _ hp.lt) (fun ad e h0=>hW.block _ (hp.olt ad e h0)))
 have hCM:∀W',Ge w1 W'->Calls Tryz.prog 84 #[.pointer (some ⟨wb,0,none⟩), .int .i64 t] W' (fun E w'=>E= .returned (.int .i64 0)/\rD w' base wb eb rb (plc V N st' (W.drop bs')) bs' st' keep t Q/\dA (fun q=>col q=5) w1 w'):=fun W' hW=>by
  have hl5:(plc V N st (W.drop bs)).length=W.length-bs:=by rw[uF,List.length_drop]
  refine(jT (d:=bs'-bs) (n:=(t:Int)) (hwin.below hW) (by rw[hl5];omega) (by omega) (by omega) hd (by omega)).mono ?_
  rintro E w' ⟨rfl,hw',hk'⟩;refine⟨rfl,?_,(dA.of_below hW).trans (hk'.mono (fun q _ hq=>hq5 q hq))⟩;have e1:(plc V N st (W.drop bs)).drop (bs'-bs)=plc V N st' (W.drop bs'):=by
   rw[plc_drop,List.drop_drop,<-hst,show bs+(bs'-bs)=bs' by omega]
  have e2:tI ((plc V N st (W.drop bs)).take (bs'-bs)) st=st':=by rw[dY,xV,<-hst]
  have e3:(bs:Int)+((bs'-bs:Nat):Int)=bs':=by omega
  rw[e1,e2,e3]at hw';exact hw'
 obtain⟨c0,c1,c2,c3,c4,c5,c6,c7,c8,c9,ca,cf⟩:=B7 hbx.box;have kb:w1.cell? ⟨w.heap.size,0,none⟩=some (.pointer (some ⟨tb,0,none⟩)):=by simp[World.cell?,hm1]
 have n2:¬col tb=5:=by have:=h.c2;omega
 have n0:¬col w.heap.size=5:=by have:=hc0 w.heap.size (Nat.le_refl _);omega
 have GB:=fun w' (hg:dA (fun q=>col q=5) w1 w')=>hg.cell kb n0
 have G1:=fun w' (hg:dA (fun q=>col q=5) w1 w')=>hg.cell c1 n2
 have G2:=fun w' (hg:dA (fun q=>col q=5) w1 w')=>hg.cell c2 n2
 have gr:=dA.refl (fun q=>col q=5) w1;have HTK:=hW_ hTK;have HCM:=hW_ hCM;have HW1:=hW_ hw1;have H:=hW_ h;have H1:=hW_ (And.intro hb1 (And.intro hs1 (And.intro hm1 (And.intro htb (And.intro hc0 hlt)))));have HP:=hW_ (And.intro hp (And.intro hpo (And.intro hebc hq5)));have HX:=hW_ (And.intro hbx (And.intro htx (And.intro hto (And.intro hst1 (And.intro hso (And.intro hsv hvo))))));have HB:=hW_ (And.intro hS (And.intro hw (And.intro hk (And.intro hb (And.intro hd (And.intro hst (And.intro hs2 (And.intro hA (And.intro hW (And.intro hSl hbase))))))))));have hmf:∀(fn:Fn) (first cap:Array Value) (w:World),(Instr.makeFunc fn first cap).run Tryz.prog w= .ok (.func fn first cap) w:=fun _ _ _ _=>rfl
 clear h hS hw hk hb hd hst hs2 hA hW hSl hbase hb1 hs1 hm1 h1 htb hc0 hlt hp hpo hwin hebc hbx htx hto hst1 hso hsv hvo hq5 hTK hCM hw1 kb c0 c1 c2 c3 c4 c5 c6 c7 c8 c9 ca cf n2 n0;go_enter Tryz.func43,Tryz.ntmps43;go_wp2_with (fail);rw[HW1.out]
 go_region_held3 (dA (fun q=>col q=5) w1) (first | (with_reducible assumption) | (with_reducible refine dA.drew ?_;with_reducible assumption) | (with_reducible refine dA.drewN ?_ _;with_reducible assumption)) (first
  | (go_at_call 85;refine(HTK.out _ (by first | exact Below.refl _ _ | exact(Below.refl _ _).drew | exact bA (Below.refl _ _) _)).mono ?_;rintro E w9 ⟨rfl,rfl⟩)
  | (go_at_call 84;refine(HCM.out _ (by first | exact Below.refl _ _ | exact(Below.refl _ _).drew | exact bA (Below.refl _ _) _)).mono ?_;rintro E w2 ⟨rfl,hw2,hk2⟩;have hz2:=hk2;have HW2:=hW_ hw2;clear hw2))
 obtain⟨hb1,hs1,hm1,htb,hc0,hlt⟩:=H1.out;obtain⟨hp,hpo,hebc,hq5⟩:=HP.out;obtain⟨hbx,htx,hto,hst1,hso,hsv,hvo⟩:=HX.out;obtain⟨hS,hw,hk,hb,hd,hst,hs2,hA,hW,hSl,hbase⟩:=HB.out;have hz:=hz2.size;have n0:=hc0 w.heap.size (Nat.le_refl _);have n2:=H.out.c2;have n3:=H.out.c3;have h2o:∀q,q<w1.heap.size->col q≠5->w2.heap[q]?=w1.heap[q]? :=fun q h1 h2=>hz2.block q h1 h2
 have hm2:=(h2o w.heap.size (by omega) (by omega)).trans hm1;have hbx2:F4 w2 tb g pb wb st xo (A.length-st) tc sv vv depth most f false:=⟨(h2o tb (by omega) (by omega)).trans hbx.box⟩;have hp2:PtR w2 pb g o ((A.take f).drop a) a t false:=hp.stay (h2o pb hp.lt (by omega)) (fun ad e h0=>h2o _ (hp.olt ad e h0) (by have:=hpo ad e h0;omega));have hst2:iA Stp.enc 3 111 w2 base sv S:=jA hst1 (fun q hq=>h2o q (World.ownsRow.lt hst1 q hq).2 (by have:=hso q hq;omega));have hD:∀W2,Ge w2 W2->Calls Tryz.prog 86 #[sv, .func (.func 87) #[] #[.pointer (some ⟨w.heap.size,0,none⟩)]] W2 (fun e w'=>∃va vc,e= .returned (.slice va S'.length vc)/\iA Stp.enc 3 111 w' base (.slice va S'.length vc) S'/\(∀q,(Value.slice va S'.length vc).ownBlock=some q->sv.ownBlock=some q)/\dA (fun q=>sv.ownBlock=some q) w2 w'):=fun W2 hW2=>by
  have hk:=dA.of_below (S:=fun q=>sv.ownBlock=some q) hW2;have:=cQ (g:=87) (l:= .pointer (some ⟨w.heap.size,0,none⟩)) (p:=fun s=>decide (s.fin<=a)) (enters_of Tryz.func87 (by kernel_rfl) rfl) W2 (jA hst2 (fun q hq=>hW2.block q (World.ownsRow.lt hst2 q hq).2)) (fun W' hW'=>
   mZ (((hk.trans hW').block w.heap.size (by omega) (fun e=>by have:=hso _ e;omega)).trans hm2) (⟨((hk.trans hW').block tb (by omega) (fun e=>by have:=hso _ e;omega)).trans hbx2.box⟩:F4 W' tb g pb wb st xo (A.length-st) tc sv vv depth most f false)
    (hp2.stay ((hk.trans hW').block pb hp2.lt (fun e=>by have:=hso _ e;omega)) (fun ad e h0=>(hk.trans hW').block _ (hp2.olt ad e h0) (fun e2=>by have:=hso _ e2;have:=hpo ad e h0;omega)))) hSl
  rw[hS]at this;refine this.mono ?_
  rintro E w3 ⟨v',rfl,ho3,hv3,hk3⟩;obtain⟨va,vc,rfl,-⟩:=ho3.sl;exact⟨va,vc,rfl,ho3,hv3,hk.trans hk3⟩
 have HD:=hW_ hD;have hkb3:∀w',dA (fun q=>sv.ownBlock=some q) w2 w'->w'.cell? ⟨w.heap.size,0,none⟩=some (.pointer (some ⟨tb,0,none⟩)):=fun w' hk=>by
  have:=(hk.block w.heap.size (by omega) (fun e=>by have:=hso _ e;omega)).trans hm2;simp[World.cell?,this]
 have HKB:=hW_ hkb3;have hne:w.heap.size≠tb:=by omega
 obtain⟨c0,c1,c2,c3,c4,c5,c6,c7,c8,c9,ca,cf⟩:=B7 hbx2.box;have kb:w2.cell? ⟨w.heap.size,0,none⟩=some (.pointer (some ⟨tb,0,none⟩)):=by simp[World.cell?,hm2]
 have hbx3:∀w',dA (fun q=>sv.ownBlock=some q) w2 w'->F4 w' tb g pb wb st xo (A.length-st) tc sv vv depth most f false:=fun w' hk=>⟨(hk.block tb (by omega) (fun e=>by have:=hso _ e;omega)).trans hbx2.box⟩
 have HBX3:=hW_ hbx3;have H2:=hW_ (And.intro hz2 (And.intro hz (And.intro n0 (And.intro n2 (And.intro n3 (And.intro hm2 (And.intro hbx2 (And.intro hp2 hst2))))))));clear hb1 hs1 hm1 htb hc0 hlt hp hpo hebc hq5 hbx htx hto hst1 hso hsv hvo hS hw hk hb hd hst hs2 hA hW hSl hbase hz2 hz n0 n2 n3 h2o hm2 hbx2 hp2 hst2 hD GB G1 G2 gr hkb3 hbx3;go_wp2_with (fail);refine aEw (F:=Hd4 ⟨w.heap.size,0,none⟩ ⟨tb,5,none⟩ ⟨tb,5,none⟩ ⟨tb,5,none⟩ (.pointer (some ⟨tb,0,none⟩)) (sv) (sv) (sv)) (e:=9) (by kernel_rfl) ⟨kb,c5,c5,c5⟩ (fun hHeld=> ?_);obtain⟨G0,G1,G2,G3⟩:=hd4 ⟨w.heap.size,0,none⟩ ⟨tb,5,none⟩ ⟨tb,5,none⟩ ⟨tb,5,none⟩ (.pointer (some ⟨tb,0,none⟩)) (sv) (sv) (sv);refine aEs 0 12 (.pointer (some ⟨tb,0,none⟩)) ?_
 refine aEs 1 13 (.pointer (some ⟨tb,0,none⟩)) ?_
 refine aEs 2 14 (.pointer (some ⟨tb,0,none⟩)) ?_
 refine aEs 3 15 (.pointer (some ⟨tb,5,none⟩)) ?_
 refine aEs 4 16 (sv) ?_
 refine aEs 5 17 (.func (.func 87) #[] #[.pointer (some ⟨w.heap.size,0,none⟩)]) ?_
 (try simp only[Act.put,List.setIfInBounds_toArray,List.set_cons_zero,List.set_cons_succ])
 refine aEt (i:=6) (by kernel_rfl) rfl (fun K hK=> ?_)
 go_simp
 go_at_call 86;refine(HD.out _ (Below.refl _ _).drew).mono ?_
 rintro E w3 ⟨va,vc,rfl,ho3,hv3,hk3⟩;have hz3:=HKB.out w3 hk3;have HO3:=hW_ (And.intro ho3 (And.intro hv3 hk3));obtain⟨d0,d1,d2,d3,d4,d5,d6,d7,d8,d9,da,df⟩:=B7 (HBX3.out w3 hk3).box;have hg3:Hd4 ⟨w.heap.size,0,none⟩ ⟨tb,5,none⟩ ⟨tb,5,none⟩ ⟨tb,5,none⟩ (.pointer (some ⟨tb,0,none⟩)) sv sv sv w3:=⟨hz3,d5,d5,d5⟩;clear ho3 hv3 hk3 hz3 d0 d1 d2 d3 d4 d6 d7 d8 d9 da;go_wp2_with (fail);refine hK.out _ _ (fun _=>hg3) ?_
 clear hK K hHeld
 (try simp only[Act.put,List.setIfInBounds_toArray,List.set_cons_zero,List.set_cons_succ])
 refine aEt (i:=7) (by kernel_rfl) rfl (fun K hK=> ?_)
 go_simp
 refine hK.out _ _ (fun _=>hg3) ?_
 clear hK K
 (try simp only[Act.put,List.setIfInBounds_toArray,List.set_cons_zero,List.set_cons_succ])
 refine aEs 8 20 (.pointer (some ⟨tb,5,none⟩)) ?_
 (try simp only[Act.put,List.setIfInBounds_toArray,List.set_cons_zero,List.set_cons_succ])
 refine aEt (i:=9) (by kernel_rfl) rfl (fun K hK=> ?_)
 go_simp
 refine hK.out _ _ (fun h=>absurd rfl h) ?_
 refine aEu (by kernel_rfl) ?_ _
 clear hK K G0 G1 G2 G3;clear hg3 d5 df;obtain⟨ho3,hv3,hk3⟩:=HO3.out;obtain⟨hb1,hs1,hm1,htb,hc0,hlt⟩:=H1.out;obtain⟨hp,hpo,hebc,hq5⟩:=HP.out;obtain⟨hbx,htx,hto,hst1,hso,hsv,hvo⟩:=HX.out;obtain⟨hS,hw,hk,hb,hd,hst,hs2,hA,hW,hSl,hbase⟩:=HB.out;obtain⟨hz2,hz,n0,n2,n3,hm2,hbx2,hp2,hst2⟩:=H2.out;have hs3:=hk3.size;have hm3:=(hk3.block w.heap.size (by omega) (fun e=>by have:=hso _ e;omega)).trans hm2;have hx4:=rA (i:=5) (v:= .slice va S'.length vc) (HBX3.out w3 hk3).box;obtain⟨w4,hw4⟩:∃w4,w3.setCell ⟨tb,5,none⟩ (.slice va S'.length vc)=w4:=⟨_,rfl⟩;rw[hw4]at hx4;have hbx4:F4 w4 tb g pb wb st xo (A.length-st) tc (.slice va S'.length vc) vv depth most f false:=⟨hx4⟩;have hs4:w4.heap.size=w3.heap.size:=by rw[<-hw4];simp
 have h4o:∀q,q≠tb->w4.heap[q]?=w3.heap[q]? :=fun q hq=>by rw[<-hw4];exact cA hq
 have hm4:=(h4o w.heap.size hne).trans hm3;have hwb:col wb=5:=H.out.c5.1;have hlt2:∀q,col q≠0->q<w2.heap.size:=fun q hq=>by have:=hlt q hq;omega
 have h24:∀q,q<w2.heap.size->q≠tb->sv.ownBlock≠some q->w4.heap[q]?=w2.heap[q]? :=fun q h1 h2 h3=>(h4o q h2).trans (hk3.block q h1 h3)
 have hwin4:rD w4 base wb eb rb (plc V N st' (W.drop bs')) bs' st' keep t Q:=HW2.out.stay (fun q hq=>by
  have h5:=hq5 q hq;exact h24 q (hlt2 q (by omega)) (fun e=>by rw[e]at h5;omega) (fun e=>by have:=hso _ e;omega))
 have hST:∀W',Ge w4 W'->Calls Tryz.prog 88 #[.pointer (some ⟨wb,0,none⟩)] W' (fun E w'=>E= .returned (.int .i64 st')/\w'=W'):=fun W' hW'=>M6 (hwin4.b.below hW')
 have htx4:SlI w4 xo (A.length-st) tc (A.drop st):=htx.keep0 (fun ad e h0=>by
  have h6:=hto ad e h0;have hl1:=hlt ad.block (by omega);exact(h24 _ (hlt2 _ (by omega)) (fun e=>by rw[e]at h6;omega) (fun e=>by have:=hso _ e;omega)).trans (hz2.block _ (by omega) (by omega)))
 obtain⟨i0,hi0,hz0',hz1',hz2'⟩:=info_parts tC;obtain⟨ra,hrl,hrs,hrb⟩:=eN (ao:=xo) (n:=A.length-st) (cap:=tc) (k:=st'-st) (by omega) hi0 hz1';have el:A.length-st-(st'-st)=A.length-st':=by omega
 rw[el]at hrl hrs;have hwd:IntKind.i64.wrap ((st':Int)-(st:Int))=((st'-st:Nat):Int):=by rw[IntKind.wrap_i64];omega
 have hCL:∀W',Ge w4 W'->Calls Tryz.prog 54 #[.slice ra (A.length-st') (tc-(st'-st))] W' (fun E w'=>∃vo vc5,E= .returned (.slice vo (A.length-st') vc5)/\Own w' w4.heap.size (.slice vo (A.length-st') vc5) (A.drop st')/\Below w4.heap.size w4 w'):=fun W' hW'=>by
  have h9:=hrs W' _ (SlI.below htx4 hW');rw[List.drop_drop,show st+(st'-st)=st' by omega]at h9;refine(uE W' h9 (by omega)).mono ?_
  rintro E w' ⟨vo,vc5,rfl,ho,hb⟩;exact⟨vo,vc5,rfl,ho.mono hW'.size,hW'.trans (hb.mono hW'.size)⟩
 obtain⟨c0,c1,c2,c3,c4,c5,c6,c7,c8,c9,ca,cf⟩:=B7 hbx4.box;have kb:w4.cell? ⟨w.heap.size,0,none⟩=some (.pointer (some ⟨tb,0,none⟩)):=by simp[World.cell?,hm4]
 have hbx5:∀w',Below w4.heap.size w4 w'->F4 w' tb g pb wb st xo (A.length-st) tc (.slice va S'.length vc) vv depth most f false/\w'.cell? ⟨w.heap.size,0,none⟩=some (.pointer (some ⟨tb,0,none⟩)):=fun w' hb=>by
  have hm5:=(hb.block w.heap.size (by omega)).trans hm4;exact⟨⟨(hb.block tb (by omega)).trans hbx4.box⟩,by simp[World.cell?,hm5]⟩
 have HBX5:=hW_ hbx5;have HST:=hW_ hST;have HCL:=hW_ hCL;have HW4:=hW_ hw4;have H4:=hW_ (And.intro hbx4 (And.intro hs4 (And.intro hs3 (And.intro hm4 (And.intro h24 (And.intro hwin4 (And.intro htx4 (And.intro h4o (And.intro hwb hlt2)))))))));clear hb1 hs1 hm1 htb hc0 hlt hp hpo hebc hq5 hbx htx hto hst1 hso hsv hvo hS hw hk hb hd hst hs2 hA hW hSl hbase hz2 hz n0 n2 n3 hm2 hbx2 hp2 hst2 ho3 hv3 hk3 hs3 hm3 hx4 hw4 hbx4 hs4 h4o hm4 hwb hlt2 h24 hwin4 hST htx4 hrs hrb el hCL hbx5;go_wp2_with (fail);rw[HW4.out];refine aEw (F:=Hd4 ⟨w.heap.size,0,none⟩ ⟨tb,2,none⟩ ⟨tb,3,none⟩ ⟨tb,4,none⟩ (.pointer (some ⟨tb,0,none⟩)) (.pointer (some ⟨wb,0,none⟩)) (.int .i64 st) (.slice xo (A.length-st) tc)) (e:=19) (by kernel_rfl) ⟨kb,c2,c3,c4⟩ (fun hHeld=> ?_);obtain⟨G0,G1,G2,G3⟩:=hd4 ⟨w.heap.size,0,none⟩ ⟨tb,2,none⟩ ⟨tb,3,none⟩ ⟨tb,4,none⟩ (.pointer (some ⟨tb,0,none⟩)) (.pointer (some ⟨wb,0,none⟩)) (.int .i64 st) (.slice xo (A.length-st) tc);refine aEs 0 21 (.pointer (some ⟨tb,0,none⟩)) ?_
 refine aEs 1 22 (.pointer (some ⟨tb,0,none⟩)) ?_
 refine aEs 2 23 (.pointer (some ⟨tb,0,none⟩)) ?_
 refine aEs 3 24 (.pointer (some ⟨tb,4,none⟩)) ?_
 refine aEs 4 25 (.slice xo (A.length-st) tc) ?_
 refine aEs 5 26 (.pointer (some ⟨tb,0,none⟩)) ?_
 refine aEs 6 27 (.pointer (some ⟨tb,0,none⟩)) ?_
 refine aEs 7 28 (.pointer (some ⟨tb,2,none⟩)) ?_
 refine aEs 8 29 (.pointer (some ⟨wb,0,none⟩)) ?_
 refine aEs 10 31 (.pointer (some ⟨tb,0,none⟩)) ?_
 refine aEs 11 32 (.pointer (some ⟨tb,0,none⟩)) ?_
 refine aEs 12 33 (.pointer (some ⟨tb,3,none⟩)) ?_
 refine aEs 13 34 (.int .i64 st) ?_
 (try simp only[Act.put,List.setIfInBounds_toArray,List.set_cons_zero,List.set_cons_succ])
 refine aEt (i:=9) (by kernel_rfl) rfl (fun K hK=> ?_)
 go_simp
 go_at_call 88;refine(HST.out _ (Below.refl _ _).drew).mono ?_
 rintro E w9 ⟨rfl,rfl⟩;have hg9:Hd4 ⟨w.heap.size,0,none⟩ ⟨tb,2,none⟩ ⟨tb,3,none⟩ ⟨tb,4,none⟩ (.pointer (some ⟨tb,0,none⟩)) (.pointer (some ⟨wb,0,none⟩)) (.int .i64 st) (.slice xo (A.length-st) tc) w4.drew:=⟨kb,c2,c3,c4⟩;go_wp2_with (fail);refine hK.out _ _ (fun _=>hg9) ?_
 clear hK K hHeld
 (try simp only[Act.put,List.setIfInBounds_toArray,List.set_cons_zero,List.set_cons_succ])
 refine aEs 14 35 (.int .i64 ((st'-st:Nat):Int)) ?_
 refine aEs 15 36 (.slice ra (A.length-st') (tc-(st'-st))) ?_
 (try simp only[Act.put,List.setIfInBounds_toArray,List.set_cons_zero,List.set_cons_succ])
 refine aEt (i:=16) (by kernel_rfl) rfl (fun K hK=> ?_)
 go_simp
 go_at_call 54;refine(HCL.out _ (Below.refl _ _).drew).mono ?_
 rintro E w5 ⟨vo,vc5,rfl,ho5,hb5⟩;have HO5:=hW_ (And.intro ho5 hb5);obtain⟨hbx5,hm5⟩:=HBX5.out w5 hb5;obtain⟨d0,d1,d2,d3,d4,d5,d6,d7,d8,d9,da,df⟩:=B7 hbx5.box;have hg5:Hd4 ⟨w.heap.size,0,none⟩ ⟨tb,2,none⟩ ⟨tb,3,none⟩ ⟨tb,4,none⟩ (.pointer (some ⟨tb,0,none⟩)) (.pointer (some ⟨wb,0,none⟩)) (.int .i64 st) (.slice xo (A.length-st) tc) w5:=⟨hm5,d2,d3,d4⟩;clear ho5 hb5 hbx5 hm5 hg9 d0 d1 d2 d3 d5 d6 d7 d8 d9 da;go_wp2_with (fail);refine hK.out _ _ (fun _=>hg5) ?_
 clear hK K
 (try simp only[Act.put,List.setIfInBounds_toArray,List.set_cons_zero,List.set_cons_succ])
 refine aEt (i:=17) (by kernel_rfl) rfl (fun K hK=> ?_)
 go_simp
 refine hK.out _ _ (fun _=>hg5) ?_
 clear hK K
 (try simp only[Act.put,List.setIfInBounds_toArray,List.set_cons_zero,List.set_cons_succ])
 refine aEs 18 39 (.pointer (some ⟨tb,4,none⟩)) ?_
 (try simp only[Act.put,List.setIfInBounds_toArray,List.set_cons_zero,List.set_cons_succ])
 refine aEt (i:=19) (by kernel_rfl) rfl (fun K hK=> ?_)
 go_simp
 refine hK.out _ _ (fun h=>absurd rfl h) ?_
 refine aEu (by kernel_rfl) ?_ _
 clear hK K G0 G1 G2 G3;clear hg5 d4 df;clear kb hrl c0 c1 c2 c3 c4 c5 c6 c7 c8 c9 ca cf;obtain⟨ho5,hb5⟩:=HO5.out;obtain⟨hbx4,hs4,hs3,hm4,h24,hwin4,htx4,h4o,hwb,hlt2⟩:=H4.out;have hs5:=hb5.size;have htl:=(Array.getElem?_eq_some_iff.1 hbx4.box).1;have hx6:=rA (i:=4) (v:= .slice vo (A.length-st') vc5) ((hb5.block tb htl).trans hbx4.box);obtain⟨w6,hw6⟩:∃w6,w5.setCell ⟨tb,4,none⟩ (.slice vo (A.length-st') vc5)=w6:=⟨_,rfl⟩;rw[hw6]at hx6;have hbx6:F4 w6 tb g pb wb st vo (A.length-st') vc5 (.slice va S'.length vc) vv depth most f false:=⟨hx6⟩;have hs6:w6.heap.size=w5.heap.size:=by rw[<-hw6];simp
 have h6o:∀q,q≠tb->w6.heap[q]?=w5.heap[q]? :=fun q hq=>by rw[<-hw6];exact cA hq
 have hm6:=(h6o w.heap.size hne).trans ((hb5.block w.heap.size (Array.getElem?_eq_some_iff.1 hm4).1).trans hm4);have hwin6:rD w6 base wb eb rb (plc V N st' (W.drop bs')) bs' st' keep t Q:=(hwin4.below hb5).stay (fun q hq=>by
  have h5:=HP.out.2.2.2 q hq;exact h6o q (fun e=>by have:=H.out.c2;rw[e]at h5;omega))
 have hST:∀W',Ge w6 W'->Calls Tryz.prog 88 #[.pointer (some ⟨wb,0,none⟩)] W' (fun E w'=>E= .returned (.int .i64 st')/\w'=W'):=fun W' hW'=>M6 (hwin6.b.below hW')
 obtain⟨c0,c1,c2,c3,c4,c5,c6,c7,c8,c9,ca,cf⟩:=B7 hbx6.box;have kb:w6.cell? ⟨w.heap.size,0,none⟩=some (.pointer (some ⟨tb,0,none⟩)):=by simp[World.cell?,hm6]
 have gr:Hd3 ⟨w.heap.size,0,none⟩ ⟨tb,2,none⟩ ⟨tb,2,none⟩ (.pointer (some ⟨tb,0,none⟩)) (.pointer (some ⟨wb,0,none⟩)) (.pointer (some ⟨wb,0,none⟩)) w6:=⟨kb,c2,c2⟩;have GB:=fun w' (hg:Hd3 ⟨w.heap.size,0,none⟩ ⟨tb,2,none⟩ ⟨tb,2,none⟩ (.pointer (some ⟨tb,0,none⟩)) (.pointer (some ⟨wb,0,none⟩)) (.pointer (some ⟨wb,0,none⟩)) w')=>hg.1
 have G2:=fun w' (hg:Hd3 ⟨w.heap.size,0,none⟩ ⟨tb,2,none⟩ ⟨tb,2,none⟩ (.pointer (some ⟨tb,0,none⟩)) (.pointer (some ⟨wb,0,none⟩)) (.pointer (some ⟨wb,0,none⟩)) w')=>hg.2.1
 have hz7:∀(W':World) (v:Value),W'.heap=w6.heap->Hd3 ⟨w.heap.size,0,none⟩ ⟨tb,2,none⟩ ⟨tb,2,none⟩ (.pointer (some ⟨tb,0,none⟩)) (.pointer (some ⟨wb,0,none⟩)) (.pointer (some ⟨wb,0,none⟩)) (W'.setCell ⟨tb,3,none⟩ v):=fun W' v he=>by
  have hx7:=rA (i:=3) (v:=v) (show W'.heap[tb]?=_ from(congrArg (fun h=>h[tb]?) he).trans hbx6.box);have hm7:W'.heap[w.heap.size]?=_:=(congrArg (fun h=>h[w.heap.size]?) he).trans hm6
  exact⟨(World.cell?_of_block (a:=⟨w.heap.size,0,none⟩) (cA hne)).trans (by simp[World.cell?,hm7]),by simp[World.cell?,hx7],by simp[World.cell?,hx7]⟩
 have HST:=hW_ hST;have HW6:=hW_ hw6;have H6:=hW_ (And.intro hbx6 (And.intro hs6 (And.intro h6o (And.intro hwin6 (And.intro hs5 (And.intro ho5 hb5))))));clear hbx4 hs4 hs3 hm4 h24 hwin4 htx4 h4o hwb hlt2 hs5 htl hx6 hw6 hbx6 hs6 h6o hm6 hwin6 hST ho5 hb5;go_wp2_with (fail);rw[HW6.out]
 go_region_held3 (Hd3 ⟨w.heap.size,0,none⟩ ⟨tb,2,none⟩ ⟨tb,2,none⟩ (.pointer (some ⟨tb,0,none⟩)) (.pointer (some ⟨wb,0,none⟩)) (.pointer (some ⟨wb,0,none⟩))) (first | (with_reducible assumption) | exact gr | exact hz7 _ _ rfl) ((go_at_call 88;refine(HST.out _ (by first | exact Below.refl _ _ | exact(Below.refl _ _).drew | exact bA (Below.refl _ _) _)).mono ?_;rintro E w9 ⟨rfl,rfl⟩))
 go_wp2_with (fail)
 go_end0
 obtain⟨hbx6,hs6,h6o,hwin6,hs5,ho5,hb5⟩:=H6.out;obtain⟨hbx4,hs4,hs3,hm4,h24,hwin4,htx4,h4o,hwb,hlt2⟩:=H4.out;obtain⟨ho3,hv3,hk3⟩:=HO3.out;obtain⟨hb1,hs1,hm1,htb,hc0,hlt⟩:=H1.out;obtain⟨hp,hpo,hebc,hq5⟩:=HP.out;obtain⟨hbx,htx,hto,hst1,hso,hsv,hvo⟩:=HX.out;obtain⟨hz2,hz,n0,n2,n3,hm2,hbx2,hp2,hst2⟩:=H2.out;have h:=H.out;obtain⟨w7,hw7⟩:∃w7,(w6.setCell ⟨tb,3,none⟩ (.int .i64 st')).drew=w7:=⟨_,rfl⟩;rw[hw7];have hbx7:F4 w7 tb g pb wb st' vo (A.length-st') vc5 (.slice va S'.length vc) vv depth most f false:=⟨by rw[<-hw7];exact rA (i:=3) (v:= .int .i64 st') hbx6.box⟩;have hs7:w7.heap.size=w6.heap.size:=by rw[<-hw7];show(w6.setCell _ _).heap.size=_;simp
 have h7o:∀q,q≠tb->w7.heap[q]?=w6.heap[q]? :=fun q hq=>by rw[<-hw7];exact cA hq
 have hs2:=hz2.size;have h47:∀q,q<w4.heap.size->q≠tb->w7.heap[q]?=w4.heap[q]? :=fun q h1 h2=>(h7o q h2).trans ((h6o q h2).trans (hb5.block q h1))
 have hkeep:∀q,q<w.heap.size->col q≠2->col q≠5->col q≠7->w7.heap[q]?=w.heap[q]? :=fun q h1 h2 h3 h4=>
  (h47 q (by omega) (fun e=>h2 (by rw[e];exact n2))).trans ((h24 q (by omega) (fun e=>h2 (by rw[e];exact n2)) (fun e=>h4 (hso q e))).trans ((hz2.block q (by omega) h3).trans (hb1.block q h1)))
 have hvo5:∀ad,vo=some ad->0<A.length-st'->w4.heap.size<=ad.block/\ad.block<w5.heap.size:=fun ad e h0=>by
  have hl:=ho5.sl;obtain⟨ra9,rc9,e9,-⟩:=hl;obtain⟨-,e10,-⟩:=Value.slice.inj e9;obtain⟨b,c',hv⟩:=xF ho5 (by omega);obtain⟨rfl,-,-⟩:=Value.slice.inj hv;obtain rfl:=Option.some.inj e;exact World.ownsRow.lt ho5 b rfl
 obtain⟨Z1,hZ1⟩:∃Z1:Nat->Prop,(fun q=>0<A.length-st'/\vo.map (·.block)=some q)=Z1:=⟨_,rfl⟩
 haveI:DecidablePred Z1:=fun _=>Classical.propDecidable _
 have hZl:∀q,Z1 q->w4.heap.size<=q/\q<w5.heap.size:=fun q hq=>by
  rw[<-hZ1]at hq;obtain⟨q1,q2⟩:=hq
  cases hvo9:vo with
  | none=>rw[hvo9]at q2;cases q2
  | some ad=>
   rw[hvo9]at q2;obtain rfl:=Option.some.inj q2;exact hvo5 ad hvo9 q1
 have hlo1:∀q,q<w.heap.size->wL col w.heap.size Z1 6 q=col q:=fun q hq=>if_pos hq
 have hlo2:∀q,col q≠0->wL col w.heap.size Z1 6 q=col q:=fun q hq=>hlo1 q (hlt q hq)
 refine⟨rfl,wL col w.heap.size Z1 6,?_,hlo1,?_⟩
 ·obtain⟨o',hp',hpo'⟩:=h.pt;have hpo'':=hpo';refine⟨h.cod.stay (fun q hq=>by have:=h.c1 q hq;exact hkeep q (hlt q (by omega)) (by omega) (by omega) (by omega)) (by omega),
   ⟨o',hp'.stay (hkeep pb (hlt pb (by omega)) (by omega) (by omega) (by omega)) (fun ad e h0=>by have:=hpo' ad e h0;exact hkeep _ (hlt _ (by omega)) (by omega) (by omega) (by omega)),fun ad e h0=>by have:=hpo' ad e h0;rw[hlo2 _ (by omega)];exact this⟩,
   ⟨eb,rb,hwin6.stay (fun q hq=>h7o q (fun e=>by have h5:=hq5 q hq;rw[e]at h5;omega)),by rw[hlo2 _ (by omega)];exact hebc⟩,
   ⟨vo,vc5, .slice va S'.length vc,vv,hbx7,?_,fun ad e h0=> ?_,jA ho3 (fun q hq=> ?_),fun q hq=> ?_,jA hsv (fun q hq=> ?_),fun q hq=> ?_⟩,
   fun q hq=>by rw[hlo2 q (by rw[h.c1 q hq];omega)];exact h.c1 q hq,by rw[hlo2 tb (by omega)];exact n2,by rw[hlo2 pb (by omega)];exact n3,⟨by rw[hlo2 wb (by omega)];exact hwb,fun q hq=>by rw[hlo2 q (by rw[h.c5.2 q hq];omega)];exact h.c5.2 q hq⟩,fun q hq=> ?_⟩
  ·obtain⟨ra9,rc9,e3,hsl⟩:=ho5.sl;obtain⟨rfl,e10,rfl⟩:=Value.slice.inj e3;rw[<-e10]at hsl;refine hsl.keep0 (fun ad e h0=> ?_);obtain⟨v1,v2⟩:=hvo5 ad e (by omega);exact(h7o _ (by omega)).trans (h6o _ (by omega))
  ·obtain⟨v1,v2⟩:=hvo5 ad e (by omega);unfold wL;rw[if_neg (by omega),if_pos (by rw[<-hZ1];exact⟨by omega,by rw[e];rfl⟩)]
  ·have h7:=hso q (hv3 q hq);have hne7:q≠tb:=fun e=>by rw[e]at h7;omega
   exact(h47 q (by have:=World.ownsRow.lt ho3 q hq;omega) hne7).trans (h4o q hne7)
  ·have h7:=hso q (hv3 q hq);rw[hlo2 q (by omega)];exact h7
  ·have h8:=hvo q hq;exact(hkeep q (hlt q (by omega)) (by omega) (by omega) (by omega)).trans (hb1.block q (hlt q (by omega))).symm
  ·have h8:=hvo q hq;rw[hlo2 q (by omega)];exact h8
  ·unfold wL;rw[if_neg (by omega),if_neg (fun hz9=>by have:=hZl q hz9;omega)]
 ·have K1:dA (fun q=>col q≠0\/w.heap.size<=q) w w7:=by
   have k4:dA (fun q=>col q≠0\/w.heap.size<=q) w w4:=by
    rw[<-HW4.out];exact(((dA.of_below hb1).trans (hz2.mono (fun q _ hq=> .inl (by omega)))).trans (hk3.mono (fun q _ hq=> .inl (by have:=hso q hq;omega)))).set (p:=⟨tb,5,none⟩) (.inl (by show col tb≠0;omega)) _
   have k6:dA (fun q=>col q≠0\/w.heap.size<=q) w w6:=by
    rw[<-HW6.out];exact(k4.trans (dA.of_below hb5)).set (p:=⟨tb,4,none⟩) (.inl (by show col tb≠0;omega)) _
   rw[<-hw7];exact(k6.set (p:=⟨tb,3,none⟩) (.inl (by show col tb≠0;omega)) _).drew
  exact K1.mono (fun q hl hq=>hq.resolve_right (by omega))
theorem okKit_3:wE [] 2 [] 4:=⟨⟨by simp,fun s hs=>by simp at hs,by simp⟩,by omega,by omega,⟨by simp,by simp,by simp⟩,by omega,by omega⟩
theorem Z9:∀{ps:List (Int×Bool)} {A:List Int},jD ps A->0<=byN (zB ps) A/\byN (zB ps) A<=kC (zB ps)
 | [],A,h=>by simp[zB,byN,kC]
 | p::ps,A,h=>by
  have h2:=nW (A.take p.1.toNat);have h3:=h.1
  cases hp:p.2 with
  | false=>rw[aO hp];simp[byN,kC]
  | true=>
   have h1:=Z9 h.2.2.2;rw[I2 hp,xI];simp only[byN];omega
theorem comB_le {V:Vc} {N:List ByteArray} {kind:Int} {T:List Rg} (hT:oA T) {e:Bool} {A:List Int} (hc:mA V N A=0):0<=xZ kind T A e/\xZ kind T A e<=A.length:=by
 have h:=pG (kind:=kind) (final:=e) hT hc;have h1:=Z9 h;have h2:=h.decd_le;unfold xZ;omega
def A3:List Int:=[119,101,39,114,101,32,111,110]
theorem GrQ.back {w W w':World} {base pb g:Nat} {V:Vc} {N:List ByteArray} {kind:Int} {T:List Rg} {room cnt:Int} {P:Nat->Prop} {R:List Int} {a t:Int} {e:Bool} {v:Value} (hb:Below w.heap.size w W) (h:GrQ W base pb g V N kind T room cnt P R a t e v w'):GrQ w base pb g V N kind T room cnt P R a t e v w':=by
 obtain⟨o',P',h1,h2,h3,h4,h5,h6,h7⟩:=h;have hs:=hb.size;exact⟨o',P',h1.mono hs,h2,h3,fun q hq=>(h4 q hq).imp id (fun h=>Nat.le_trans hs h),fun ad e h0=>⟨Nat.le_trans hs (h5 ad e h0).1,(h5 ad e h0).2⟩,h6,(dA.of_below hb).trans h7⟩
def FxQ (w:World) (base tb g pb wb:Nat) (V:Vc) (N:List ByteArray) (kind:Int) (T:List Rg) (room cnt:Int) (Q:Nat->Prop) (col:Nat->Nat) (A W:List Int) (n a t bs st keep:Nat) (S:List Stp) (Sv:List Int) (depth most:Int) (w':World):Prop:=
 ∃P' col' d,gE w' base tb g pb wb V N kind T room (cnt+d) P' Q col' A W n a t bs st keep false S Sv depth most/\(0<=d/\d<=A.length)/\(∀q,q<w.heap.size->col' q=col q)/\dA (fun q=>col q≠0) w w'
noncomputable def aEg (col:Nat->Nat) (n:Nat) (P:Nat->Prop) (o:Nat->Prop) (q:Nat):Nat:=
 haveI:=Classical.propDecidable
 if q<n then col q else if P q then 1 else if o q then 4 else 0
theorem aAu {w:World} {base tb g pb wb n a' t' bs' st':Nat} {V:Vc} {N:List ByteArray} {kind:Int} {T:List Rg} {room cnt:Int} {P Q:Nat->Prop} {col:Nat->Nat} {A W:List Int} {f a t bs st keep:Nat} {S S':List Stp} {Sv:List Int} {depth most:Int}
  (h:gE w base tb g pb wb V N kind T room cnt P Q col A W f a t bs st keep false S Sv depth most) (hI:TkI V N kind T A W f a t bs st keep false S Sv) (hM:May V) (hN:N.length<=16) (hT:oA T) (hk0:0<=kind) (hk3:kind<=3) (hr:room<=1048576)
  (hn:f<=n/\n<=A.length/\∀x∈Sv,(n:Int)<=x) (hk:keep<=4096) (hok:FixOk V N kind T A W a t bs st keep n S Sv a' t' bs' st' S') (hS':S.filter (fun s=>!decide (s.fin<=a'))=S') (hA:A.length<=70000) (hcnt:cnt+A.length<1000000) (hbase:base<=w.heap.size) (hSv:Sv.length<=1000000) (hSl:S.length<=1000000):
  Calls Tryz.prog 14 #[.pointer (some ⟨tb,0,none⟩), .int .i64 n] w fun E w'=>E= .returned (.int .i64 0)/\FxQ w base tb g pb wb V N kind T room cnt Q col A W n a' t' bs' st' keep S' Sv depth most w':=by
 have htb:=h.blt;have hlt:=h.lt;have hc0:=h.c0;obtain⟨o,hp,hpo⟩:=h.pt;obtain⟨eb,rb,hwin,hebc⟩:=h.win;obtain⟨xo,tc,sv,vv,hbx,htx,hto,hst,hso,hsv,hvo⟩:=h.box;have hcl:=sX hbx;rw[if_neg (by simp)]at hcl;have hat:=hI.at_;have hsta:=hI.st_le;have hWl:W.length<=A.length:=by rw[hI.view];exact nU hT hI.chk
 have htl:=hI.toks.1;have hbs:=hI.base;have hlm:=fun W1 (hW:Ge w W1)=>Y2 (h.below hW) (by omega) (by omega) hSv
 obtain⟨i0,hi0,hz0',hz1',hz2'⟩:=info_parts tC;obtain⟨so,hrs,hso2⟩:=qR (ao:=xo) (n:=A.length-st) (cap:=tc) (k:=f-st) (m:=n-st) (K:=((f-st:Nat):Int)) (M:=((n-st:Nat):Int)) rfl rfl (by omega) (by omega) (Sl.le htx) hi0 hz1';obtain⟨B,hBe⟩:∃B,(A.take n).drop f=B:=⟨_,rfl⟩;have hBl:B.length=n-f:=by rw[<-hBe,List.length_drop,List.length_take];omega
 have e1:n-st-(f-st)=B.length:=by omega
 have e2:((A.drop st).drop (f-st)).take (n-st-(f-st))=B:=by
  rw[List.drop_drop,show st+(f-st)=f by omega,show n-st-(f-st)=n-f by omega,<-hBe,List.drop_take]
 rw[e1]at hrs;have hB2:∀W1,Ge w W1->SlI W1 so B.length (tc-(f-st)) B:=fun W1 hW=>by
  have:=hso2 W1 _ (SlI.below htx hW);rw[e2,e1]at this;exact this
 have hR1:(A.take f).drop a++B=(A.take n).drop a:=by
  have e:A.take n=A.take f++B:=by
   conv=>lhs;rw[<-List.take_append_drop f (A.take n)]
   rw[List.take_take,Nat.min_eq_left hn.1,hBe]
  rw[e,List.drop_append_of_le_length (by rw[List.length_take];omega)]
 have hcR:mA V N ((A.take f).drop a)=0:=(nA (nA hI.chk f).1 a).2;have hcB:mA V N B=0:=hBe▸(nA (nA hI.chk n).1 f).2;have hRl:((A.take f).drop a).length=f-a:=by rw[List.length_drop,List.length_take];omega
 have hpP:¬P pb:=fun hq=>by have:=h.c1 pb hq;have:=h.c3;omega
 have hGR:∀W1,Ge w W1->Calls Tryz.prog 42 #[.pointer (some ⟨pb,0,none⟩), .slice so B.length (tc-(f-st))] W1 (fun E w'=>∃v,E= .returned (.tuple #[v, .int .i64 0])/\GrQ W1 base pb g V N kind T room cnt P ((A.take n).drop a) a t false v w'):=fun W1 hW=>by
  have:=jY W1 (h.cod.below hW) hM hN hT hk0 hk3 hr (hp.stay (hW.block _ hp.lt) (fun ad e h0=>hW.block _ (hp.olt ad e h0))) hpP (hB2 W1 hW) (by omega) (by omega) hcR hcB (by omega) (by omega);rw[hR1]at this;exact this
 obtain⟨L,hL⟩:∃L,Sv.head?.getD (A.length:Int)=L:=⟨_,rfl⟩;rw[hL]at hlm;have hLn:(n:Int)<=L:=by
  rw[<-hL]
  cases Sv with
  | nil=>show(n:Int)<=A.length;omega
  | cons x l=>exact hn.2.2 x (by simp)
 have g1:decide ((n:Int)<(f:Int))=false:=by simp;omega
 have g1n:decide (n<f)=false:=by simp;omega
 have g2:decide ((n:Int)>L)=false:=by simp;omega
 have g2':decide (L<(n:Int))=false:=by simp;omega
 have q1:IntKind.i64.wrap ((f:Int)-(st:Int))=((f-st:Nat):Int):=by rw[IntKind.wrap_i64];omega
 have q2:IntKind.i64.wrap ((n:Int)-(st:Int))=((n-st:Nat):Int):=by rw[IntKind.wrap_i64];omega
 have hcb:=comB_le (V:=V) (N:=N) (kind:=kind) (T:=T) hT (e:=false) (A:=(A.take n).drop a) (nA (nA hI.chk n).1 a).2;have HCL:=hW_ hcl;have HLM:=hW_ hlm;have HGR:=hW_ hGR;have H:=hW_ h;have H1:=hW_ (And.intro htb (And.intro hlt (And.intro hc0 (And.intro hp (And.intro hpo (And.intro hwin hebc))))));have HX:=hW_ (And.intro hbx (And.intro htx (And.intro hto (And.intro hst (And.intro hso (And.intro hsv hvo))))));have HB:=hW_ (And.intro hn (And.intro hk (And.intro hok (And.intro hS' (And.intro hA (And.intro hcnt (And.intro hbase (And.intro hSl (And.intro hWl (And.intro hbs (And.intro hat (And.intro hsta hcb))))))))))));obtain⟨c0,c1,c2,c3,c4,c5,c6,c7,c8,c9,ca,cf⟩:=B7 hbx.box;clear h hI hM hN hT hk0 hk3 hr hn hk hok hS' hA hcnt hbase hSv hSl htb hlt hc0 hp hpo hwin hebc hbx htx hto hst hso hsv hvo hcl hat hsta hWl htl hbs hlm hso2 hBe hBl e1 e2 hB2 hR1 hcR hcB hRl hpP hGR hL hLn hcb;go_enter Tryz.func14,Tryz.ntmps14;go_wp2_with (first
  | (go_at_call 38;refine HCL.out.mono ?_;rintro E w ⟨rfl,rfl⟩)
  | (go_at_call 41;refine(HLM.out _ (Below.refl _ _)).mono ?_;rintro E w1 ⟨rfl,q9,rfl⟩))
 obtain⟨w1,hw1⟩:∃w1,w.drewN q9=w1:=⟨_,rfl⟩;rw[hw1];have hb1:Ge w w1:=hw1▸bA (Below.refl _ _) _;have hs1:w1.heap.size=w.heap.size:=by rw[<-hw1];simp
 obtain⟨htb,hlt,hc0,hp,hpo,hwin,hebc⟩:=H1.out;have n2:=H.out.c2;have n3:=H.out.c3;have hP1:=H.out.c1;have nz:¬(P tb\/tb=pb):=fun hq=>by
  rcases hq with hq | hq
  ·have:=hP1 tb hq;omega
  ·rw[hq]at n2;omega
 have hbx1:F4 w1 tb g pb wb st xo (A.length-st) tc sv vv depth most f false:=⟨(hb1.block tb htb).trans HX.out.1.box⟩;clear c0 c1 c2 c3 c4 c5 c6 c7 c8 c9 ca cf hw1;obtain⟨c0,c1,c2,c3,c4,c5,c6,c7,c8,c9,ca,cf⟩:=B7 hbx1.box;have G1:=fun w' (hg:dA (fun q=>P q\/q=pb) w1 w')=>hg.cell c1 nz
 have G3:=fun w' (hg:dA (fun q=>P q\/q=pb) w1 w')=>hg.cell c3 nz
 have G4:=fun w' (hg:dA (fun q=>P q\/q=pb) w1 w')=>hg.cell c4 nz
 have G9:=fun w' (hg:dA (fun q=>P q\/q=pb) w1 w')=>hg.cell c9 nz
 have gr:=dA.refl (fun q=>P q\/q=pb) w1;have H1b:=hW_ (And.intro hb1 (And.intro hs1 (And.intro n2 (And.intro n3 (And.intro hP1 hbx1)))));have HGE:=hW_ hb1;clear hb1 hs1 htb hlt hc0 hp hpo hwin hebc n2 n3 hP1 nz hbx1 c0 c1 c2 c3 c4 c5 c6 c7 c8 c9 ca cf
 go_region_held3 (dA (fun q=>P q\/q=pb) w1) (first | (with_reducible assumption) | (with_reducible refine dA.drew ?_;with_reducible assumption) | (with_reducible refine dA.drewN ?_ _;with_reducible assumption)) ((go_at_call 42;refine(HGR.out _ (HGE.out.trans (by first | exact Below.refl _ _ | exact(Below.refl _ _).drew | exact bA (Below.refl _ _) _))).mono ?_;rintro E w2 ⟨v,rfl,hg⟩;have hz2:dA (fun q=>P q\/q=pb) w1 w2:=(by first | exact(dA.refl _ _).trans hg.choose_spec.choose_spec.2.2.2.2.2.2 | exact((dA.refl _ _).drew).trans hg.choose_spec.choose_spec.2.2.2.2.2.2 | exact((dA.refl _ _).drewN _).trans hg.choose_spec.choose_spec.2.2.2.2.2.2);have HG:=hW_ (GrQ.back (HGE.out.trans (by first | exact Below.refl _ _ | exact(Below.refl _ _).drew | exact bA (Below.refl _ _) _)) hg);clear hg))
 obtain⟨o2,P2,-,hcd2,hpt2,hsub2,hof2,-,hk2⟩:=HG.out;obtain⟨htb,hlt,hc0,hp,hpo,hwin,hebc⟩:=H1.out;obtain⟨hb1,hs1,n2,n3,hP1,hbx1⟩:=H1b.out;obtain⟨hn,hk,hok,hS',hA,hcnt,hbase,hSl,hWl,hbs,hat,hsta,hcb⟩:=HB.out;obtain⟨hbx,htx,hto,hst,hso,hsv,hvo⟩:=HX.out;have h:=H.out;have hs2:=hk2.size;rw[hok.rest]at hpt2 hof2;rw[<-Int.natCast_add,<-Int.natCast_add,<-hok.at_,<-hok.toks]at hpt2;have h2o:∀q,q<w.heap.size->col q≠1->col q≠3->w2.heap[q]?=w.heap[q]? :=fun q h1 h2 h3=>hk2.block q h1 (fun hz=>by
  rcases hz with hz | rfl
  ·exact h2 (hP1 q hz)
  ·exact h3 n3)
 have hbx2:F4 w2 tb g pb wb st xo (A.length-st) tc sv vv depth most f false:=⟨(h2o tb htb (by omega) (by omega)).trans hbx.box⟩;obtain⟨w3,hw3⟩:∃w3,w2.setCell ⟨tb,9,none⟩ (.int .i64 n)=w3:=⟨_,rfl⟩;have hbx3:F4 w3 tb g pb wb st xo (A.length-st) tc sv vv depth most n false:=⟨by rw[<-hw3];exact rA (i:=9) (v:= .int .i64 n) hbx2.box⟩;have hs3:w3.heap.size=w2.heap.size:=by rw[<-hw3];simp
 have h3o:∀q,q≠tb->w3.heap[q]?=w2.heap[q]? :=fun q hq=>by rw[<-hw3];exact cA hq
 have hkeep:∀q,q<w.heap.size->col q≠1->col q≠3->col q≠2->w3.heap[q]?=w.heap[q]? :=fun q h1 h2 h3 h4=>(h3o q (fun e=>h4 (by rw[e];exact n2))).trans (h2o q h1 h2 h3)
 have hPt:∀q,P2 q->q≠tb:=fun q hq e=>by
  rcases hsub2 q hq with h5 | h5
  ·have:=hP1 q h5;rw[e]at this;omega
  ·omega
 have hpl:=hpt2.lt;have hlo1:∀q,q<w.heap.size->aEg col w.heap.size P2 (fun q=>0<((A.take n).drop a').length/\o2.map (·.block)=some q) q=col q:=fun q hq=>if_pos hq
 have hlo2:∀q,col q≠0->aEg col w.heap.size P2 (fun q=>0<((A.take n).drop a').length/\o2.map (·.block)=some q) q=col q:=fun q hq=>hlo1 q (hlt q hq)
 have hpbt:pb≠tb:=fun e=>by rw[e]at n3;omega
 have hH:zQ w3 base tb g pb wb V N kind T room (cnt+xZ kind T ((A.take n).drop a) false) P2 Q (aEg col w.heap.size P2 (fun q=>0<((A.take n).drop a').length/\o2.map (·.block)=some q)) A W n a' t' t bs st keep S Sv depth most:=by
  obtain⟨eb,rb,hwin,hebc⟩:=h.win;refine⟨hcd2.stay (fun q hq=>h3o q (hPt q hq)) (by omega),⟨o2,hpt2.stay (h3o pb hpbt) (fun ad e h0=>h3o _ (by have:=(hof2 ad e h0).1;omega)),fun ad e h0=> ?_⟩,
   ⟨eb,rb,hwin.stay (fun q hq=> ?_),by rw[hlo2 _ (by omega)];exact hebc⟩,
   ⟨xo,tc,sv,vv,hbx3,htx.keep0 (fun ad e h0=>by have:=hto ad e h0;exact hkeep _ (hlt _ (by omega)) (by omega) (by omega) (by omega)),fun ad e h0=>by have:=hto ad e h0;rw[hlo2 _ (by omega)];exact this,
    jA hst (fun q hq=>by have:=hso q hq;exact hkeep q (hlt q (by omega)) (by omega) (by omega) (by omega)),fun q hq=>by have:=hso q hq;rw[hlo2 q (by omega)];exact this,
    jA hsv (fun q hq=>by have:=hvo q hq;exact hkeep q (hlt q (by omega)) (by omega) (by omega) (by omega)),fun q hq=>by have:=hvo q hq;rw[hlo2 q (by omega)];exact this⟩,
   fun q hq=> ?_,by rw[hlo2 tb (by omega)];exact n2,by rw[hlo2 pb (by omega)];exact n3,⟨by rw[hlo2 wb (by have:=h.c5.1;omega)];exact h.c5.1,fun q hq=>by rw[hlo2 q (by have:=h.c5.2 q hq;omega)];exact h.c5.2 q hq⟩,fun q hq=> ?_⟩
  ·obtain⟨v1,v2⟩:=hof2 ad e h0;unfold aEg;rw[if_neg (by omega),if_neg v2,if_pos ⟨h0,by rw[e];rfl⟩]
  ·have h5:col q=5:=by
    rcases hq with h1 | rfl | rfl
    ·exact h.c5.2 q h1
    ·exact h.c5.1
    ·exact hebc
   exact hkeep q (hlt q (by omega)) (by omega) (by omega) (by omega)
  ·rcases hsub2 q hq with h5 | h5
   ·rw[hlo2 q (by have:=hP1 q h5;omega)];exact hP1 q h5
   ·unfold aEg;rw[if_neg (by omega),if_pos hq]
  ·unfold aEg;rw[if_neg (by omega),if_neg (fun h5=>by have:=(hcd2.lt q h5).2;omega),if_neg (fun h5=>by
    obtain⟨h6,h7⟩:=h5
    cases ho9:o2 with
    | none=>rw[ho9]at h7;cases h7
    | some ad=>
     rw[ho9]at h7;have h8:ad.block=q:=Option.some.inj h7;have:=hpt2.olt ad ho9 h6;omega)]
 have hle:=hok.le;have hEV:=nZ hH hS' ⟨by omega,by omega⟩ hk ⟨by omega,by omega,by omega⟩ hok.base hok.st ⟨by omega,by omega⟩ hA (by omega) hSl (by omega);have K3:dA (fun q=>col q≠0) w w3:=by
  rw[<-hw3];refine(hk2.mono (fun q _ hq=> ?_)).set (p:=⟨tb,9,none⟩) (by show col tb≠0;omega) _;rcases hq with hq | rfl
  ·rw[hP1 q hq];omega
  ·omega
 obtain⟨c0,c1,c2,c3,c4,c5,c6,c7,c8,c9,ca,cf⟩:=B7 hbx2.box;have HEV:=hW_ hEV;have HW3:=hW_ hw3;have H3:=hW_ (And.intro hlo1 (And.intro hcb (And.intro K3 (And.intro (show w.heap.size<=w3.heap.size by omega) (show((A.take n).drop a).length<=A.length by rw[List.length_drop,List.length_take];omega)))));clear hcd2 hpt2 hsub2 hof2 hk2 htb hlt hc0 hp hpo hwin hebc hb1 hs1 n2 n3 hP1 hbx1 hn hk hok hS' hA hcnt hbase hSl hWl hbs hat hsta hcb hbx htx hto hst hso hsv hvo h hs2 h2o hbx2 hw3 hbx3 hs3 h3o hkeep hPt hpl hlo1 hlo2 hpbt hH hle hEV K3;go_wp2_with (fail);rw[HW3.out];refine HEV.out.mono ?_
 rintro E w4 ⟨rfl,col',hT4,hc4,hk4⟩;have H4:=hW_ (And.intro hT4 (And.intro hc4 hk4));clear hT4 hc4 hk4;go_wp2_with (fail);go_ret;obtain⟨hT4,hc4,hk4⟩:=H4.out;obtain⟨hlo1,hcb,K3,hsw,hRl⟩:=H3.out;refine⟨rfl,P2,col',xZ kind T ((A.take n).drop a) false,hT4,⟨by omega,by omega⟩,fun q hq=>(hc4 q (by omega)).trans (hlo1 q hq),?_⟩;have K1:dA (fun q=>col q≠0\/w.heap.size<=q) w w4:=(K3.mono (fun q _ hq=> .inl hq)).trans (hk4.mono (fun q _ hq=>by
  by_cases hl:q<w.heap.size
  ·rw[hlo1 q hl]at hq;exact .inl hq
  ·exact .inr (by omega)))
 exact K1.mono (fun q hl hq=>hq.resolve_right (by omega))
def V6:Vc:=⟨T0,[m0],[]⟩
theorem O7:May V6:=may_T0
theorem R6_eq:qK [abS]=R0:=by unfold qK R0;rfl
theorem bd6 {x:Int} (h:0<=x/\x<256):ofT V6.tokens (one x.toNat)=x:=by
 show ofT T0 _=_;rw[R9 (by omega)];omega
theorem row6 {b:List Int} (h:∀x∈b,0<=x/\x<256):yB V6 b=b:=by
 unfold yB
 conv=>rhs;rw[<-List.map_id b]
 exact List.map_congr_left fun x hx=>bd6 (h x hx)
theorem fault6 {x:Int} (h:0<=x/\x<256):nB V6 [] x=0:=by unfold nB;rw[if_neg (by simp;omega),if_neg (by omega)]
theorem M1 {b:List Int} (h:∀x∈b,0<=x/\x<256):mA V6 [] b=0:=eB.2 fun x hx=>fault6 (h x hx)
theorem find6 {a b:Int} (h:¬(a=97/\b=98)):dD V6.merges a b=none:=by
 unfold dD;simp[V6,m0];omega
theorem tW:jG V6 [97,98]= [256]:=by
 unfold jG;rw[row6 (by decide)];have hs:rE V6.merges [97,98]=some [256]:=by
  refine mR (i:=0) (m:=m0) ⟨⟨97,98,rfl,rfl,rfl⟩,fun j a b m' h1 h2 h3=> ?_⟩;have hm:m'=m0:=by
   unfold dD at h3;have:=List.mem_of_find?_eq_some h3;simpa[V6]using this
  subst hm;exact .inr ⟨rfl,Nat.zero_le _⟩
 have h2:rE V6.merges [256]=none:=jM fun j a b _ h2=>by
  cases j<;>simp at h2
 show J3 _ 2 _=_;simp only[J3,hs,h2]
theorem enc6 {b:List Int} (hb:∀x∈b,0<=x/\x<256) (h:∀j:Nat,¬(b[j]?=some 97/\b[j+1]?=some 98)):jG V6 b=b:=by
 unfold jG;rw[row6 hb];exact gN (jM fun j x y h1 h2=>find6 fun⟨e1,e2⟩=>h j ⟨by rw[h1,e1],by rw[h2,e2]⟩) _
def A6:List Int:=[97,98,32,99]
theorem sp6:zA 2 usR A6 true= [(2,true),(2,true)]:=by decide +kernel
theorem sp7:zA 2 usR (A6++ [100]) true= [(2,true),(3,true)]:=by decide +kernel
theorem n6:fP 2 usR A6 false=2:=by decide +kernel
theorem s6:zB (zA 2 usR A6 false)= [(2,true)]:=by decide +kernel
theorem text6:B5 V6 [] 2 usR A6= [256,32,99]:=by
 unfold B5;rw[sp6];show eC V6 [] [97,98]++(eC V6 [] [32,99]++ [])=_;rw[C4 (M1 (by decide)) (by simp) (by decide),C4 (M1 (by decide)) (by simp) (by decide),tW,enc6 (by decide) (fun j=>by match j with | 0=>simp | 1=>simp | (j+2)=>simp)];rfl
theorem text7:B5 V6 [] 2 usR (A6++ [100])= [256,32,99,100]:=by
 unfold B5;rw[sp7];show eC V6 [] [97,98]++(eC V6 [] [32,99,100]++ [])=_;rw[C4 (M1 (by decide)) (by simp) (by decide),C4 (M1 (by decide)) (by simp) (by decide),tW,enc6 (by decide) (fun j=>by match j with | 0=>simp | 1=>simp | 2=>simp | (j+3)=>simp)];rfl
theorem com6:T5 V6 [] 2 usR A6 false= [256]:=by
 unfold T5;rw[s6];show eC V6 [] [97,98]++ []=_;rw[C4 (M1 (by decide)) (by simp) (by decide),tW];rfl
end Go.Proofs.YtahiballegpbgaaGreatDoor
