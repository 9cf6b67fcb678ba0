/- Pairs of numbers as the keys of the table of pairs. -/
import Derived.Test.YtahiballegpbgaaGreatDoorR1
import Derived.DeepKeys4
import Derived.Maps.Own
import Derived.Lib.SmallJoins
import Derived.Deep.Matrix
import Derived.Deep.Slices
import Derived.Deep.Fields
import Derived.ChangeSame
import Derived.Test.YtahiballegpbgaaGreatDoorR6
import Derived.Test.YtahiballegpbgaaGreatDoorR8
import Derived.Test.YtahiballegpbgaaGreatDoorR12
set_option linter.unusedVariables false
set_option maxHeartbeats 2000000
set_option maxRecDepth 100000
namespace Go.Proofs.YtahiballegpbgaaGreatDoor
open Go.RowKit Go.Maps Go.ChangeMaps Go.WideMaps Go.WideElems
theorem laidAllP:laidOutB Tryz.prog=true:=by kernel_rfl
theorem aBU:(212:TypeId)<Tryz.prog.types.size:=of_decide_eq_true (by kernel_rfl)
theorem wideTwoP:(match Tryz.prog.underlying 212 with | some (.array _ _) | some (.struct _)=>true | _=>false)=true:=by kernel_rfl
theorem aDI:Keyed Tryz.prog 212:=Keyed.of_law (deep_law_laid laidAllP (m:=2) (by omega) aBU (by kernel_rfl) wideTwoP)
theorem Y6:Tryz.prog.keyType 212=true:=by kernel_rfl
theorem eV:Tryz.prog.cellsOf 212=2:=by kernel_rfl
theorem aBi {a b:Int} (ha:(Lit.int .i64 a).wf=true) (hb:(Lit.int .i64 b).wf=true):(keyOf Tryz.prog 212 (.agg #[.int .i64 a, .int .i64 b])).isSome=true:=by
 have hf:(Value.agg #[.int .i64 a, .int .i64 b]).formed Tryz.prog 212=true:=by
  simp[Value.formed,Tryz.underlying212,eV]
 have hk:∀n,(Tryz.prog.keyLits (n+2) 212 [.int .i64 a, .int .i64 b]).isSome=true:=by
  intro n;have h3:Tryz.prog.cellsOf 3=1:=by kernel_rfl
  unfold Program.keyLits;simp[Tryz.underlying212,eV,h3,Program.keyLits,Tryz.underlying3,ha,hb]
 unfold keyOf;rw[Tryz.underlying212];simp only[Y6,hf,Bool.and_self,if_true];obtain⟨n,hn⟩:∃n,Tryz.prog.types.size+1=n+2:=⟨Tryz.prog.types.size-1,by
  have h:(0:Nat)<Tryz.prog.types.size:=Nat.lt_of_le_of_lt (Nat.zero_le _) aBU;omega⟩
 have h2:=hk n;rw[<-hn]at h2;show(Option.map _ (Tryz.prog.keyLits (Tryz.prog.types.size+1) _ [.int .i64 a, .int .i64 b])).isSome=true;rw[Option.isSome_map];exact h2
noncomputable def M7:B4 Tryz.prog 212 (Int×Int):=
 B4.of (fun p=> .agg #[.int .i64 p.1, .int .i64 p.2]) (fun p=>(Lit.int .i64 p.1).wf=true/\(Lit.int .i64 p.2).wf=true) (fun p h=>aBi h.1 h.2)
  (fun x y h=>by simp at h;exact Prod.ext h.1 h.2) aDI
open Go.ChangeShapes Go.WideShapes Go.Deep Go.RowKit
section
variable {H:Type} {enc:TypeId×Value->H} {P:Program} {w:World} {base:Nat} {spare:Nat->Bool} {held:Bool}
theorem E5 {t e:TypeId} {fs:Array Field} {fuel:Nat} {cs:List Value} {x:DataW H×List MemPlace} (ht:P.underlying t=some (.slice e)) (he:P.underlying e=some (.struct fs))
  (hone:oneCellFields P fs=true) (hC:P.cellsOf e=fs.size) (h:DataW.trod enc P w base spare held fuel t cs=some x):
  (cs= [.slice none 0 0]/\x=(.nil,[]))\/
  ∃(a:Addr) (len cap m:Nat) (D:Nat->DataW H) (Pl:Nat->List MemPlace),cs= [.slice (some a) len cap]/\base<=a.block/\len<=cap/\cap<=maxLen/\m=(if spare a.block then cap else len)/\
   x=(.slice ((List.range len).map D) ((List.range (m-len)).map fun j=>D (len+j)),MemPlace.row a (m*fs.size)++(List.range m).flatMap Pl)/\
   ∀i,i<m->∃(ys:List (DataW H×List MemPlace)) (n:Nat),D i= .agg (ys.map (·.1))/\Pl i=ys.flatMap (·.2)/\ys.length=fs.size/\
    ∀(j:Nat) (f:Field),fs[j]?=some f->∃(v:Value) (y:DataW H×List MemPlace),w.cell? (a.add (i*fs.size+j))=some v/\ys[j]?=some y/\DataW.trod enc P w base spare held n f.type [v]=some y:=by
 rcases open_slice ht h with h0 | ⟨a,len,cap,m,n,D,Pl,hcs,hb,hl,hm,hmm,hx,hi⟩
 ·exact .inl h0
 ·refine .inr ⟨a,len,cap,m,D,Pl,hcs,hb,hl,hm,hmm,by rw[hC]at hx;exact hx,fun i him=> ?_⟩;obtain⟨cs',hc,ht'⟩:=hi i him;rw[hC]at hc;obtain⟨ys,n',hn',hy,hlen,hyl,hf⟩:=DataW.trod_struct he ht';obtain⟨_,hcl,hat⟩:=World.cells?_some hc;simp only[Prod.mk.injEq]at hy;refine⟨ys,n',hy.1,hy.2,hyl,fun j f hj=> ?_⟩;obtain⟨ho,hk⟩:=hone_of hone j f hj;have hjl:j<fs.size:=(Array.getElem?_eq_some_iff.1 hj).1;have hcell:=hat j hjl;have hv:cs'[j]?=some (cs'[j]'(by omega)):=List.getElem?_eq_getElem (by omega)
  have h1:=hf j f hj;rw[ho,hk]at h1;have hone':(cs'.drop j).take 1= [cs'[j]'(by omega)]:=by
   rw[List.drop_eq_getElem_cons (by omega)];rfl
  rw[hone']at h1;have hys:ys[j]?=some (ys[j]'(by omega)):=List.getElem?_eq_getElem (by omega)
  refine⟨_,_,?_,hys,h1.trans hys⟩;rw[<-Go.Deep.add_add,hcell,hv]
end
theorem V5 {α:Type} {enc:α->List Value} {s n cap:Nat} {w:World} {a:Addr} {R:α->Prop} (hs:∀x,(enc x).length=s) (h0:0<s) (hle:n<=cap) (hmax:cap<=maxLen)
  (h:∀i,i<n->∃x:α,(∀j u,(enc x)[j]?=some u->w.cell? (a.add (i*s+j))=some u)/\R x):
  ∃L:List α,SlF s w (some a) n cap (flat enc L)/\∀x∈L,R x:=by
 classical
 have key:∀m,m<=n->∃L:List α,L.length=m/\(∀i x,L[i]?=some x->∀j u,(enc x)[j]?=some u->w.cell? (a.add (i*s+j))=some u)/\∀x∈L,R x:=by
  intro m
  induction m with
  | zero=>exact fun _=>⟨[],rfl,fun i x hx=>by simp at hx,fun x hx=>by simp at hx⟩
  | succ m ih=>
   intro hm;obtain⟨L,hl,h1,h2⟩:=ih (by omega);obtain⟨x,hx1,hx2⟩:=h m (by omega);refine⟨L++ [x],by simp[hl],fun i y hy=> ?_,fun y hy=> ?_⟩
   ·rcases Nat.lt_or_ge i L.length with h' | h'
    ·rw[List.getElem?_append_left h']at hy;exact h1 i y hy
    ·rw[List.getElem?_append_right h']at hy;have:i-L.length=0:=by
      have:=(List.getElem?_eq_some_iff.1 hy).1;simp at this;omega
     rw[this]at hy;simp at hy;subst hy;obtain rfl:i=m:=by omega
     exact hx1
   ·rcases List.mem_append.1 hy with h' | h'
    ·exact h2 y h'
    ·simp at h';subst h';exact hx2
 obtain⟨L,hl,h1,h2⟩:=key n (Nat.le_refl _);refine⟨L,⟨by rw[lB hs,hl],hle,hmax,by simp,fun i u hu=> ?_⟩,h2⟩;have hi:i<n*s:=by have:=(List.getElem?_eq_some_iff.1 hu).1;rw[lB hs,hl]at this;exact this
 have hd:i=i / s*s+i % s:=by rw[Nat.mul_comm];exact(Nat.div_add_mod i s).symm
 have hlt:i / s<n:=Nat.div_lt_of_lt_mul (by rw[Nat.mul_comm];exact hi);obtain⟨x,hx⟩:∃x,L[i / s]?=some x:=⟨L[i / s]'(by rw[hl];exact hlt),List.getElem?_eq_getElem _⟩
 have hm:=Nat.mod_lt i h0;rw[hd,yD hs hx hm]at hu;have hc:=h1 _ x hx _ u hu;rw[<-hd]at hc;have hsp:a.spot=none:=by
  obtain⟨x0,hx0⟩:∃x,L[0]?=some x:=⟨L[0]'(by have h9:=Nat.lt_of_le_of_lt (Nat.zero_le _) hlt;rw[hl];exact h9),List.getElem?_eq_getElem _⟩
  obtain⟨u0,hu0⟩:∃u,(enc x0)[0]?=some u:=⟨(enc x0)[0]'(by rw[hs];exact h0),List.getElem?_eq_getElem _⟩
  have h00:=h1 0 x0 hx0 0 u0 hu0;have:=World.cell?_spot h00;simpa[Addr.add]using this
 obtain⟨b,o,sp⟩:=a;simp at hsp;subst hsp;refine⟨b,o,rfl,?_⟩;rw[Addr.add_lit]at hc;exact hc
open Go.ChangeShapes Go.WideShapes Go.ChangeAt Go.RowKit Go.Joins Go.Deep
theorem cellsStr:Tryz.prog.cellsOf 9=1:=by kernel_rfl
section
variable {H:Type} {enc:TypeId×Value->H} {W:World} {held:Bool}
theorem kZ (T:List ByteArray):flat (fun s:ByteArray=>[Value.string s]) T=T.map .string:=by
 induction T with
 | nil=>rfl
 | cons x T ih=>rw[xD,ih];rfl
theorem tP {fuel:Nat} {v:Value} {y:DataW H×List MemPlace} (h:DataW.trod enc Tryz.prog W 0 (fun _=>true) held fuel 22 [v]=some y):
  ∃ao n c T,v= .slice ao n c/\SlS W ao n c T/\∀s∈T,s.size<=maxLen:=by
 rcases open_slice1 Tryz.underlying22 cellsStr h with⟨hcs,_⟩ | ⟨a,len,cap,m,n,V,D,Pl,hcs,_,hl,hm,hmm,_,hi⟩
 ·simp at hcs;subst hcs;exact⟨none,0,0,[],rfl,Sl.none,by simp⟩
 ·simp at hcs;subst hcs;simp at hmm;subst hmm;obtain⟨T,hT,hR⟩:=V5 (enc:=fun s:ByteArray=>[Value.string s]) (s:=1) (n:=len) (cap:=m) (w:=W) (a:=a) (R:=fun s=>s.size<=maxLen) (fun _=>rfl) (by omega) hl hm (by
   intro i hi2;obtain⟨hc,ht⟩:=hi i (by omega);obtain⟨s,es,_,hs⟩:=DataW.trod_string Tryz.underlying9 ht;simp at es;refine⟨s,fun j u hu=> ?_,hs⟩
   match j,hu with
   | 0,hu=>simp at hu;subst hu;rw[Nat.mul_one,Nat.add_zero,hc,es]
   | j+1,hu=>simp at hu)
  rw[kZ]at hT;exact⟨some a,len,m,T,rfl,⟨by have:=hT.len;omega,hT.le,hT.max,hT.nil,hT.at_⟩,hR⟩
theorem spStruct:∃f0 f1:Field,Tryz.prog.underlying 117=some (.struct #[f0,f1])/\f0.type=9/\f1.type=3/\oneCellFields Tryz.prog #[f0,f1]=true:=
 ⟨_,_,Tryz.underlying117,rfl,rfl,by kernel_rfl⟩
theorem cellsSp:Tryz.prog.cellsOf 117=2:=by kernel_rfl
theorem mgStruct:∃f0 f1 f2 f3:Field,Tryz.prog.underlying 170=some (.struct #[f0,f1,f2,f3])/\f0.type=3/\f1.type=3/\f2.type=3/\f3.type=3/\oneCellFields Tryz.prog #[f0,f1,f2,f3]=true:=
 ⟨_,_,_,_,Tryz.underlying170,rfl,rfl,rfl,rfl,by kernel_rfl⟩
theorem cellsMg:Tryz.prog.cellsOf 170=4:=by kernel_rfl
theorem X0 {fuel:Nat} {v:Value} {y:DataW H×List MemPlace} (h:DataW.trod enc Tryz.prog W 0 (fun _=>true) held fuel 24 [v]=some y):
  ∃ao n c S,v= .slice ao n c/\SlF 2 W ao n c (flat Sp.enc S)/\∀s∈S,s.name.size<=maxLen:=by
 obtain⟨f0,f1,hu,e0,e1,hone⟩:=spStruct;rcases E5 Tryz.underlying24 hu hone (by rw[cellsSp];rfl) h with⟨hcs,_⟩ | ⟨a,len,cap,m,D,Pl,hcs,_,hl,hm,hmm,_,hrow⟩
 ·simp at hcs;subst hcs;exact⟨_,_,_,[],rfl,SlF.nothing _,by simp⟩
 ·simp at hcs;subst hcs;simp at hmm;subst hmm;obtain⟨S,hS,hR⟩:=V5 (enc:=Sp.enc) (s:=2) (n:=len) (cap:=m) (w:=W) (a:=a) (R:=fun x=>x.name.size<=maxLen) Sp.enc_len (by omega) hl hm (by
   intro i hi;obtain⟨ys,n',_,_,_,hf⟩:=hrow i (by omega);obtain⟨u0,y0,c0,_,t0⟩:=hf 0 f0 rfl;obtain⟨u1,y1,c1,_,t1⟩:=hf 1 f1 rfl;rw[e0]at t0;rw[e1]at t1;obtain⟨s,es,_,hs⟩:=DataW.trod_string Tryz.underlying9 t0;obtain⟨z,ez,_,_⟩:=DataW.trod_int Tryz.underlying3 t1;simp at es ez;subst es ez;refine⟨⟨s,z⟩,fun j u hu=> ?_,hs⟩
   match j,hu with
   | 0,hu=>simp[Sp.enc]at hu;subst hu;exact c0
   | 1,hu=>simp[Sp.enc]at hu;subst hu;exact c1
   | j+2,hu=>simp[Sp.enc]at hu)
  exact⟨_,_,_,S,rfl,hS,hR⟩
theorem uY {fuel:Nat} {v:Value} {y:DataW H×List MemPlace} (h:DataW.trod enc Tryz.prog W 0 (fun _=>true) held fuel 23 [v]=some y):
  ∃ao n c M,v= .slice ao n c/\SlF 4 W ao n c (flat Mg.enc M):=by
 obtain⟨f0,f1,f2,f3,hu,e0,e1,e2,e3,hone⟩:=mgStruct;rcases E5 Tryz.underlying23 hu hone (by rw[cellsMg];rfl) h with⟨hcs,_⟩ | ⟨a,len,cap,m,D,Pl,hcs,_,hl,hm,hmm,_,hrow⟩
 ·simp at hcs;subst hcs;exact⟨_,_,_,[],rfl,SlF.nothing _⟩
 ·simp at hcs;subst hcs;simp at hmm;subst hmm;obtain⟨M,hM,_⟩:=V5 (enc:=Mg.enc) (s:=4) (n:=len) (cap:=m) (w:=W) (a:=a) (R:=fun _=>True) Mg.enc_len (by omega) hl hm (by
   intro i hi;obtain⟨ys,n',_,_,_,hf⟩:=hrow i (by omega);obtain⟨u0,y0,c0,_,t0⟩:=hf 0 f0 rfl;obtain⟨u1,y1,c1,_,t1⟩:=hf 1 f1 rfl;obtain⟨u2,y2,c2,_,t2⟩:=hf 2 f2 rfl;obtain⟨u3,y3,c3,_,t3⟩:=hf 3 f3 rfl;rw[e0]at t0;rw[e1]at t1;rw[e2]at t2;rw[e3]at t3;obtain⟨z0,ez0,_,_⟩:=DataW.trod_int Tryz.underlying3 t0;obtain⟨z1,ez1,_,_⟩:=DataW.trod_int Tryz.underlying3 t1;obtain⟨z2,ez2,_,_⟩:=DataW.trod_int Tryz.underlying3 t2;obtain⟨z3,ez3,_,_⟩:=DataW.trod_int Tryz.underlying3 t3;simp at ez0 ez1 ez2 ez3;subst ez0 ez1 ez2 ez3;refine⟨⟨z0,z1,z2,z3⟩,fun j u hu=> ?_,trivial⟩
   match j,hu with
   | 0,hu=>simp[Mg.enc]at hu;subst hu;exact c0
   | 1,hu=>simp[Mg.enc]at hu;subst hu;exact c1
   | 2,hu=>simp[Mg.enc]at hu;subst hu;exact c2
   | 3,hu=>simp[Mg.enc]at hu;subst hu;exact c3
   | j+4,hu=>simp[Mg.enc]at hu)
  exact⟨_,_,_,M,rfl,hM⟩
theorem cellsVoc:Tryz.prog.cellsOf 26=3:=by kernel_rfl
end
open Go.RowKit
theorem oW:(Tryz.prog.info? 125).map (fun i=>(i.zero.map (·.cells.size),i.size,i.bytes))=some (some 3,3,24):=by kernel_rfl
theorem infoSt:(Tryz.prog.info? 9).map (fun i=>(i.zero.map (·.cells.size),i.size,i.bytes))=some (some 1,1,16):=by kernel_rfl
def J4 (s:ByteArray):List Value:=[.string s]
theorem kS (s:ByteArray):(J4 s).length=1:=rfl
theorem encS_one (x:ByteArray):∀v∈J4 x,v.oneCell'=true:=by
 intro v hv;simp[J4]at hv;subst hv;rfl
theorem O9 (T:List ByteArray):flat J4 T=T.map .string:=kZ T
theorem SlS.flat {w:World} {ao:Option Addr} {n c:Nat} {T:List ByteArray} (h:SlS w ao n c T):SlF 1 w ao n c (flat J4 T):=
 ⟨by rw[O9,List.length_map,h.count];omega,Sl.le h,Sl.max h,Sl.nil h,fun i u hu=>by rw[O9]at hu;exact Sl.at_ h i u hu⟩
theorem SlF.strs {w:World} {ao:Option Addr} {n c:Nat} {T:List ByteArray} (h:SlF 1 w ao n c (Go.Proofs.YtahiballegpbgaaGreatDoor.flat J4 T)):SlS w ao n c T:=
 ⟨by have:=h.count kS (by omega);rw[List.length_map];exact this,h.le,h.max,h.nil,fun i u hu=>by rw[<-O9]at hu;exact h.at_ i u hu⟩
theorem zW (c:Nat) (w:World):
  Calls Tryz.prog 67 #[.slice none 0 c] w fun e w'=>∃v,e= .returned v/\iA J4 1 9 w' w.heap.size v []/\Below w.heap.size w w':=by
 have hsn:=fun w=>Lib.run_eql_slice_nil (P:=Tryz.prog) w 22 9 none 0 c 0 0 Tryz.underlying22
 go_enter Tryz.func67,Tryz.ntmps67;go_wp2;go_ret;exact⟨_,rfl,iA.nil _ _,Below.refl _ _⟩
theorem T6 {S:List ByteArray} {ad:Addr} {n c:Nat} (w:World) (hS:SlF 1 w (some ad) n c (flat J4 S)) (hn:n<=1048576):
  Calls Tryz.prog 67 #[.slice (some ad) n c] w fun e w'=>∃v,e= .returned v/\iA J4 1 9 w' w.heap.size v S/\Below w.heap.size w w':=by
 obtain⟨i0,z0,hi,hz0,hz1,hz2,hz3⟩:=B6 infoSt;have hsn:=fun w=>Lib.run_eql_slice_nil (P:=Tryz.prog) w 22 9 (some ad) n c 0 0 Tryz.underlying22
 have hown:iA J4 1 9 (w.alloc (.cells #[] 9)) w.heap.size (.slice (some ⟨w.heap.size,0, .none⟩) 0 0) []:=iA.made0 w;have hA2:=hS.alloc (.cells #[] 9);go_enter Tryz.func67,Tryz.ntmps67;go_wp2_with (at_builtin;go_loud (refine kA rfl _ _ 22 rfl i0 z0 16 Tryz.underlying22 hi hz0 hz1 hz2 hz3 kS (by omega) encS_one rfl hown rfl hA2 (by unfold maxLen;simp only[List.length_nil];omega) (by simp only[List.length_nil];omega) (by simp) ?_));intro v' w' ho hg hb;go_wp2;go_ret;exact⟨_,rfl,by simpa using ho,(aA w _).trans hb⟩
theorem cH {S:List ByteArray} {ao:Option Addr} {n c:Nat} (w:World) (hS:SlF 1 w ao n c (flat J4 S)) (hn:n<=1048576):
  Calls Tryz.prog 67 #[.slice ao n c] w fun e w'=>∃v,e= .returned v/\iA J4 1 9 w' w.heap.size v S/\Below w.heap.size w w':=by
 cases ao with
 | some ad=>exact T6 w hS hn
 | none=>
  have hc:=hS.nil rfl;have h0:n=0:=by have:=hS.le;omega
  subst h0;have:S= []:=List.eq_nil_of_length_eq_zero (hS.count kS (by omega));subst this;exact zW c w
theorem Z3 (c:Nat) (w:World):
  Calls Tryz.prog 146 #[.slice none 0 c] w fun e w'=>∃v,e= .returned v/\iA Mg.enc 4 170 w' w.heap.size v []/\Below w.heap.size w w':=by
 have hsn:=fun w=>Lib.run_eql_slice_nil (P:=Tryz.prog) w 23 170 none 0 c 0 0 Tryz.underlying23
 go_enter Tryz.func146,Tryz.ntmps146;go_wp2;go_ret;exact⟨_,rfl,iA.nil _ _,Below.refl _ _⟩
theorem bX {S:List Mg} {ad:Addr} {n c:Nat} (w:World) (hS:SlF 4 w (some ad) n c (flat Mg.enc S)) (hn:n<=1048576):
  Calls Tryz.prog 146 #[.slice (some ad) n c] w fun e w'=>∃v,e= .returned v/\iA Mg.enc 4 170 w' w.heap.size v S/\Below w.heap.size w w':=by
 obtain⟨i0,z0,hi,hz0,hz1,hz2,hz3⟩:=B6 infoMg;have hsn:=fun w=>Lib.run_eql_slice_nil (P:=Tryz.prog) w 23 170 (some ad) n c 0 0 Tryz.underlying23
 have hown:iA Mg.enc 4 170 (w.alloc (.cells #[] 170)) w.heap.size (.slice (some ⟨w.heap.size,0, .none⟩) 0 0) []:=iA.made0 w;have hA2:=hS.alloc (.cells #[] 170);go_enter Tryz.func146,Tryz.ntmps146;go_wp2_with (at_builtin;go_loud (refine kA rfl _ _ 23 rfl i0 z0 32 Tryz.underlying23 hi hz0 hz1 hz2 hz3 Mg.enc_len (by omega) Mg.enc_one rfl hown rfl hA2 (by unfold maxLen;simp only[List.length_nil];omega) (by simp only[List.length_nil];omega) (by simp) ?_));intro v' w' ho hg hb;go_wp2;go_ret;exact⟨_,rfl,by simpa using ho,(aA w _).trans hb⟩
theorem T9 {S:List Mg} {ao:Option Addr} {n c:Nat} (w:World) (hS:SlF 4 w ao n c (flat Mg.enc S)) (hn:n<=1048576):
  Calls Tryz.prog 146 #[.slice ao n c] w fun e w'=>∃v,e= .returned v/\iA Mg.enc 4 170 w' w.heap.size v S/\Below w.heap.size w w':=by
 cases ao with
 | some ad=>exact bX w hS hn
 | none=>
  have hc:=hS.nil rfl;have h0:n=0:=by have:=hS.le;omega
  subst h0;have:S= []:=List.eq_nil_of_length_eq_zero (hS.count Mg.enc_len (by omega));subst this;exact Z3 c w
theorem Z0 (c:Nat) (w:World):
  Calls Tryz.prog 68 #[.slice none 0 c] w fun e w'=>∃v,e= .returned v/\iA Rg.enc 3 125 w' w.heap.size v []/\Below w.heap.size w w':=by
 have hsn:=fun w=>Lib.run_eql_slice_nil (P:=Tryz.prog) w 27 125 none 0 c 0 0 Tryz.underlying27
 go_enter Tryz.func68,Tryz.ntmps68;go_wp2;go_ret;exact⟨_,rfl,iA.nil _ _,Below.refl _ _⟩
theorem W8 {S:List Rg} {ad:Addr} {n c:Nat} (w:World) (hS:SlF 3 w (some ad) n c (flat Rg.enc S)) (hn:n<=1048576):
  Calls Tryz.prog 68 #[.slice (some ad) n c] w fun e w'=>∃v,e= .returned v/\iA Rg.enc 3 125 w' w.heap.size v S/\Below w.heap.size w w':=by
 obtain⟨i0,z0,hi,hz0,hz1,hz2,hz3⟩:=B6 oW;have hsn:=fun w=>Lib.run_eql_slice_nil (P:=Tryz.prog) w 27 125 (some ad) n c 0 0 Tryz.underlying27
 have hown:iA Rg.enc 3 125 (w.alloc (.cells #[] 125)) w.heap.size (.slice (some ⟨w.heap.size,0, .none⟩) 0 0) []:=iA.made0 w;have hA2:=hS.alloc (.cells #[] 125);go_enter Tryz.func68,Tryz.ntmps68;go_wp2_with (at_builtin;go_loud (refine kA rfl _ _ 27 rfl i0 z0 24 Tryz.underlying27 hi hz0 hz1 hz2 hz3 Rg.enc_len (by omega) Rg.enc_one rfl hown rfl hA2 (by unfold maxLen;simp only[List.length_nil];omega) (by simp only[List.length_nil];omega) (by simp) ?_));intro v' w' ho hg hb;go_wp2;go_ret;exact⟨_,rfl,by simpa using ho,(aA w _).trans hb⟩
theorem eM {S:List Rg} {ao:Option Addr} {n c:Nat} (w:World) (hS:SlF 3 w ao n c (flat Rg.enc S)) (hn:n<=1048576):
  Calls Tryz.prog 68 #[.slice ao n c] w fun e w'=>∃v,e= .returned v/\iA Rg.enc 3 125 w' w.heap.size v S/\Below w.heap.size w w':=by
 cases ao with
 | some ad=>exact W8 w hS hn
 | none=>
  have hc:=hS.nil rfl;have h0:n=0:=by have:=hS.le;omega
  subst h0;have:S= []:=List.eq_nil_of_length_eq_zero (hS.count Rg.enc_len (by omega));subst this;exact Z0 c w
theorem zZ (c:Nat) (w:World):
  Calls Tryz.prog 73 #[.slice none 0 c] w fun e w'=>∃v,e= .returned v/\iA Sp.enc 2 117 w' w.heap.size v []/\Below w.heap.size w w':=by
 have hsn:=fun w=>Lib.run_eql_slice_nil (P:=Tryz.prog) w 24 117 none 0 c 0 0 Tryz.underlying24
 go_enter Tryz.func73,Tryz.ntmps73;go_wp2;go_ret;exact⟨_,rfl,iA.nil _ _,Below.refl _ _⟩
theorem W7 {S:List Sp} {ad:Addr} {n c:Nat} (w:World) (hS:SlF 2 w (some ad) n c (flat Sp.enc S)) (hn:n<=1048576):
  Calls Tryz.prog 73 #[.slice (some ad) n c] w fun e w'=>∃v,e= .returned v/\iA Sp.enc 2 117 w' w.heap.size v S/\Below w.heap.size w w':=by
 obtain⟨i0,z0,hi,hz0,hz1,hz2,hz3⟩:=B6 infoSp;have hsn:=fun w=>Lib.run_eql_slice_nil (P:=Tryz.prog) w 24 117 (some ad) n c 0 0 Tryz.underlying24
 have hown:iA Sp.enc 2 117 (w.alloc (.cells #[] 117)) w.heap.size (.slice (some ⟨w.heap.size,0, .none⟩) 0 0) []:=iA.made0 w;have hA2:=hS.alloc (.cells #[] 117);go_enter Tryz.func73,Tryz.ntmps73;go_wp2_with (at_builtin;go_loud (refine kA rfl _ _ 24 rfl i0 z0 24 Tryz.underlying24 hi hz0 hz1 hz2 hz3 Sp.enc_len (by omega) Sp.enc_one rfl hown rfl hA2 (by unfold maxLen;simp only[List.length_nil];omega) (by simp only[List.length_nil];omega) (by simp) ?_));intro v' w' ho hg hb;go_wp2;go_ret;exact⟨_,rfl,by simpa using ho,(aA w _).trans hb⟩
theorem T7 {S:List Sp} {ao:Option Addr} {n c:Nat} (w:World) (hS:SlF 2 w ao n c (flat Sp.enc S)) (hn:n<=1048576):
  Calls Tryz.prog 73 #[.slice ao n c] w fun e w'=>∃v,e= .returned v/\iA Sp.enc 2 117 w' w.heap.size v S/\Below w.heap.size w w':=by
 cases ao with
 | some ad=>exact W7 w hS hn
 | none=>
  have hc:=hS.nil rfl;have h0:n=0:=by have:=hS.le;omega
  subst h0;have:S= []:=List.eq_nil_of_length_eq_zero (hS.count Sp.enc_len (by omega));subst this;exact zZ c w
abbrev aEo (w:World) (mb sz:Nat) (f:Int×Int->Option Int):Prop:=A0 M7 3 w mb sz f
theorem fB.grownMap {g:Nat} {w w' w'':World} (h:fB g w w') (hg:w'.drew.grownBy w'' (some g)):fB g w w'':=
 ⟨Nat.le_trans h.size hg.size,fun q h1 h2=>(hg.block q (Nat.lt_of_lt_of_le h1 h.size) (by simp;omega)).trans (h.block q h1 h2)⟩
def atM (M:List Mg):Nat->Int×Int->Option Int
 | 0=>fun _=>none
 | k+1=>fun s=>if s=((mg M k).left,(mg M k).right)then some (k:Int)else atM M k s
theorem xS (M:List Mg) (k:Nat):atM M (k+1)=fun s=>if s=((mg M k).left,(mg M k).right)then some (k:Int)else atM M k s:=rfl
theorem aAd {M:List Mg}:∀{k:Nat} {s:Int×Int} {i:Int},atM M k s=some i->∃j,j<k/\i=(j:Int)/\s=((mg M j).left,(mg M j).right)
 | 0,_,_,h=>by cases h
 | k+1,s,i,h=>by
  rw[xS]at h;simp only at h;split at h
  ·next e=>exact⟨k,by omega,by simpa using h.symm,e⟩
  ·obtain⟨j,h1,h2,h3⟩:=aAd h;exact⟨j,by omega,h2,h3⟩
theorem aAe {M:List Mg}:∀{k:Nat} {s:Int×Int},atM M k s=none->∀j,j<k->s≠((mg M j).left,(mg M j).right)
 | 0,_,_=>fun j hj=>by omega
 | k+1,s,h=>fun j hj e=>by
  rw[xS]at h;simp only at h;split at h
  ·cases h
  ·next e2=>
   by_cases e3:j=k
   ·exact e2 (e3▸e)
   ·exact aAe h j (by omega) e
theorem atM_len {w:World} {mb sz k:Nat} {M:List Mg} (h:aEo w mb sz (atM M k)) (e:M.length=k):aEo w mb sz (atM M M.length):=by rw[e];exact h
structure mO (w:World) (base g:Nat) (M:List Mg):Prop where
 lo:base<=g
 tab:∃mo mc mb sz,w.heap[g]?=some (.cells #[.slice mo M.length mc, .map (some mb)] 210)/\iA Mg.enc 4 170 w base (.slice mo M.length mc) M/\aEo w mb sz (atM M M.length)/\base<=mb/\mb<w.heap.size
def PairPost (V:Vc) (w:World) (e:Ending) (w':World):Prop:=
 ((¬May V/\e= .returned (.tuple #[.pointer none, .int .i64 2]))\/(May V/\∃g,e= .returned (.tuple #[.pointer (some ⟨g,0,none⟩), .int .i64 0])/\mO w' w.heap.size g V.merges))/\Below w.heap.size w w'
theorem uT {V : Vc} {dd : Vd} (w : World) (hV : xE w dd V) (hok : VOk V) :
    Calls Tryz.prog 108 #[dd.val] w (PairPost V w) := by
  obtain ⟨ta, tn, tc, ma, mn, mc, sa, sn, sc⟩ := dd;obtain ⟨w0, hw0⟩ : ∃ w0, w.alloc (.cells #[.slice ta tn tc, .slice ma mn mc, .slice sa sn sc] 26) = w0 := ⟨_, rfl⟩;have hb0 : Below w.heap.size w w0 := hw0 ▸ aA w _;have hx0 : w0.heap[w.heap.size]? = some (.cells #[.slice ta tn tc, .slice ma mn mc, .slice sa sn sc] 26) := by rw [<- hw0]; exact heap_alloc_new w _
  have hs0 : w.heap.size < w0.heap.size := by rw [<- hw0]; simp
  obtain ⟨c0, c1, c2⟩ := A4 hx0;have HV := hW_ (hV.below hb0);have HB0 := hW_ hb0;have HX0 := hW_ hx0;have HW0 := hW_ hw0;have hm := Nat.le_trans hV.mrg.le hV.mrg.max;simp only at hm;unfold maxLen at hm;have HLM := hW_ (hV.mrg.count Mg.enc_len (by omega));have hmay := aDy (dd := ⟨ta, tn, tc, ma, mn, mc, sa, sn, sc⟩) w0 HV.out hok;clear hV hb0 hx0 hw0;go_enter Tryz.func108, Tryz.ntmps108;go_wp2_with (fail);rw [HW0.out];refine hmay.mono ?_
  rintro e w1 ⟨⟨b, rfl, hi⟩, hb1⟩;have HB1 := hW_ hb1;have HI := hW_ hi;clear c0 c1 c2;obtain ⟨c0, c1, c2⟩ := A4 ((HB1.out.block w.heap.size hs0).trans HX0.out);clear hb1 hi hmay
  cases b with
  | false =>
    have HF := hW_ (vJ HI.out rfl);go_wp2_with (fail);refine bodyPost_ret (v := .tuple #[.pointer none, .int .i64 2]) ?_ rfl ⟨.inl ⟨HF.out, rfl⟩, HB0.out.trans (HB1.out.mono HB0.out.size)⟩
    simp [results, Tryz.results108, go_sem]
  | true =>
    have HM := hW_ (HI.out.1 rfl);have hmn : mn <= 16384 := by have h1 := HM.out.2.1.1; have := HLM.out; omega
    have hcl := T9 w1 ((HV.out.below HB1.out).mrg) (by show mn <= 1048576; omega);go_wp2_with (fail);refine hcl.mono ?_
    rintro e w2 ⟨v2, rfl, ho2, hb2⟩;obtain ⟨mo, mcc, rfl, _⟩ := ho2.sl;have hml : V.merges.length = mn := HLM.out;have HO2 := hW_ ho2;rw [hml];have HML := hW_ hml;have HB2 := hW_ (HB1.out.trans (hb2.mono HB1.out.size));clear c0 c1 c2;obtain ⟨c0, c1, c2⟩ := A4 ((HB2.out.block w.heap.size hs0).trans HX0.out);obtain ⟨w3, hw3⟩ : ∃ w3, w2.alloc (.map #[] 0) = w3 := ⟨_, rfl⟩;obtain ⟨w4, hw4⟩ : ∃ w4, w3.alloc (.cells #[.slice mo mn mcc, .map (some w2.heap.size)] 210) = w4 := ⟨_, rfl⟩;have hb3 : Below w2.heap.size w2 w3 := hw3 ▸ aA w2 _;have hb4 : Below w3.heap.size w3 w4 := hw4 ▸ aA w3 _;have hs3 : w3.heap.size = w2.heap.size + 1 := by rw [<- hw3]; simp
    have hx4 : w4.heap[w3.heap.size]? = some (.cells #[.slice mo mn mcc, .map (some w2.heap.size)] 210) := by rw [<- hw4]; exact heap_alloc_new w3 _
    have hs4 : w3.heap.size < w4.heap.size := by rw [<- hw4]; simp
    have HM0 : Hid (aEo w4 w2.heap.size 0 (fun _ => none)) := hW_ (A0.below (by rw [<- hw3]; exact A0.new M7 3 w2) hb4);have HB4 : Hid (Below w2.heap.size w2 w4) := hW_ (hb3.trans (hb4.mono (by omega)));have HX4 := hW_ hx4;have HW3 := hW_ hw3;have HW4 := hW_ hw4;have HS3 := hW_ hs3;have hmk := @run_makeMap Tryz.prog;have hc1 := eA HB4.out _ _ c1;rw [<- hw4, <- hw3] at hc1;have hgg : w2.heap.size + 1 = w3.heap.size := hs3.symm;have HGG := hW_ hgg;clear ho2 hml hb2 hb3 hb4 hx4 hw3 hw4 hcl hs3 hgg;go_wp2_with (fail);rw [HW3.out, HW4.out, HGG.out];clear hc1 c0 c1 c2;go_loopw [19] (fun i wr => ∃ (k sz : Nat), k <= mn /\ i = .int .i64 k /\ sz <= k /\ aEo wr w2.heap.size sz (atM V.merges k) /\ fB w2.heap.size w4 wr /\ Below w2.heap.size w2 wr) (fun i _ => mn - (intOf i).toNat)
    case atStart => exact ⟨0, 0, Nat.zero_le _, rfl, Nat.le_refl _, HM0.out, fB.refl _ _, HB4.out⟩
    case round =>
      obtain ⟨k, sz, hk, rfl, hsz, hmp, hkp, hb⟩ := hrel;have HMp := hW_ hmp;have HKP := hW_ hkp;have HB := hW_ hb;have hxg := (hkp.block w3.heap.size hs4 (by have := HS3.out; omega)).trans HX4.out;have hsg := Nat.lt_of_lt_of_le hs4 hkp.size;have HXG := hW_ hxg;clear hmp hkp hb
      by_cases hlt : k < mn
      · have hkM : k < V.merges.length := by have := HML.out; omega
        have HB02 : Hid (Below w0.heap.size w0 wr) := hW_ (HB2.out.trans (HB.out.mono HB2.out.size));obtain ⟨b, of, hao, hce⟩ := (HV.out.below HB02.out).mrg.elem Mg.enc_len (by omega) (F2 hkM);have hok1 := HM.out.2.1.2.1 _ (List.mem_of_getElem? (F2 hkM));obtain ⟨⟨l, r, o, d⟩, hseq⟩ : ∃ m, mg V.merges k = m := ⟨_, rfl⟩;have HSEQ := hW_ hseq;rw [hseq] at hce hok1;obtain ⟨hl, hr, _⟩ := hok1;have ⟨l0, l1, _⟩ := vB.1 hl;have ⟨r0, r1, _⟩ := vB.1 hr;have ht4 := HM.out.1.1;simp only at hao l0 l1 r0 r1;subst hao;have hwl : (Lit.int .i64 l).wf = true := by rw [gC]; omega
        have hwr : (Lit.int .i64 r).wf = true := by rw [gC]; omega
        have hwk : (Lit.int .i64 (k : Int)).wf = true := by rw [gC]; omega
        have d0 := hce 0 _ rfl;have d1 := hce 1 _ rfl;have d2 := hce 2 _ rfl;have d3 := hce 3 _ rfl;rw [Nat.add_zero] at d0;simp only at d0 d1 d2 d3;obtain ⟨wx, hwx⟩ : ∃ wx, wr.alloc (.cells #[.int .i64 l, .int .i64 r, .int .i64 o, .int .i64 d] 170) = wx := ⟨_, rfl⟩;have hbx : Below wr.heap.size wr wx := hwx ▸ aA wr _;have hxx : wx.heap[wr.heap.size]? = some (.cells #[.int .i64 l, .int .i64 r, .int .i64 o, .int .i64 d] 170) := by rw [<- hwx]; exact heap_alloc_new wr _
        obtain ⟨x0, x1, x2, x3⟩ := fH hxx;have hxg2 := (hbx.block w3.heap.size hsg).trans hxg;obtain ⟨y0, y1⟩ : wx.cell? ⟨w3.heap.size, 0, none⟩ = some (.slice mo mn mcc) /\ wx.cell? ⟨w3.heap.size, 1, none⟩ = some (.map (some w2.heap.size)) := by simp [World.cell?, hxg2]
        obtain ⟨w5, hup, hm5, hg5⟩ := A0.update (V := M7) (s := (l, r)) (c := (k : Int)) (P := Tryz.prog) (t := 208) (w := wx.drew) Tryz.underlying208 Tryz.underlying3 (A0.below HMp.out (hbx.drew)) ⟨hwl, hwr⟩ hwk (by unfold maxLen; omega);have HWX := hW_ hwx;have HBX : Hid (Below w2.heap.size w2 wx) := hW_ (HB.out.trans (hbx.mono HB.out.size));have HKX := hW_ (HKP.out.below hbx);clear hce hseq hwx hxx hxg hxg2 hbx hl hr l0 l1 r0 r1;have hup2 : (Instr.mapUpdate 208 (.map (some w2.heap.size)) (.agg #[.int .i64 l, .int .i64 r]) (.int .i64 (k : Int))).run Tryz.prog wx.drew = .ok () w5 := hup;have hm5b : aEo w5 w2.heap.size (if (atM V.merges k (l, r)).isSome then sz else sz + 1) (atM V.merges (k + 1)) := by rw [xS, HSEQ.out]; exact hm5
        have HM5 := hW_ hm5b;have HG5 := hW_ hg5;clear hup hm5 hm5b hg5;go_wp2_with (fail);rw [HWX.out];go_region
        all_goals (go_wp2_with (fail)
                   go_roundw
                   case rel => exact ⟨k + 1, _, by omega, by go_num, by split <;> omega, HM5.out, HKX.out.grownMap HG5.out, (HBX.out.drew).grown HG5.out HBX.out.size (fun q hq => by simp at hq; omega)⟩
                   case measure => simp [intOf]; omega)
      · go_wp2_with (fail);refine bodyPost_ret (v := .tuple #[.pointer (some ⟨w3.heap.size, 0, none⟩), .int .i64 0]) ?_ rfl ⟨.inr ⟨HM.out, w3.heap.size, rfl, ?_, ?_⟩, ?_⟩
        · simp [results, Tryz.results108, go_sem]
        · have := HB2.out.size; have := HB0.out.size; have := HS3.out; omega
        · refine ⟨mo, mcc, w2.heap.size, sz, by rw [HML.out]; exact hxg, iA.mono (iA.keepG (HO2.out.below HB4.out) HKP.out fun q hq => by have := (World.ownsRow.lt HO2.out q hq).2; omega) (by have := HB1.out.size; have := HB0.out.size; omega), atM_len HMp.out (by have := HML.out; omega), by have := HB2.out.size; have := HB0.out.size; omega, by have := HB.out.size; have := HS3.out; omega⟩
        · exact HB0.out.trans ((HB2.out.trans (HB.out.mono HB2.out.size)).mono HB0.out.size)
def ECs (T:List ByteArray) (tv:Value) (pg k:Nat) (cs:Array Value):Prop:=
 cs.size=258/\cs[0]?=some tv/\cs[1]?=some (.pointer (some ⟨pg,0,none⟩))/\∀i,i<k->cs[2+i]?=some (.int .i64 (ofT T (one i)))
theorem ECs.next {T:List ByteArray} {tv:Value} {pg k:Nat} {cs:Array Value} (h:Hid (ECs T tv pg k cs)) (hk:k<256):Hid (ECs T tv pg (k+1) (cs.setIfInBounds (2+k) (.int .i64 (ofT T (one k))))):=by
 obtain⟨h1,h2,h3,h4⟩:=h.out;refine hW_ ⟨by simpa using h1,?_,?_,fun i hi=> ?_⟩
 ·rw[Array.getElem?_setIfInBounds_ne (by omega)];exact h2
 ·rw[Array.getElem?_setIfInBounds_ne (by omega)];exact h3
 ·by_cases e:i=k
  ·subst e;rw[Array.getElem?_setIfInBounds_self_of_lt (by omega)]
  ·rw[Array.getElem?_setIfInBounds_ne (by omega)];exact h4 i (by omega)
theorem rA {w:World} {g i:Nat} {cs:Array Value} {v:Value} {t:TypeId} (h:w.heap[g]?=some (.cells cs t)):(w.setCell ⟨g,i,none⟩ v).heap[g]?=some (.cells (cs.setIfInBounds i v) t):=by
 simp[World.setCell,Array.getElem?_modify,h]
theorem mO.keep {w w':World} {base g:Nat} {M:List Mg} (h:mO w base g M) (hk:∀q,base<=q->q<w.heap.size->w'.heap[q]?=w.heap[q]?) (hs:w.heap.size<=w'.heap.size):mO w' base g M:=by
 obtain⟨lo,mo,mc,mb,sz,h1,h2,h3,h4,h5⟩:=h;have hg:g<w.heap.size:=(Array.getElem?_eq_some_iff.1 h1).1;exact⟨lo,mo,mc,mb,sz,(hk g lo hg).trans h1,jA h2 (fun q hq=>hk q (World.ownsRow.lt h2 q hq).1 (World.ownsRow.lt h2 q hq).2),A0.stay h3 (hk mb h4 h5),h4,by omega⟩
theorem mO.mono {w:World} {base base' g:Nat} {M:List Mg} (h:mO w base g M) (hb:base'<=base):mO w base' g M:=by
 obtain⟨lo,mo,mc,mb,sz,h1,h2,h3,h4,h5⟩:=h;exact⟨by omega,mo,mc,mb,sz,h1,iA.mono h2 hb,h3,by omega,h5⟩
structure aT (w:World) (base g:Nat) (V:Vc):Prop where
 lo:base<=g
 tab:∃cs to_ tcc pg,w.heap[g]?=some (.cells cs 176)/\ECs V.tokens (.slice to_ V.tokens.length tcc) pg 256 cs/\iA J4 1 9 w base (.slice to_ V.tokens.length tcc) V.tokens/\mO w base pg V.merges
def EncPost (V:Vc) (w:World) (e:Ending) (w':World):Prop:=
 ((¬May V/\e= .returned (.tuple #[.pointer none, .int .i64 2]))\/(May V/\∃g,e= .returned (.tuple #[.pointer (some ⟨g,0,none⟩), .int .i64 0])/\aT w' w.heap.size g V))/\Below w.heap.size w w'
theorem sW {V : Vc} {dd : Vd} (w : World) (hV : xE w dd V) (hok : VOk V) :
    Calls Tryz.prog 66 #[dd.val] w (EncPost V w) := by
  obtain ⟨ta, tn, tc, ma, mn, mc, sa, sn, sc⟩ := dd;obtain ⟨w0, hw0⟩ : ∃ w0, w.alloc (.cells #[.slice ta tn tc, .slice ma mn mc, .slice sa sn sc] 26) = w0 := ⟨_, rfl⟩;have hb0 : Below w.heap.size w w0 := hw0 ▸ aA w _;have hx0 : w0.heap[w.heap.size]? = some (.cells #[.slice ta tn tc, .slice ma mn mc, .slice sa sn sc] 26) := by rw [<- hw0]; exact heap_alloc_new w _
  have hs0 : w.heap.size < w0.heap.size := by rw [<- hw0]; simp
  obtain ⟨c0, c1, c2⟩ := A4 hx0;have HV := hW_ (hV.below hb0);have HB0 := hW_ hb0;have HX0 := hW_ hx0;have HW0 := hW_ hw0;have HLT := hW_ hV.tok.count;have hpn := uT (dd := ⟨ta, tn, tc, ma, mn, mc, sa, sn, sc⟩) w0 HV.out hok;clear hV hb0 hx0 hw0;go_enter Tryz.func66, Tryz.ntmps66;go_wp2_with (fail);rw [HW0.out];refine hpn.mono ?_
  rintro e w1 ⟨⟨hno, rfl⟩ | ⟨hmay, pg, rfl, hpt⟩, hb1⟩
  · have HF := hW_ hno;have HB1 := hW_ hb1;clear hb1 hno hpn;go_wp2_with (fail);refine bodyPost_ret (v := .tuple #[.pointer none, .int .i64 2]) ?_ rfl ⟨.inl ⟨HF.out, rfl⟩, HB0.out.trans (HB1.out.mono HB0.out.size)⟩
    simp [results, Tryz.results66, go_sem]
  · have HM := hW_ hmay;have HB1 := hW_ hb1;clear c0 c1 c2;obtain ⟨c0, c1, c2⟩ := A4 ((HB1.out.block w.heap.size hs0).trans HX0.out);have htn : tn <= 4096 := by have h1 := HM.out.1.1; have := HLT.out; omega
    have hcl := cH w1 ((HV.out.below HB1.out).tok.flat) (by show tn <= 1048576; omega);clear hb1 hmay hpn;go_wp2_with (fail);refine hcl.mono ?_
    rintro e w2 ⟨v2, rfl, ho2, hb2⟩;obtain ⟨to_, tcc, rfl, _⟩ := ho2.sl;have hml : V.tokens.length = tn := HLT.out;rw [hml] at ho2;have HO2 := hW_ ho2;have HPT := hW_ hpt;rw [hml];have HML := hW_ hml;have HB2 := hW_ (HB1.out.trans (hb2.mono HB1.out.size));have HB12 := hW_ hb2;obtain ⟨cs0, hcs0⟩ : ∃ cs0, (Tryz.zeroCells176.setIfInBounds 0 (Value.slice to_ tn tcc)).setIfInBounds 1 (Value.pointer (some ⟨pg, 0, none⟩)) = cs0 := ⟨_, rfl⟩;have hz0 : Tryz.zeroCells176.size = 258 := by kernel_rfl
    have hz1 : cs0.size = 258 := by rw [<- hcs0]; simp [hz0]
    have hz2 : cs0[0]? = some (Value.slice to_ tn tcc) := by rw [<- hcs0]; simp [hz0]
    have hz3 : cs0[1]? = some (Value.pointer (some ⟨pg, 0, none⟩)) := by rw [<- hcs0]; simp [hz0]
    obtain ⟨w3, hw3⟩ : ∃ w3, w2.alloc (.cells cs0 176) = w3 := ⟨_, rfl⟩;have hb3 : Below w2.heap.size w2 w3 := hw3 ▸ aA w2 _;have hx3 : w3.heap[w2.heap.size]? = some (.cells cs0 176) := by rw [<- hw3]; exact heap_alloc_new w2 _
    have hs3 : w2.heap.size < w3.heap.size := by rw [<- hw3]; simp
    have HX3 := hW_ hx3;have HB3 := hW_ hb3;have HW3 := hW_ hw3;have HCS := hW_ hcs0;have HZ := hW_ (And.intro hz1 (And.intro hz2 hz3));clear hcl ho2 hpt hml hb2 hb3 hx3 hw3 hcs0 hz0 hz1 hz2 hz3;go_wp2_with (fail);rw [HCS.out, HW3.out];clear c0 c1 c2;go_loopw [22] (fun i wr => ∃ (k : Nat) (cs : Array Value), k <= 256 /\ i = .int .i64 k /\ wr.heap[w2.heap.size]? = some (.cells cs 176) /\ Hid (ECs V.tokens (.slice to_ tn tcc) pg k cs) /\ fB w2.heap.size w3 wr /\ Below w2.heap.size w2 wr) (fun i _ => 256 - (intOf i).toNat)
    case atStart => exact ⟨0, cs0, by omega, rfl, HX3.out, hW_ ⟨HZ.out.1, HZ.out.2.1, HZ.out.2.2, fun i h => by omega⟩, fB.refl _ _, HB3.out⟩
    case round =>
      obtain ⟨k, cs, hk, rfl, hxg, HC, hkp, hb⟩ := hrel;have HXG := hW_ hxg;have HKP := hW_ hkp;have HB := hW_ hb;have hsg := Nat.lt_of_lt_of_le hs3 hkp.size;have HBW : Hid (Below w0.heap.size w0 wr) := hW_ (HB2.out.trans (hb.mono HB2.out.size));obtain ⟨c0, c1, c2⟩ := A4 ((HBW.out.block w.heap.size hs0).trans HX0.out);clear hxg hkp hb
      by_cases hlt : k < 256
      · have hw8 : IntKind.u8.wrap (k : Int) = (k : Int) := by rw [IntKind.wrap_u8]; omega
        have hcv : (convert 113 9 (.slice (some ⟨wr.heap.size, 0, none⟩) 1 1)).run Tryz.prog (wr.alloc (.cells #[.int .u8 (k : Int)] 5)).drew = .ok (.string (one k)) (wr.alloc (.cells #[.int .u8 (k : Int)] 5)).drew := wK wr.drew k;obtain ⟨old, hold⟩ : ∃ old, cs[2 + k]? = some old := ⟨_, Array.getElem?_eq_getElem (by have := HC.out.1; omega)⟩
        have hof : ∀ w', Below wr.heap.size wr w' -> Calls Tryz.prog 109 #[.agg #[.slice ta tn tc, .slice ma mn mc, .slice sa sn sc], .string (one k)] w' fun e w9 => e = .returned (.int .i64 (ofT V.tokens (one k))) /\ Below wr.heap.size wr w9 /\ w9.cell? ⟨w2.heap.size, 2 + k, none⟩ = some old /\ w9.frozen? ⟨w2.heap.size, 2 + k, none⟩ = false := fun w' hb' =>
          (of_calls (d := ⟨ta, tn, tc, ma, mn, mc, sa, sn, sc⟩) (one k) w' ((HV.out.below HBW.out).below hb')).mono fun e w9 ⟨h1, h2⟩ => by
            have h3 := hb'.trans (h2.mono hb'.size);have h4 := (h3.block w2.heap.size hsg).trans HXG.out;exact ⟨h1, h3, by simp [World.cell?, h4, hold], by simp [World.frozen?, h4]⟩
        have hkb : (k : Int) < 256 := by omega
        have hwlt : w.heap.size < wr.heap.size := Nat.lt_of_lt_of_le hs0 HBW.out.size;obtain ⟨e0, e1, e2⟩ : _ /\ _ /\ _ := ⟨eA (aA wr (.cells #[.int .u8 (k : Int)] 5)) _ _ c0, eA (aA wr (.cells #[.int .u8 (k : Int)] 5)) _ _ c1, eA (aA wr (.cells #[.int .u8 (k : Int)] 5)) _ _ c2⟩;have hkc : (2 : Nat) + k * 1 = 2 + k := by omega
        clear hold;go_wp2_with (fail)
        go_region_with (first
          | (go_at_call 109; refine (hof _ (by exact ((Below.refl _ _).alloc (Nat.le_refl _) _).drew)).mono ?_; rintro e w9 ⟨rfl, hb9, hc9, hf9⟩))
        all_goals (have hst := rA (i := 2 + k) (v := .int .i64 (ofT V.tokens (one k))) ((hb9.block w2.heap.size hsg).trans HXG.out)
                   have HST := hW_ hst;have HB9 := hW_ hb9;clear hst hb9;go_wp2_with (fail);go_roundw
                   case rel => exact ⟨k + 1, _, by omega, by go_num, HST.out, ECs.next HC hlt, (HKP.out.below HB9.out).set _ _, (HB.out.trans (HB9.out.mono HB.out.size)).setCell (Nat.le_refl _) _⟩
                   case measure => simp [intOf]; omega)
      · obtain rfl : k = 256 := by omega
        go_wp2_with (fail);refine bodyPost_ret (v := .tuple #[.pointer (some ⟨w2.heap.size, 0, none⟩), .int .i64 0]) ?_ rfl ⟨.inr ⟨HM.out, w2.heap.size, rfl, ?_⟩, ?_⟩
        · simp [results, Tryz.results66, go_sem]
        · have g1 := HB1.out.size;have g2 := HB0.out.size;have g3 := HB2.out.size;refine ⟨by omega, cs, to_, tcc, pg, HXG.out, by rw [HML.out]; exact HC.out, ?_, ?_⟩
          · rw [HML.out];exact iA.mono (base := w1.heap.size) (iA.keepG (HO2.out.below HB3.out) HKP.out fun q hq => by have := (World.ownsRow.lt HO2.out q hq).2; omega) (by omega)
          · have s1 := HB12.out.size;have s2 := HB3.out.size;have s3 := HKP.out.size;exact mO.mono (HPT.out.keep (fun q h1 h2 => (HKP.out.block q (by omega) (by omega)).trans ((HB3.out.block q (by omega)).trans (HB12.out.block q h2))) (by omega)) g2
        · exact HB0.out.trans ((HB2.out.trans (HB.out.mono HB2.out.size)).mono HB0.out.size)
open Go
def fK (C:Ch) (i:Nat):Int:=match C[i+1]? with | some c=>(c.1:Int) | none=> -1
def jH (C:Ch) (i:Nat):Int:=if i=0 then -1 else match C[i-1]? with | some c=>(c.1:Int) | none=> -1
structure Lnk (n:Nat) (C:Ch) (Rw Lf Rt:List Int):Prop where
 ok:I7 C
 lt:∀c∈C,c.1<n
 lw:Rw.length=n
 ll:Lf.length=n
 lr:Rt.length=n
 row:∀(i p:Nat) (a:Int),C[i]?=some (p,a)->Rw[p]?=some a
 left:∀(i p:Nat) (a:Int),C[i]?=some (p,a)->Lf[p]?=some (jH C i)
 right:∀(i p:Nat) (a:Int),C[i]?=some (p,a)->Rt[p]?=some (fK C i)
def agI (M:List Mg) (C:Ch) (x:Int):Option (Int×Int):=if 0<=x then agF M C x.toNat else none
theorem qJ (M:List Mg) (C:Ch) (p:Nat):agI M C (p:Int)=agF M C p:=by simp[agI]
def aQ (Lf:List Int) (nx:Int) (p:Nat):List Int:=if nx= -1 then Lf else Lf.set nx.toNat p
theorem rF {C:Ch} (hc:I7 C) {i j:Nat} {c d:Nat×Int} (h1:C[i]?=some c) (h2:C[j]?=some d) (e:c.1=d.1):i=j:=by
 have hi:=(List.getElem?_eq_some_iff.1 h1).1;have hj:=(List.getElem?_eq_some_iff.1 h2).1;have g1:C[i]=c:=(List.getElem?_eq_some_iff.1 h1).2;have g2:C[j]=d:=(List.getElem?_eq_some_iff.1 h2).2;rcases Nat.lt_trichotomy i j with h | h | h
 ·have:=List.pairwise_iff_getElem.1 hc i j hi hj h;rw[g1,g2]at this;omega
 ·exact h
 ·have:=List.pairwise_iff_getElem.1 hc j i hj hi h;rw[g1,g2]at this;omega
theorem aDx {pre post:Ch} {p q:Nat} {a b o:Int} (i:Nat):(pre++(p,o)::post)[i]?=if i<pre.length then(pre++(p,a)::(q,b)::post)[i]? else if i=pre.length then some (p,o)else(pre++(p,a)::(q,b)::post)[i+1]? :=by
 by_cases h1:i<pre.length
 ·rw[if_pos h1,List.getElem?_append_left h1,List.getElem?_append_left h1]
 ·rw[if_neg h1,List.getElem?_append_right (by omega)]
  by_cases h2:i=pre.length
  ·rw[if_pos h2];subst h2;simp
  ·rw[if_neg h2,List.getElem?_append_right (by omega)];obtain⟨k,rfl⟩:∃k,i=pre.length+(k+1):=⟨i-pre.length-1,by omega⟩;rw[show pre.length+(k+1)-pre.length=k+1 by omega,show pre.length+(k+1)+1-pre.length=k+2 by omega];simp
section
variable {n:Nat} {pre post:Ch} {p q:Nat} {a b:Int} {Rw Lf Rt:List Int}
theorem Lnk.at0 (h:Lnk n (pre++(p,a)::(q,b)::post) Rw Lf Rt):Rw[p]?=some a/\Rt[p]?=some (q:Int)/\p<n/\q<n/\p<q/\Rt[q]?=some (fK (pre++(p,a)::(q,b)::post) (pre.length+1))/\Lf[p]?=some (jH (pre++(p,a)::(q,b)::post) pre.length):=by
 have e0:(pre++(p,a)::(q,b)::post)[pre.length]?=some (p,a):=by simp
 have e1:(pre++(p,a)::(q,b)::post)[pre.length+1]?=some (q,b):=by
  rw[List.getElem?_append_right (by omega)];simp
 refine⟨h.row _ _ _ e0,?_,h.lt _ (List.mem_of_getElem? e0),h.lt _ (List.mem_of_getElem? e1),?_,h.right _ _ _ e1,h.left _ _ _ e0⟩
 ·rw[h.right _ _ _ e0];simp only[fK,e1]
 ·have:=h.ok;unfold I7 at this;rw[List.pairwise_append]at this;exact(List.pairwise_cons.1 this.2.1).1 (q,b) (by simp)
theorem Lnk.merged (h:Lnk n (pre++(p,a)::(q,b)::post) Rw Lf Rt) (o nx:Int) (hnx:nx=fK (pre++(p,a)::(q,b)::post) (pre.length+1)):
  Lnk n (pre++(p,o)::post) (Rw.set p o) (aQ Lf nx p) (Rt.set p nx):=by
 obtain⟨C,hC⟩:∃C,pre++(p,a)::(q,b)::post=C:=⟨_,rfl⟩;have hat:=fun i=>aDx (pre:=pre) (post:=post) (p:=p) (q:=q) (a:=a) (b:=b) (o:=o) i
 have hok':I7 (pre++(p,o)::post):=U6 (o:=o) h.ok;have e0:C[pre.length]?=some (p,a):=by rw[<-hC];simp
 have e1:C[pre.length+1]?=some (q,b):=by rw[<-hC,List.getElem?_append_right (by omega)];simp
 rw[hC]at h hnx;have hpn:p<n:=h.lt _ (List.mem_of_getElem? e0);simp only[hC]at hat;have old:∀(i x:Nat) (c:Int),(pre++(p,o)::post)[i]?=some (x,c)->i≠pre.length->∃j,C[j]?=some (x,c)/\x≠p/\x≠q/\(i<pre.length->j=i)/\(pre.length<i->j=i+1):=fun i x c hi hne=>by
  rw[hat i]at hi
  by_cases h1:i<pre.length
  ·rw[if_pos h1]at hi;refine⟨i,hi,fun e=> ?_,fun e=> ?_,fun _=>rfl,fun h2=>by omega⟩
   ·have:=rF h.ok hi e0 e;omega
   ·have:=rF h.ok hi e1 e;omega
  ·rw[if_neg h1,if_neg hne]at hi;refine⟨i+1,hi,fun e=> ?_,fun e=> ?_,fun h2=>by omega,fun _=>rfl⟩
   ·have:=rF h.ok hi e0 e;omega
   ·have:=rF h.ok hi e1 e;omega
 have self:∀(x:Nat) (c:Int),(pre++(p,o)::post)[pre.length]?=some (x,c)->x=p/\c=o:=fun x c hi=>by
  rw[hat,if_neg (by omega),if_pos rfl]at hi;simp only[Option.some.injEq,Prod.mk.injEq]at hi;exact⟨hi.1.symm,hi.2.symm⟩
 refine⟨hok',fun c hc=> ?_,by rw[List.length_set];exact h.lw,?_,by rw[List.length_set];exact h.lr,fun i x c hi=> ?_,fun i x c hi=> ?_,fun i x c hi=> ?_⟩
 ·obtain⟨i,hi,rfl⟩:=List.getElem_of_mem hc;have hi':=List.getElem?_eq_getElem hi
  by_cases hne:i=pre.length
  ·subst hne;obtain⟨h1,_⟩:=self _ _ hi';exact Nat.lt_of_le_of_lt (Nat.le_of_eq h1) hpn
  ·obtain⟨j,h1,_⟩:=old i _ _ hi' hne;exact h.lt _ (List.mem_of_getElem? h1)
 ·unfold aQ;split
  ·exact h.ll
  ·rw[List.length_set];exact h.ll
 ·by_cases hne:i=pre.length
  ·subst hne;obtain⟨rfl,rfl⟩:=self _ _ hi;rw[List.getElem?_set_self (by rw[h.lw];exact hpn)]
  ·obtain⟨j,h1,h2,_⟩:=old i _ _ hi hne;rw[List.getElem?_set_ne (by omega)];exact h.row _ _ _ h1
 ·
  have hprv:∀(j:Nat),0<j->∀(y:Nat) (d:Int),C[j-1]?=some (y,d)->jH C j=(y:Int):=fun j h0 y d hj=>by
   unfold jH;rw[if_neg (by omega),hj]
  by_cases hne:i=pre.length
  ·subst hne;obtain⟨rfl,rfl⟩:=self _ _ hi;have hp':jH (pre++(x,c)::post) pre.length=jH C pre.length:=by
    unfold jH
    by_cases h0:pre.length=0
    ·rw[if_pos h0,if_pos h0]
    ·rw[if_neg h0,if_neg h0,hat,if_pos (by omega)]
   rw[hp'];have h1:=h.left _ _ _ e0;unfold aQ
   by_cases h2:nx= -1
   ·rw[if_pos h2];exact h1
   ·rw[if_neg h2];have h3:nx.toNat≠x:=fun e=>by
     rw[hnx]at h2 e;unfold fK at h2 e
     cases h4:C[pre.length+1+1]? with
     | none=>rw[h4]at h2;exact h2 rfl
     | some c=>
      rw[h4]at e;have:=rF h.ok h4 e0 (by simpa using e);omega
    rw[List.getElem?_set_ne h3];exact h1
  ·obtain⟨j,h1,h2,h2q,h3,h4⟩:=old i _ _ hi hne;have hl:=h.left _ _ _ h1
   by_cases h5:i<pre.length
   ·obtain rfl:=h3 h5;have h6:jH (pre++(p,o)::post) j=jH C j:=by
     unfold jH
     by_cases h0:j=0
     ·rw[if_pos h0,if_pos h0]
     ·rw[if_neg h0,if_neg h0,hat,if_pos (by omega)]
    rw[h6];unfold aQ
    by_cases h7:nx= -1
    ·rw[if_pos h7];exact hl
    ·rw[if_neg h7];have h8:nx.toNat≠x:=fun e=>by
      rw[hnx]at h7 e;unfold fK at h7 e
      cases h9:C[pre.length+1+1]? with
      | none=>rw[h9]at h7;exact h7 rfl
      | some c=>
       rw[h9]at e;have:=rF h.ok h9 h1 (by simpa using e);omega
     rw[List.getElem?_set_ne h8];exact hl
   ·obtain rfl:=h4 (by omega)
    by_cases h6:i=pre.length+1
    ·subst h6;have hn2:nx=(x:Int):=by rw[hnx];unfold fK;rw[h1]
     have hpv:jH (pre++(p,o)::post) (pre.length+1)=(p:Int):=by
      unfold jH;rw[if_neg (by omega),show pre.length+1-1=pre.length by omega,hat,if_neg (by omega),if_pos rfl]
     rw[hpv,hn2];unfold aQ;rw[if_neg (by omega),Int.toNat_natCast,List.getElem?_set_self (by rw[h.ll];exact h.lt _ (List.mem_of_getElem? h1))]
    ·have hpv:jH (pre++(p,o)::post) i=jH C (i+1):=by
      unfold jH;rw[if_neg (by omega),if_neg (by omega),hat,if_neg (by omega),if_neg (by omega),show i-1+1=i+1-1 by omega]
     rw[hpv];unfold aQ
     by_cases h7:nx= -1
     ·rw[if_pos h7];exact hl
     ·rw[if_neg h7];have h8:nx.toNat≠x:=fun e=>by
       rw[hnx]at h7 e;unfold fK at h7 e
       cases h9:C[pre.length+1+1]? with
       | none=>rw[h9]at h7;exact h7 rfl
       | some c=>
        rw[h9]at e;have:=rF h.ok h9 h1 (by simpa using e);omega
      rw[List.getElem?_set_ne h8];exact hl
 ·
  by_cases hne:i=pre.length
  ·subst hne;obtain⟨rfl,rfl⟩:=self _ _ hi;rw[List.getElem?_set_self (by rw[h.lr];exact hpn)];have:fK (pre++(x,c)::post) pre.length=nx:=by
    rw[hnx];unfold fK;rw[hat,if_neg (by omega),if_neg (by omega)]
   rw[this]
  ·obtain⟨j,h1,h2,h2q,h3,h4⟩:=old i _ _ hi hne;rw[List.getElem?_set_ne (by omega),h.right _ _ _ h1];congr 1
   by_cases h5:i<pre.length
   ·obtain rfl:=h3 h5;unfold fK
    by_cases h6:j+1<pre.length
    ·rw[hat,if_pos h6]
    ·have h7:j+1=pre.length:=by omega
     rw[hat,if_neg h6,if_pos h7,h7,e0]
   ·obtain rfl:=h4 (by omega);unfold fK;rw[hat,if_neg (by omega),if_neg (by omega)]
end
theorem aBE {M:List Mg} {pre post:Ch} {p q:Nat} {a b o:Int} (hc:I7 (pre++(p,a)::(q,b)::post)) (x:Nat) (hp:x≠p) (hr:∀c,pre.getLast?=some c->c.1≠x):
  agF M (pre++(p,o)::post) x=if x=q then none else agF M (pre++(p,a)::(q,b)::post) x:=by
 have hc':=U6 (o:=o) hc
 by_cases hq:x=q
 ·rw[if_pos hq];subst hq;refine agF_no fun c hcm e=> ?_
  unfold I7 at hc;rw[List.pairwise_append]at hc;obtain⟨h1,h2,h3⟩:=hc;rw[List.pairwise_cons,List.pairwise_cons]at h2;rcases List.mem_append.1 hcm with hm | hm
  ·have:=h3 c hm (x,b) (by simp);simp only at this;omega
  ·rcases List.mem_cons.1 hm with rfl | hm
   ·exact hp e.symm
   ·have:=h2.2.1 c hm;simp only at this;omega
 ·rw[if_neg hq]
  by_cases hm:∃c∈pre,c.1=x
  ·exact(aCJ hc hr hm).symm
  ·have hm':∀c∈pre,c.1≠x:=fun c h1 h2=>hm ⟨c,h1,h2⟩
   rw[S2 hm' (by simp),S2 hm' (by simp),D2,if_neg hp]
   cases post with
   | nil=>simp[agF]
   | cons s post=>
    obtain⟨s,c⟩:=s;rw[D2,if_neg hp,D2,if_neg hq]
theorem aDE {R:List Int} (h0:0<R.length) (Lf Rt:List Int) (hl:Lf=(List.range R.length).map (fun(i:Nat)=>(i:Int)-1)) (hr:Rt=((List.range R.length).map (fun(i:Nat)=>(i:Int)+1)).set (R.length-1) (-1)):Lnk R.length (mJ R) R Lf Rt:=by
 subst hl hr;have hat:∀(i p:Nat) (a:Int),(mJ R)[i]?=some (p,a)->p=i/\R[i]?=some a/\i<R.length:=fun i p a h=>by
  have hi:=(List.getElem?_eq_some_iff.1 h).1;rw[xK]at hi;rw[eO (List.getElem?_eq_getElem hi)]at h;simp only[Option.some.injEq,Prod.mk.injEq]at h;exact⟨h.1.symm,by rw[List.getElem?_eq_getElem hi,h.2],hi⟩
 refine⟨chOf_ok R,fun c hc=> ?_,rfl,by simp,by simp,fun i p a h=> ?_,fun i p a h=> ?_,fun i p a h=> ?_⟩
 ·obtain⟨i,hi,rfl⟩:=List.getElem_of_mem hc;obtain⟨h1,_,h2⟩:=hat i _ _ (List.getElem?_eq_getElem hi);exact Nat.lt_of_le_of_lt (Nat.le_of_eq h1) h2
 ·obtain⟨rfl,h1,_⟩:=hat i p a h;exact h1
 ·obtain⟨rfl,h1,h2⟩:=hat i p a h;simp only[List.getElem?_map,List.getElem?_range h2,Option.map_some,Option.some.injEq];unfold jH
  by_cases h3:p=0
  ·subst h3;simp
  ·rw[if_neg h3,eO (List.getElem?_eq_getElem (show p-1<R.length by omega))];simp only;omega
 ·obtain⟨rfl,h1,h2⟩:=hat i p a h;unfold fK
  by_cases h3:p+1<R.length
  ·rw[List.getElem?_set_ne (by omega),eO (List.getElem?_eq_getElem h3)];simp only[List.getElem?_map,List.getElem?_range h2,Option.map_some];simp
  ·have h4:p=R.length-1:=by omega
   rw[<-h4,List.getElem?_set_self (by simp;omega),List.getElem?_eq_none (by rw[xK];omega)]
theorem ch_split {C:Ch} {i p q:Nat} {a b:Int} (h1:C[i]?=some (p,a)) (h2:C[i+1]?=some (q,b)):∃pre post,C=pre++(p,a)::(q,b)::post/\pre.length=i:=by
 have hi:=(List.getElem?_eq_some_iff.1 h2).1;refine⟨C.take i,C.drop (i+2),?_,by simp;omega⟩;have e1:C.drop i=(p,a)::C.drop (i+1):=by
  rw[List.drop_eq_getElem_cons (by omega)];rw[(List.getElem?_eq_some_iff.1 h1).2]
 have e2:C.drop (i+1)=(q,b)::C.drop (i+2):=by
  rw[List.drop_eq_getElem_cons hi];rw[(List.getElem?_eq_some_iff.1 h2).2]
 rw[<-e2,<-e1,List.take_append_drop]
structure Way (M:List Mg) (R:List Int) (C:Ch):Prop where
 run:J3 M C.length (C.map (·.2))=J3 M R.length R
 zero:∃a,C[0]?=some (0,a)
theorem Way.start (M:List Mg) {R:List Int} (h:0<R.length):Way M R (mJ R):=
 ⟨by rw[xK,chOf_map],⟨_,eO (List.getElem?_eq_getElem h)⟩⟩
theorem Way.step {M:List Mg} {R:List Int} {pre post:Ch} {p q:Nat} {a b o:Int} (h:Way M R (pre++(p,a)::(q,b)::post)) (hs:rE M ((pre++(p,a)::(q,b)::post).map (·.2))=some ((pre++(p,o)::post).map (·.2))):Way M R (pre++(p,o)::post):=by
 refine⟨?_,?_⟩
 ·have h1:=aDl hs;have h2:=h.run;simp only[List.length_map]at h1;rw[<-h1,h2]
 ·obtain⟨c,hc⟩:=h.zero
  cases pre with
  | nil=>simp at hc |-;exact hc.1
  | cons x pre=>simp at hc |-;exact⟨c,hc⟩
theorem Way.done {M:List Mg} {R:List Int} {C:Ch} (h:Way M R C) (hn:S6 M (C.map (·.2))):C.map (·.2)=J3 M R.length R:=by
 rw[<-h.run,gN (jM hn)]
theorem aEk {M:List Mg} {R:List Int} {C:Ch} (hw:Way M R C) (hc:I7 C) {p:Int} {o d:Int} (h:agI M C p=some (o,d)) (hm:∀q o' d',agI M C q=some (o',d')->o<o'\/(o=o'/\p<=q)):
  ∃(pre post:Ch) (pn q:Nat) (a b:Int),p=(pn:Int)/\C=pre++(pn,a)::(q,b)::post/\Way M R (pre++(pn,d)::post):=by
 have hp:0<=p:=by
  unfold agI at h;split at h
  ·assumption
  ·cases h
 obtain⟨pn,rfl⟩:∃pn:Nat,p=pn:=⟨p.toNat,by omega⟩;rw[qJ]at h;obtain⟨i,a,q,b,m,h1,h2,h3,h4,h5,h6⟩:=agF_best hc h (fun q o' d' hq=>by
  have:=hm (q:Int) o' d' (by rw[qJ];exact hq);omega)
 obtain⟨pre,post,rfl,hl⟩:=ch_split h1 h2;refine⟨pre,post,pn,q,a,b,rfl,rfl,hw.step (o:=d) ?_⟩;rw[mR h6,<-hl,<-h5];exact congrArg some (aDw (pre:=pre) (post:=post) (p:=pn) (q:=q) (a:=a) (b:=b) (o:=m.out)).symm
theorem agI_none {M:List Mg} {C:Ch} (hc:I7 C) (h:∀x,agI M C x=none):S6 M (C.map (·.2)):=aBD hc fun p=>by rw[<-qJ];exact h p
def agK (M:List Mg) (C:Ch) (k:Nat) (x:Int):Option (Int×Int):=if x<k then agI M C x else none
theorem agK_zero (M:List Mg) (C:Ch) (x:Int):agK M C 0 x=none:=by
 unfold agK agI
 by_cases h:x<(0:Nat)
 ·rw[if_pos h,if_neg (by omega)]
 ·rw[if_neg h]
theorem agK_succ (M:List Mg) (C:Ch) (k:Nat) (x:Int):agK M C (k+1) x=if x=k then agF M C k else agK M C k x:=by
 unfold agK
 by_cases h:x=k
 ·subst h;rw[if_pos (by omega),if_pos rfl,qJ]
 ·rw[if_neg h]
  by_cases h2:x<k
  ·rw[if_pos (by omega),if_pos h2]
  ·rw[if_neg (by omega),if_neg h2]
theorem agK_all {M:List Mg} {C:Ch} {n:Nat} (h:∀c∈C,c.1<n) (x:Int):agK M C n x=agI M C x:=by
 unfold agK
 by_cases h2:x<n
 ·rw[if_pos h2]
 ·rw[if_neg h2];unfold agI;rw[if_pos (by omega)];exact(agF_no fun c hc e=>by have:=h c hc;omega).symm
end Go.Proofs.YtahiballegpbgaaGreatDoor
