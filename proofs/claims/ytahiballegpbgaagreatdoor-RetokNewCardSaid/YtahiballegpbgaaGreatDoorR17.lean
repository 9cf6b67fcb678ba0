/- What the document says of code points, of scanners and of pieces, in plain Lean: no program here. -/
import Derived.Test.YtahiballegpbgaaGreatDoorR6
import Derived.Test.YtahiballegpbgaaGreatDoorR1
import Derived.Test.YtahiballegpbgaaGreatDoorR16
import Derived.Deep.AppendLies
import Derived.Deep.RegionLaw
import Derived.Deep.LoopGhost
set_option linter.unusedVariables false
set_option maxHeartbeats 4000000
set_option maxRecDepth 100000
namespace Go.Proofs.YtahiballegpbgaaGreatDoor
open Go
def tE (final:Bool) (n:Int):Nat->Int->Int->Int->List Int->Int×Int×Bool
 | 0,p,_,_,_=>(p,n,false)
 | _+1,_,_,_,[]=>if final then(-1,1,false)else(-1,0,true)
 | k+1,p,lo,hi,x::l=>if x<lo\/hi<x then(-1,1,false)else tE final n k (p*64+x % 64) 128 191 l
def uB (c:Int):Nat×Int×Int×Int:=
 if c<128 then(1,c,0,0)
 else if c<194\/244<c then(0,0,0,0)
 else if c<224 then(2,c % 32,128,191)
 else if c=224 then(3,0,160,191)
 else if c=237 then(3,c % 16,128,159)
 else if c<240 then(3,c % 16,128,191)
 else if c=240 then(4,0,144,191)
 else if c=244 then(4,c % 8,128,143)
 else(4,c % 8,128,191)
def dec (final:Bool):List Int->Int×Int×Bool
 | []=>(-1,0,true)
 | c::l=>if(uB c).1=0 then(-1,1,false)else tE final (uB c).1 ((uB c).1-1) (uB c).2.1 (uB c).2.2.1 (uB c).2.2.2 l
theorem aCA {final:Bool} {n:Int}:∀{k:Nat} {p lo hi:Int} {l:List Int},(n=(k:Int)+1\/(k:Int)+1<=n)->1<=n->
  let r:=tE final n k p lo hi l
  (r.2.2=true->final=false/\r.2.1=0)/\(r.2.2=false->1<=r.2.1/\r.2.1<=n/\(r.2.1=1\/(r.2.1=n/\k<=l.length)))
 | 0,p,lo,hi,l,_,h1=>by simp[tE,h1]
 | k+1,p,lo,hi,[],_,h1=>by
  cases final<;>simp[tE,h1]
 | k+1,p,lo,hi,x::l,h,h1=>by
  simp only[tE];split
  ·simp[h1]
  ·have ih:=aCA (final:=final) (n:=n) (k:=k) (p:=p*64+x % 64) (lo:=128) (hi:=191) (l:=l) (by omega) h1;refine⟨ih.1,fun h2=> ?_⟩;obtain⟨a,b,c⟩:=ih.2 h2;refine⟨a,b,c.imp_right fun⟨e,f⟩=>⟨e,by simp;omega⟩⟩
theorem Y5 (c:Int):(uB c).1<=4:=by
 unfold uB
 repeat' split
 all_goals simp
theorem lS {final:Bool} {b:List Int} (hb:b≠[]):((dec final b).2.2=true->final=false/\(dec final b).2.1=0)/\((dec final b).2.2=false->1<=(dec final b).2.1/\(dec final b).2.1<=b.length/\(dec final b).2.1<=4):=by
 cases b with
 | nil=>exact absurd rfl hb
 | cons c l=>
  simp only[dec];have h4:=Y5 c;split
  ·simp;omega
  ·next h0=>
   have h:=aCA (final:=final) (n:=((uB c).1:Int)) (k:=(uB c).1-1) (p:=(uB c).2.1) (lo:=(uB c).2.2.1) (hi:=(uB c).2.2.2) (l:=l) (by omega) (by omega);refine⟨h.1,fun h2=> ?_⟩;obtain⟨a,b',c'⟩:=h.2 h2;refine⟨a,?_,by omega⟩;simp only[List.length_cons];omega
structure Pt where
 code:Int
 cls:Int
 n:Int
 sure:Bool
instance :Inhabited Pt:=⟨⟨0,0,0,false⟩⟩
def wH (t:List Rg) (p:Int):Int:=match t.find? (fun r=>decide (r.lo<=p) && decide (p<=r.hi))with
 | some r=>r.cls
 | none=>0
def pB:Pt:=⟨-1,0,1,false⟩
def oN (t:List Rg):Nat->List Int->List Pt
 | 0,_=>[]
 | k+1,b=>if b= []then []else if(dec false b).2.2=true then b.map (fun _=>pB)
  else⟨(dec false b).1,wH t (dec false b).1,(dec false b).2.1,true⟩::oN t k (b.drop (dec false b).2.1.toNat)
def pts (t:List Rg) (b:List Int):List Pt:=oN t b.length b
theorem aL (t:List Rg) (k:Nat):oN t k []= []:=by cases k<;>simp[oN]
theorem yR (t:List Rg):∀{k j:Nat} {b:List Int},b.length<=k->b.length<=j->oN t k b=oN t j b
 | 0,j,b,h,_=>by
  have:b= []:=List.eq_nil_of_length_eq_zero (by omega);subst this;rw[aL,aL]
 | k+1,0,b,_,h=>by
  have:b= []:=List.eq_nil_of_length_eq_zero (by omega);subst this;rw[aL,aL]
 | k+1,j+1,b,h1,h2=>by
  simp only[oN]
  by_cases hb:b= []
  ·simp[hb]
  ·rw[if_neg hb,if_neg hb];split
   ·rfl
   ·next hm=>
    have hn:=(lS (final:=false) hb).2 (by simpa using hm);rw[yR t (k:=k) (j:=j) (b:=b.drop (dec false b).2.1.toNat) (by simp;omega) (by simp;omega)]
theorem xR (t:List Rg) {b:List Int} (hb:b≠[]) (hm:(dec false b).2.2=true):pts t b=b.map (fun _=>pB):=by
 unfold pts
 cases b with
 | nil=>exact absurd rfl hb
 | cons c l=>simp only[List.length_cons,oN];rw[if_neg (by simp),if_pos hm]
theorem F0 (t:List Rg) {b:List Int} (hb:b≠[]) (hm:(dec false b).2.2=false):
  pts t b=⟨(dec false b).1,wH t (dec false b).1,(dec false b).2.1,true⟩::pts t (b.drop (dec false b).2.1.toNat):=by
 have hn:=(lS (final:=false) hb).2 hm;unfold pts
 cases b with
 | nil=>exact absurd rfl hb
 | cons c l=>
  simp only[List.length_cons,oN];rw[if_neg (by simp),if_neg (by rw[hm];simp)];rw[yR t (k:=l.length) (j:=((c::l).drop (dec false (c::l)).2.1.toNat).length) (by simp only[List.length_drop,List.length_cons]at hn |-;omega) (Nat.le_refl _)]
theorem nN {t:List Rg} {P:List Int->List Pt->Prop} (h0:P [] []) (h1:∀b,b≠[]->(dec false b).2.2=true->P b (b.map (fun _=>pB)))
  (h2:∀b,b≠[]->(dec false b).2.2=false->P (b.drop (dec false b).2.1.toNat) (pts t (b.drop (dec false b).2.1.toNat))->P b (pts t b)) (b:List Int):P b (pts t b):=by
 induction hn:b.length using Nat.strongRecOn generalizing b with
 | _ n ih=>
  by_cases hb:b= []
  ·subst hb;exact h0
  ·cases hm:(dec false b).2.2 with
   | true=>rw[xR t hb hm];exact h1 b hb hm
   | false=>
    have h3:=(lS (final:=false) hb).2 hm;exact h2 b hb hm (ih _ (by simp only[List.length_drop];omega) _ rfl)
theorem aBY {t:List Rg} {b:List Int} (hb:b≠[]):0<(pts t b).length:=by
 cases hm:(dec false b).2.2 with
 | true=>rw[xR t hb hm];simp;exact List.length_pos_iff.2 hb
 | false=>rw[F0 t hb hm];simp
theorem sum_ones (l:List Int):(l.map (Pt.n∘fun _=>pB)).sum=(l.length:Int):=by
 induction l with
 | nil=>rfl
 | cons c l ih=>
  rw[List.map_cons,List.sum_cons,ih,List.length_cons];simp[pB];omega
def jB (L:List Pt) (n:Nat):Int:=((L.take n).map Pt.n).sum
theorem pts_n1 {t:List Rg} (b:List Int):∀p∈pts t b,1<=p.n:=by
 refine nN (P:=fun b L=>∀p∈L,1<=p.n) (by simp) ?_ ?_ b
 ·intro b _ _ p hp;obtain⟨_,_,rfl⟩:=List.mem_map.1 hp;simp[pB]
 ·intro b hb hm ih p hp;rw[F0 t hb hm]at hp;rcases List.mem_cons.1 hp with rfl | h
  ·exact((lS hb).2 hm).1
  ·exact ih p h
theorem aBX {t:List Rg} (b:List Int):((pts t b).map Pt.n).sum=(b.length:Int):=by
 refine nN (P:=fun b L=>(L.map Pt.n).sum=(b.length:Int)) (by simp) ?_ ?_ b
 ·intro b _ _;rw[List.map_map];exact sum_ones b
 ·intro b hb hm ih;have h3:=(lS (final:=false) hb).2 hm;rw[F0 t hb hm];simp only[List.map_cons,List.sum_cons,ih,List.length_drop];omega
theorem zV {L:List Pt} (h:∀p∈L,1<=p.n):(L.length:Int)<=(L.map Pt.n).sum:=by
 induction L with
 | nil=>simp
 | cons p L ih=>
  have h1:=h p (by simp);have h2:=ih fun q hq=>h q (by simp[hq])
  simp only[List.map_cons,List.sum_cons,List.length_cons];omega
theorem tF {t:List Rg} (b:List Int) (n:Nat):((min n (pts t b).length:Nat):Int)<=jB (pts t b) n/\jB (pts t b) n<=b.length:=by
 have h:=pts_n1 (t:=t) b;have hs:=aBX (t:=t) b;unfold jB;have e:(pts t b).map Pt.n=((pts t b).take n).map Pt.n++((pts t b).drop n).map Pt.n:=by rw[<-List.map_append,List.take_append_drop]
 have h1:=zV (L:=(pts t b).take n) fun p hp=>h p (List.mem_of_mem_take hp)
 have h2:=zV (L:=(pts t b).drop n) fun p hp=>h p (List.mem_of_mem_drop hp)
 rw[e,List.sum_append]at hs;rw[List.length_take]at h1;constructor
 ·exact h1
 ·omega
def A8 (L:List Pt):Nat:=(L.takeWhile (fun p=>p.sure)).length
def S5 (p:Pt):Prop:=(p.sure=false->p.code= -1/\p.cls=0/\p.n=1)/\ -1<=p.code/\0<=p.cls/\p.cls<=4
theorem clsOf_le {t:List Rg} (ht:oA t) (p:Int):0<=wH t p/\wH t p<=4:=by
 unfold wH
 cases h:t.find? (fun r=>decide (r.lo<=p) && decide (p<=r.hi))with
 | none=>simp
 | some r=>
  have:=ht.2.1 r (List.mem_of_find?_eq_some h);obtain⟨_,_,_,h1,h2⟩:=this;exact⟨by simp only;omega,by simp only;omega⟩
theorem nS {final:Bool} {n:Int}:∀{k:Nat} {p lo hi:Int} {l:List Int},0<=p->(∀x∈l,0<=x/\x<256)-> -1<=(tE final n k p lo hi l).1
 | 0,p,lo,hi,l,h,_=>by simp only[tE];omega
 | k+1,p,lo,hi,[],h,_=>by cases final<;>simp[tE]
 | k+1,p,lo,hi,x::l,h,hl=>by
  simp only[tE];split
  ·simp
  ·have:=hl x (by simp);exact nS (by omega) fun y hy=>hl y (by simp[hy])
theorem aBg {c:Int} (hc:0<=c):0<=(uB c).2.1:=by
 unfold uB
 repeat' split
 all_goals simp only
 all_goals omega
theorem dec_code {final:Bool} {b:List Int} (hb:∀x∈b,0<=x/\x<256): -1<=(dec final b).1:=by
 cases b with
 | nil=>simp[dec]
 | cons c l=>
  simp only[dec];split
  ·simp
  ·exact nS (aBg (hb c (by simp)).1) fun y hy=>hb y (by simp[hy])
theorem cY {t:List Rg} (ht:oA t) {b:List Int} (hb:∀x∈b,0<=x/\x<256):∀p∈pts t b,S5 p:=by
 refine nN (P:=fun b L=>(∀x∈b,0<=x/\x<256)->∀p∈L,S5 p) (by simp) ?_ ?_ b hb
 ·intro b _ _ _ p hp;obtain⟨_,_,rfl⟩:=List.mem_map.1 hp;simp[pB,S5]
 ·intro b h0 hm ih hb p hp;rw[F0 t h0 hm]at hp;rcases List.mem_cons.1 hp with rfl | h
  ·exact⟨by simp,dec_code hb,clsOf_le ht _⟩
  ·exact ih (fun x hx=>hb x (List.mem_of_mem_drop hx)) p h
theorem wR {t:List Rg} (b:List Int):∀(i:Nat) (p:Pt),(pts t b)[i]?=some p->(p.sure=true↔i<A8 (pts t b)):=by
 refine nN (P:=fun b L=>∀(i:Nat) (p:Pt),L[i]?=some p->(p.sure=true↔i<A8 L)) (by simp) ?_ ?_ b
 ·intro b hb _ i p hp;obtain⟨_,_,rfl⟩:=List.mem_map.1 (List.mem_of_getElem? hp);have:A8 (b.map (fun _=>pB))=0:=by
   unfold A8
   cases b<;>simp[pB]
  rw[this];simp[pB]
 ·intro b hb hm ih i p hp;rw[F0 t hb hm]at hp |-;have e:∀(q:Pt) (L:List Pt),q.sure=true->A8 (q::L)=A8 L+1:=fun q L h=>by unfold A8;simp[h]
  rw[e _ _ rfl]
  cases i with
  | zero=>simp at hp;subst hp;simp
  | succ i=>
   rw[List.getElem?_cons_succ]at hp;rw[ih i p hp];omega
open Go.RowKit
def SlB (w:World) (ao:Option Addr) (n cap:Nat) (A:List Int):Prop:=Sl w ao n cap (A.map (.int .u8))
theorem SlB.len {w:World} {ao:Option Addr} {n cap:Nat} {A:List Int} (h:SlB w ao n cap A):A.length=n:=by simpa using Sl.len h
theorem SlB.at_ {w:World} {ao:Option Addr} {n cap:Nat} {A:List Int} (h:SlB w ao n cap A) {i:Nat} (hi:i<n):
  ∃b o,ao=some ⟨b,o,none⟩/\w.cell? ⟨b,o+i,none⟩=some (.int .u8 (ix A i)):=
 Sl.at_ h i _ (by rw[List.getElem?_map,gF (by have:=h.len;omega)];rfl)
theorem SlB.below {w w':World} {ao:Option Addr} {n cap:Nat} {A:List Int} (h:SlB w ao n cap A) (hb:Below w.heap.size w w'):SlB w' ao n cap A:=Sl.below h hb
theorem SlB.drop {w:World} {ao:Option Addr} {n cap:Nat} {A:List Int} (h:SlB w ao n cap A) {k:Nat} (hk:k<=n):
  SlB w (if cap=k then ao else ao.map (·.add k)) (n-k) (cap-k) (A.drop k):=by
 unfold SlB;rw[List.map_drop];exact Sl.drop h hk
theorem wQ (a b:Nat) (ha:a<9223372036854775808) (hb:b<9223372036854775808):
  bits .or .i64 (a:Int) (b:Int)=((a ||| b:Nat):Int):=by
 have hx:a ||| b<2 ^ 63:=Nat.or_lt_two_pow (by omega) (by omega)
 have h1:(BitVec.ofInt 64 (a:Int)).toNat=a:=by
  rw[BitVec.ofInt_natCast,BitVec.toNat_ofNat];exact Nat.mod_eq_of_lt (by omega)
 have h2:(BitVec.ofInt 64 (b:Int)).toNat=b:=by
  rw[BitVec.ofInt_natCast,BitVec.toNat_ofNat];exact Nat.mod_eq_of_lt (by omega)
 show IntKind.i64.wrap ((BitVec.ofInt 64 (a:Int) ||| BitVec.ofInt 64 (b:Int)).toNat:Int)=_;rw[BitVec.toNat_or,h1,h2,IntKind.wrap_i64];omega
theorem or_low {p x:Int} (hp:0<=p) (hp2:p<33554432) (hx:0<=x):bits .or .i64 (wrap64 (p*64)) (x % 64)=p*64+x % 64:=by
 have hw:wrap64 (p*64)=p*64:=by
  unfold wrap64;omega
 rw[hw];obtain⟨a,rfl⟩:=Int.eq_ofNat_of_zero_le hp;obtain⟨b,hb⟩:=Int.eq_ofNat_of_zero_le (show 0<=x % 64 by omega);rw[hb,show((a:Int)*64)=((a*64:Nat):Int) by omega,wQ _ _ (by omega) (by omega),<-Nat.shiftLeft_eq a 6,<-Nat.shiftLeft_add_eq_or_of_lt (by omega)];simp[Nat.shiftLeft_eq]
def D5 (c:Int):Value:= .tuple #[.int .i64 (uB c).1, .int .i64 (uB c).2.1, .int .u8 (uB c).2.2.1, .int .u8 (uB c).2.2.2]
theorem aBf (c:Int) (h0:0<=c) (h1:c<256) (w:World):
  Calls Tryz.prog 254 #[.int .u8 c] w fun e w'=>e= .returned (D5 c)/\w=w':=by
 go_enter Tryz.func254,Tryz.ntmps254
 by_cases a1:c<128
 ·go_wp2_with (fail);refine bodyPost_ret (v:=D5 c) ?_ rfl ⟨rfl,rfl⟩
  simp[results,Tryz.results254,go_sem,D5,uB,a1]
 by_cases a2:c<194
 ·go_wp2_with (fail);refine bodyPost_ret (v:=D5 c) ?_ rfl ⟨rfl,rfl⟩
  simp[results,Tryz.results254,go_sem,D5,uB,Int.not_lt.2 a1,a2]
 by_cases a3:244<c
 ·go_wp2_with (fail);refine bodyPost_ret (v:=D5 c) ?_ rfl ⟨rfl,rfl⟩
  simp[results,Tryz.results254,go_sem,D5,uB,Int.not_lt.2 a1,a3]
 by_cases a4:c<224
 ·go_wp2_with (fail);refine bodyPost_ret (v:=D5 c) ?_ rfl ⟨rfl,rfl⟩
  simp[results,Tryz.results254,go_sem,D5,uB,Int.not_lt.2 a1,Int.not_lt.2 a2,Int.not_lt.2 a3,a4]
 by_cases a5:c=224
 ·subst a5;go_wp2_with (fail);refine bodyPost_ret (v:=D5 224) ?_ rfl ⟨rfl,rfl⟩
  simp[results,Tryz.results254,go_sem,D5,uB]
 by_cases a6:c=237
 ·subst a6;go_wp2_with (fail);refine bodyPost_ret (v:=D5 237) ?_ rfl ⟨rfl,rfl⟩
  simp[results,Tryz.results254,go_sem,D5,uB]
 by_cases a7:c<240
 ·have b5:(c==224)=false:=by simpa using a5
  have b6:(c==237)=false:=by simpa using a6
  go_wp2_with (fail);refine bodyPost_ret (v:=D5 c) ?_ rfl ⟨rfl,rfl⟩
  simp[results,Tryz.results254,go_sem,D5,uB,Int.not_lt.2 a1,Int.not_lt.2 a2,Int.not_lt.2 a3,Int.not_lt.2 a4,a5,a6,a7]
 by_cases a8:c=240
 ·subst a8;go_wp2_with (fail);refine bodyPost_ret (v:=D5 240) ?_ rfl ⟨rfl,rfl⟩
  simp[results,Tryz.results254,go_sem,D5,uB]
 by_cases a9:c=244
 ·subst a9;go_wp2_with (fail);refine bodyPost_ret (v:=D5 244) ?_ rfl ⟨rfl,rfl⟩
  simp[results,Tryz.results254,go_sem,D5,uB]
 have b5:(c==224)=false:=by simpa using a5
 have b6:(c==237)=false:=by simpa using a6
 have b8:(c==240)=false:=by simpa using a8
 have b9:(c==244)=false:=by simpa using a9
 go_wp2_with (fail);refine bodyPost_ret (v:=D5 c) ?_ rfl ⟨rfl,rfl⟩
 simp[results,Tryz.results254,go_sem,D5,uB,Int.not_lt.2 a1,Int.not_lt.2 a2,Int.not_lt.2 a3,Int.not_lt.2 a4,a5,a6,Int.not_lt.2 a7,a8,a9]
def pL (final:Bool) (b:List Int):Value:= .tuple #[.int .i64 (dec final b).1, .int .i64 (dec final b).2.1, .bool (dec final b).2.2]
def PtB (k:Nat) (p:Int):Prop:=0<=p/\((k=1/\p<128)\/(k=2/\p<8192)\/(k=3/\p<524288)\/(k=4/\p<33554432))
structure KindB (c:Int):Prop where
 n:(uB c).1<=4
 p:0<=(uB c).2.1/\(uB c).2.1<128
 lo:0<=(uB c).2.2.1/\(uB c).2.2.1<256
 hi:0<=(uB c).2.2.2/\(uB c).2.2.2<256
theorem kindB {c:Int} (h0:0<=c):KindB c:=by
 have h:=Y5 c;refine⟨h,?_,?_,?_⟩<;>(unfold uB;repeat' split)<;>simp<;>omega
theorem uW {b:List Int} {bo:Option Addr} {bn bc:Nat} (final:Bool) (w:World) (hB:SlB w bo bn bc b) (hx:∀x∈b,0<=x/\x<256):
  Calls Tryz.prog 251 #[.slice bo bn bc, .bool final] w fun e w'=>e= .returned (pL final b)/\w=w':=by
 have hm1:=Nat.le_trans (Sl.le hB) (Sl.max hB);unfold maxLen at hm1;have HLB:=hW_ hB.len;have HB:=hW_ hB;have HX:=hW_ hx;clear hB hx
 cases b with
 | nil=>
  have h0:bn=0:=by have:=HLB.out;simp at this;omega
  subst h0;go_enter Tryz.func251,Tryz.ntmps251;go_wp2_with (fail);refine bodyPost_ret (v:=pL final []) ?_ rfl ⟨rfl,rfl⟩
  simp[results,Tryz.results251,go_sem,pL,dec]
 | cons c l=>
  obtain⟨hc0,hc1⟩:=HX.out c (by simp);have hbn:0<bn:=by have:=HLB.out;simp at this;omega
  have hbi:(0:Int)<(bn:Int):=by omega
  obtain⟨b1,o1,hbo,hcell⟩:=HB.out.at_ hbn;subst hbo;have hix:ix (c::l) 0=c:=rfl;rw[hix,Nat.add_zero]at hcell;have hbe:((bn:Int)==0)=false:=by simp;omega
  go_enter Tryz.func251,Tryz.ntmps251;go_wp2_with (fail);refine(aBf c hc0 hc1 w).mono ?_
  rintro e w1 ⟨rfl,rfl⟩;have HK:=hW_ (kindB hc0);obtain⟨⟨n,p,lo,hi⟩,hk⟩:∃q,uB c=q:=⟨_,rfl⟩;have HDEC:Hid (dec final (c::l)=if n=0 then(-1,1,false)else tE final n (n-1) p lo hi l):=hW_ (by simp only[dec,hk]);have hK:=HK.out;have h4:=hK.n;have hp:=hK.p;have hlo:=hK.lo;have hhi:=hK.hi;rw[hk]at h4 hp hlo hhi;simp only at h4 hp hlo hhi;unfold D5;rw[hk];clear hK HK hk hix;go_wp2_with (fail);go_loop [8,9,10,11] (fun p lo hi i=>∃(k:Nat) (p1 lo1 hi1:Int),1<=k/\k<=max n 1/\k<=bn/\i= .int .i64 k/\p= .int .i64 p1/\lo= .int .u8 lo1/\hi= .int .u8 hi1/\PtB k p1/\0<=lo1/\lo1<256/\0<=hi1/\hi1<256/\Hid (n=0\/dec final (c::l)=tE final n (n-k) p1 lo1 hi1 (l.drop (k-1)))) (fun _ _ _ i=>5-(intOf i).toNat)
  case atStart=>
   exact⟨1,p,lo,hi,by omega,by omega,by omega,rfl,rfl,rfl,rfl,⟨hp.1, .inl ⟨rfl,hp.2⟩⟩,hlo.1,hlo.2,hhi.1,hhi.2,hW_ (by
    rcases Nat.eq_zero_or_pos n with h | h
    ·exact .inl h
    ·right;rw[HDEC.out,if_neg (by omega)];simp)⟩
  case round=>
   obtain⟨k,p1,lo1,hi1,hk1,hk2,hk3,rfl,rfl,rfl,rfl,hpb,l0,l1,g0,g1,HD⟩:=hrel
   by_cases hlt:k<n
   ·have gk:(k:Int)<(n:Int):=by omega
    by_cases hend:k=bn
    ·have gb:((k:Int)==(bn:Int))=true:=by simp[hend]
     have HDB:Hid (l.drop (k-1)= []):=hW_ (by rw[List.drop_eq_nil_iff];have:=HLB.out;simp at this;omega);have HE:=HD.out.resolve_left (by omega);rw[HDB.out,show n-k=(n-k-1)+1 by omega]at HE;simp only[tE]at HE;have HE2:=hW_ HE;clear HE hpb
     cases final with
     | true=>
      go_wp2_with (fail);refine bodyPost_ret (v:=pL true (c::l)) ?_ rfl ⟨rfl,rfl⟩
      simp[results,Tryz.results251,go_sem,pL,HE2.out]
     | false=>
      go_wp2_with (fail);refine bodyPost_ret (v:=pL false (c::l)) ?_ rfl ⟨rfl,rfl⟩
      simp[results,Tryz.results251,go_sem,pL,HE2.out]
    ·have gb:((k:Int)==(bn:Int))=false:=by simp;omega
     have hkb:k<bn:=by omega
     have gkb:(k:Int)<(bn:Int):=by omega
     obtain⟨b2,o2,hbo,hck⟩:=HB.out.at_ hkb;simp only[Option.some.injEq,Addr.mk.injEq,and_true]at hbo;obtain⟨rfl,rfl⟩:=hbo;have hixk:(c::l)[k]?=some (ix (c::l) k):=gF (by have:=HLB.out;omega)
     obtain⟨x0,x1⟩:=HX.out (ix (c::l) k) (List.mem_of_getElem? hixk);obtain⟨x,hxx⟩:∃x,ix (c::l) k=x:=⟨_,rfl⟩;rw[hxx]at hck x0 x1 hixk;have HDR:Hid (l.drop (k-1)=x::l.drop k):=hW_ (by
      obtain⟨k',rfl⟩:∃k',k=k'+1:=⟨k-1,by omega⟩;rw[List.getElem?_cons_succ]at hixk;rw[Nat.add_sub_cancel,List.drop_eq_getElem_cons (List.getElem?_eq_some_iff.1 hixk).1,(List.getElem?_eq_some_iff.1 hixk).2])
     have HE:=HD.out.resolve_left (by omega);rw[HDR.out,show n-k=(n-k-1)+1 by omega]at HE;simp only[tE]at HE;have HE2:=hW_ HE;clear hxx HE hixk;have HPB:=hW_ hpb;clear hpb
     by_cases y1:x<lo1
     ·go_wp2_with (fail);refine bodyPost_ret (v:=pL final (c::l)) ?_ rfl ⟨rfl,rfl⟩
      have he:=HE2.out;rw[if_pos (.inl y1)]at he;simp[results,Tryz.results251,go_sem,pL,he]
     by_cases y2:hi1<x
     ·go_wp2_with (fail);refine bodyPost_ret (v:=pL final (c::l)) ?_ rfl ⟨rfl,rfl⟩
      have he:=HE2.out;rw[if_pos (.inr y2)]at he;simp[results,Tryz.results251,go_sem,pL,he]
     have hor:=or_low (p:=p1) (x:=x) HPB.out.1 (by have:=HPB.out;unfold PtB at this;omega) x0;go_wp2_with (fail);go_round
     case rel=>
      refine⟨k+1,p1*64+x % 64,128,191,by omega,by omega,by omega,by go_num,rfl,rfl,rfl,?_,by omega,by omega,by omega,by omega,hW_ (.inr ?_)⟩
      ·have:=HPB.out;unfold PtB at this |-;omega
      ·rw[HE2.out,if_neg (by omega),show n-k-1=n-(k+1) by omega,Nat.add_sub_cancel]
     case measure=>
      have:=HPB.out;unfold PtB at this;simp[intOf];omega
   ·by_cases hn0:n=0
    ·subst hn0;go_wp2_with (fail);refine bodyPost_ret (v:=pL final (c::l)) ?_ rfl ⟨rfl,rfl⟩
     simp[results,Tryz.results251,go_sem,pL,HDEC.out]
    ·have hnb:((n:Int)==0)=false:=by simp;omega
     have hnk:k=n:=by omega
     have HE:=HD.out.resolve_left hn0;rw[show n-k=0 by omega]at HE;simp only[tE]at HE;have HE2:=hW_ HE;clear HE;go_wp2_with (fail);refine bodyPost_ret (v:=pL final (c::l)) ?_ rfl ⟨rfl,rfl⟩
     simp[results,Tryz.results251,go_sem,pL,HE2.out]
open Go.RowKit Go.ChangeMaps
theorem iE {w:World} {ops:Array Oper} {rest:List Oper} {o:Oper} {a:Act} {Q:Exit->Act->World->Prop} (hgd:o.guard=none) (s x:Operand)
  (ho:o.op= .call {callee:= .builtin .append,args:=#[s,x],argTypes:=#[34,34]})
  {base B k:Nat} {v:Value} {A:List Int} {y:Int} {t:TypeId} {fr:Nat×Nat} (hs:a.eval s=v) (hown:Own w base v A) (hk:A.length=k) (hx:a.eval x= .slice (some ⟨B,0,none⟩) 1 1)
  (hb:w.heap[B]?=some (.cells #[.int .i64 y] t fr)) (hm:k<1048576) (hbase:base<=w.heap.size)
  (hK:∀g cap' w',Own w' base (.slice (some ⟨g,0,none⟩) (k+1) cap') (A++ [y])->w.grownBy w' v.ownBlock->(v.ownBlock=some g\/g=w.heap.size)->wpList Tryz.prog ops Q rest (a.put o.dst (.slice (some ⟨g,0,none⟩) (k+1) cap')) w'):
  wpList Tryz.prog ops Q (o::rest) a w:=by
 obtain⟨i0,hi0,hz0,hz1,hz2⟩:=info_parts tC;subst hk;refine wpList_append_lies (P:=Tryz.prog) (w:=w) hgd s x 34 ho base 3 i0 _ 1 8 Tryz.underlying34 hi0 hz0 hz1 hz2 rfl (by omega) _ A.length _ hs hown _ 1 1 [.int .i64 y] hx rfl
  (World.news_of_block hb) (by intro u hu;simp at hu;subst hu;rfl) (by omega) (by unfold maxLen;omega) (by omega) hbase w.heap.size rfl ?_
 intro g cap' w' ho' hgr hat hlt;refine hK g cap' w' ?_ hgr hat
 unfold Own;rw[List.length_append,List.map_append];exact ho'
theorem mT {w:World} {ops:Array Oper} {o:Oper} {a:Act} {K:Act->World->Prop} {Q:Exit->Act->World->Prop} {E:Prop} (hgd:o.guard=none) (s x:Operand)
  (ho:o.op= .call {callee:= .builtin .append,args:=#[s,x],argTypes:=#[34,34]})
  {base B k:Nat} {v:Value} {A:List Int} {y:Int} {t:TypeId} {fr:Nat×Nat} (hs:a.eval s=v) (hown:Own w base v A) (hk:A.length=k) (hx:a.eval x= .slice (some ⟨B,0,none⟩) 1 1)
  (hb:w.heap[B]?=some (.cells #[.int .i64 y] t fr)) (hm:k<1048576) (hbase:base<=w.heap.size)
  (hK:∀g cap' w',Own w' base (.slice (some ⟨g,0,none⟩) (k+1) cap') (A++ [y])->w.grownBy w' v.ownBlock->(v.ownBlock=some g\/g=w.heap.size)->K (a.put o.dst (.slice (some ⟨g,0,none⟩) (k+1) cap')) w'):
  if Region.wanted o (yielded ops a.tmps)=true then Oper.wp Tryz.prog o a w K Q else E:=by
 obtain⟨i0,hi0,hz0,hz1,hz2⟩:=info_parts tC;subst hk;refine step_append_lies (P:=Tryz.prog) (w:=w) hgd s x 34 ho base 3 i0 _ 1 8 Tryz.underlying34 hi0 hz0 hz1 hz2 rfl (by omega) _ A.length _ hs hown _ 1 1 [.int .i64 y] hx rfl
  (World.news_of_block hb) (by intro u hu;simp at hu;subst hu;rfl) (by omega) (by unfold maxLen;omega) (by omega) hbase w.heap.size rfl ?_
 intro g cap' w' ho' hgr hat hlt;refine hK g cap' w' ?_ hgr hat
 unfold Own;rw[List.length_append,List.map_append];exact ho'
theorem yS {w:World} {o:Obj} {q:Nat} (h:q=w.heap.size):(w.alloc o).heap[q]?=some o:=by rw[h];exact heap_alloc_new w o
def V3 {α:Type} (a b c:α):Nat->α:=fun i=>if i=0 then a else if i=1 then b else c
structure Bld (w:World) (base kb g mb pg:Nat) (v:Nat->Value) (A:Nat->List Int):Prop where
 box:w.heap[kb]?=some (.cells #[v 0,v 1,v 2, .func (.func 187) #[.pointer (some ⟨pg,0,none⟩)] #[], .pointer (some ⟨g,0,none⟩)] 253)
 row:∀j,j<3->Own w base (v j) (A j)
 ag:AgV w base g mb (.slice none 0 0) []
 lo:base<=kb/\base<=w.heap.size
 far:∀j,j<3->∀q,(v j).ownBlock=some q->q≠kb/\q≠g/\q≠mb/\∀i,i<3->i≠j->(v i).ownBlock≠some q
 ne:kb≠g/\kb≠mb
def sV {α:Type} (f:Nat->α) (j:Nat) (y:α):Nat->α:=fun i=>if i=j then y else f i
theorem updV0 {α:Type} (a b c y:α):sV (V3 a b c) 0 y=V3 y b c:=by
 funext i;unfold sV V3;by_cases h:i=0<;>simp[h]
theorem updV1 {α:Type} (a b c y:α):sV (V3 a b c) 1 y=V3 a y c:=by
 funext i;unfold sV V3
 by_cases h:i=1
 ·subst h;simp
 ·by_cases h0:i=0<;>simp[h,h0]
theorem Bld.cells {w:World} {base kb g mb pg:Nat} {v1 v2 v3:Value} {A:Nat->List Int} (h:Bld w base kb g mb pg (V3 v1 v2 v3) A):w.cell? ⟨kb,0,none⟩=some v1/\w.cell? ⟨kb,1,none⟩=some v2/\w.cell? ⟨kb,2,none⟩=some v3/\∀o,w.frozen? ⟨kb,o,none⟩=false:=by
 have:=h.box;simp[World.cell?,World.frozen?,this,V3]
theorem Bld.step {w W w1:World} {base kb g mb pg gg n cap:Nat} {v:Nat->Value} {A:Nat->List Int} {x:Int} (h:Bld w base kb g mb pg v A) (hW:Below w.heap.size w W) (j:Nat) (hj:j<3)
  (ho:Own w1 base (.slice (some ⟨gg,0,none⟩) n cap) (A j++ [x])) (hg:W.grownBy w1 (v j).ownBlock) (hat:(v j).ownBlock=some gg\/gg=W.heap.size):
  Bld (w1.setCell ⟨kb,j,none⟩ (.slice (some ⟨gg,0,none⟩) n cap)) base kb g mb pg (sV v j (.slice (some ⟨gg,0,none⟩) n cap)) (sV A j (A j++ [x]))/\Below base w (w1.setCell ⟨kb,j,none⟩ (.slice (some ⟨gg,0,none⟩) n cap)):=by
 have hkb:=(Array.getElem?_eq_some_iff.1 h.box).1;have hgl:=(Array.getElem?_eq_some_iff.1 h.ag.pile.box).1;have hml:=h.ag.pile.at_.lt;have hfar:=h.far j hj;have hlt:=fun i (hi:i<3)=>World.ownsRow.lt (h.row i hi)
 have key:∀q,q<w.heap.size->(v j).ownBlock≠some q->w1.heap[q]?=w.heap[q]? :=fun q hq hne=>(hg.block q (Nat.lt_of_lt_of_le hq hW.size) (fun e=>hne e.symm)).trans (hW.block q hq)
 have key2:∀q,q<w.heap.size->(v j).ownBlock≠some q->q≠kb->(w1.setCell ⟨kb,j,none⟩ (.slice (some ⟨gg,0,none⟩) n cap)).heap[q]?=w.heap[q]? :=fun q hq hne hk=>(heap_setCell_other w1 ⟨kb,j,none⟩ q _ hk).trans (key q hq hne)
 have hgg:gg≠kb/\gg≠g/\gg≠mb/\∀i,i<3->i≠j->(v i).ownBlock≠some gg:=by
  rcases hat with h1 | h1
  ·exact hfar gg h1
  ·have:=hW.size;exact⟨by omega,by omega,by omega,fun i hi _ e=>by have:=(hlt i hi gg e).2;omega⟩
 have hbw:=h.lo.2;refine⟨⟨?_,fun i hi=> ?_,?_,⟨h.lo.1,?_⟩,fun i hi q hq=> ?_,h.ne⟩,⟨?_,?_,?_,?_,?_⟩⟩
 ·have hk:=(key kb hkb (fun e=>(hfar kb e).1 rfl)).trans h.box;rcases(by omega:j=0\/j=1\/j=2)with rfl | rfl | rfl<;>simp[World.setCell,Array.getElem?_modify,hk,sV]
 ·unfold sV
  by_cases hij:i=j
  ·rw[if_pos hij,if_pos hij];exact jA ho (fun q hq=>by
    obtain rfl:gg=q:=by simpa[Value.ownBlock]using hq
    exact heap_setCell_other w1 ⟨kb,j,none⟩ gg _ hgg.1)
  ·rw[if_neg hij,if_neg hij];exact jA (h.row i hi) (fun q hq=>key2 q (hlt i hi q hq).2 (fun e=>(h.far i hi q hq).2.2.2 j hj (fun e2=>hij e2.symm) e) (h.far i hi q hq).1)
 ·refine h.ag.other (fun q hq=> ?_);rcases hq with rfl | rfl | hq
  ·exact key2 _ hgl (fun e=>(hfar _ e).2.1 rfl) h.ne.1.symm
  ·exact key2 _ hml (fun e=>(hfar _ e).2.2.1 rfl) h.ne.2.symm
  ·simp[Value.ownBlock]at hq
 ·have:=hg.size;have:=hW.size;simp;omega
 ·unfold sV at hq |-
  by_cases hij:i=j
  ·rw[if_pos hij]at hq;obtain rfl:gg=q:=by simpa[Value.ownBlock]using hq
   refine⟨hgg.1,hgg.2.1,hgg.2.2.1,fun i' hi' hne=> ?_⟩;rw[if_neg (by omega)];exact hgg.2.2.2 i' hi' (by omega)
  ·rw[if_neg hij]at hq;obtain⟨f1,f2,f3,f4⟩:=h.far i hi q hq;refine⟨f1,f2,f3,fun i' hi' hne=> ?_⟩
   by_cases hij':i'=j
   ·rw[if_pos hij'];intro e;obtain rfl:gg=q:=by simpa[Value.ownBlock]using e
    exact hgg.2.2.2 i hi hij hq
   ·rw[if_neg hij'];exact f4 i' hi' hne
 ·exact hg.os.trans hW.os
 ·exact hg.tape.trans hW.tape
 ·exact hg.output.trans hW.output
 ·have:=hg.size;have:=hW.size;simp;omega
 ·intro q hq;refine key2 q (by omega) (fun e=> ?_) (by have:=h.lo.1;omega);have:=(hlt j hj q e).1;omega
theorem pJ {w W:World} {o:Obj} (h1:W.os=w.os) (h2:W.tape=w.tape) (h3:W.output=w.output) (h4:W.heap=w.heap.push o):Below w.heap.size w W:=
 ⟨h1,h2,h3,by rw[h4];simp,fun q hq=>by rw[h4,Array.getElem?_push_lt hq,Array.getElem?_eq_getElem hq]⟩
theorem Bld.after {w W w1:World} {base kb g mb pg:Nat} {v1 v2 v3:Value} {A:Nat->List Int} (h:Bld w base kb g mb pg (V3 v1 v2 v3) A) (hW:Below w.heap.size w W) (j:Nat) (hj:j<3) (hg:W.grownBy w1 (V3 v1 v2 v3 j).ownBlock):
  w1.cell? ⟨kb,0,none⟩=some v1/\w1.cell? ⟨kb,1,none⟩=some v2/\w1.cell? ⟨kb,2,none⟩=some v3/\∀o,w1.frozen? ⟨kb,o,none⟩=false:=by
 have hkb:=(Array.getElem?_eq_some_iff.1 h.box).1;have hb:=(hg.block kb (Nat.lt_of_lt_of_le hkb hW.size) (fun e=>(h.far j hj kb e.symm).1 rfl)).trans ((hW.block kb hkb).trans h.box);simp[World.cell?,World.frozen?,hb,V3]
theorem Bld.step0 {w W w1:World} {base kb g mb pg gg n cap:Nat} {v1 v2 v3:Value} {A1 A2 A3 A':List Int} {x:Int} (h:Bld w base kb g mb pg (V3 v1 v2 v3) (V3 A1 A2 A3)) (hW:Below w.heap.size w W)
  (ho:Own w1 base (.slice (some ⟨gg,0,none⟩) n cap) (A1++ [x])) (hg:W.grownBy w1 v1.ownBlock) (hat:v1.ownBlock=some gg\/gg=W.heap.size) (hA:A1++ [x]=A'):
  Bld (w1.setCell ⟨kb,0,none⟩ (.slice (some ⟨gg,0,none⟩) n cap)) base kb g mb pg (V3 (.slice (some ⟨gg,0,none⟩) n cap) v2 v3) (V3 A' A2 A3)/\Below base w (w1.setCell ⟨kb,0,none⟩ (.slice (some ⟨gg,0,none⟩) n cap)):=by
 subst hA;have:=h.step hW 0 (by omega) ho hg hat;rw[updV0,updV0]at this;exact this
theorem Bld.step1 {w W w1:World} {base kb g mb pg gg n cap:Nat} {v1 v2 v3:Value} {A1 A2 A3 A':List Int} {x:Int} (h:Bld w base kb g mb pg (V3 v1 v2 v3) (V3 A1 A2 A3)) (hW:Below w.heap.size w W)
  (ho:Own w1 base (.slice (some ⟨gg,0,none⟩) n cap) (A2++ [x])) (hg:W.grownBy w1 v2.ownBlock) (hat:v2.ownBlock=some gg\/gg=W.heap.size) (hA:A2++ [x]=A'):
  Bld (w1.setCell ⟨kb,1,none⟩ (.slice (some ⟨gg,0,none⟩) n cap)) base kb g mb pg (V3 v1 (.slice (some ⟨gg,0,none⟩) n cap) v3) (V3 A1 A' A3)/\Below base w (w1.setCell ⟨kb,1,none⟩ (.slice (some ⟨gg,0,none⟩) n cap)):=by
 subst hA;have:=h.step hW 1 (by omega) ho hg hat;rw[updV1,updV1]at this;exact this
theorem V3.ext {α:Type} {a b c:α} {f:Nat->α} (h0:f 0=a) (h1:f 1=b) (h2:f 2=c):∀i,i<3->f i=V3 a b c i:=fun i hi=>by
 rcases(by omega:i=0\/i=1\/i=2)with rfl | rfl | rfl
 ·exact h0
 ·exact h1
 ·exact h2
theorem Bld.congr {w:World} {base kb g mb pg:Nat} {v v':Nat->Value} {A A':Nat->List Int} (h:Bld w base kb g mb pg v A) (hv:∀i,i<3->v i=v' i) (hA:∀i,i<3->A i=A' i):Bld w base kb g mb pg v' A':=
 ⟨by rw[<-hv 0 (by omega),<-hv 1 (by omega),<-hv 2 (by omega)];exact h.box,fun j hj=>by rw[<-hv j hj,<-hA j hj];exact h.row j hj,h.ag,h.lo,fun j hj q hq=>by
  rw[<-hv j hj]at hq;obtain⟨a,b,c,d⟩:=h.far j hj q hq;exact⟨a,b,c,fun i hi hne=>by rw[<-hv i hi];exact d i hi hne⟩,h.ne⟩
theorem Bld.step2 {w W w1:World} {base kb g mb pg gg n cap:Nat} {v1 v2 v3:Value} {A1 A2 A3 A':List Int} {x:Int} (h:Bld w base kb g mb pg (V3 v1 v2 v3) (V3 A1 A2 A3)) (hW:Below w.heap.size w W)
  (ho:Own w1 base (.slice (some ⟨gg,0,none⟩) n cap) (A3++ [x])) (hg:W.grownBy w1 v3.ownBlock) (hat:v3.ownBlock=some gg\/gg=W.heap.size) (hA:A3++ [x]=A'):
  Bld (w1.setCell ⟨kb,2,none⟩ (.slice (some ⟨gg,0,none⟩) n cap)) base kb g mb pg (V3 v1 v2 (.slice (some ⟨gg,0,none⟩) n cap)) (V3 A1 A2 A')/\Below base w (w1.setCell ⟨kb,2,none⟩ (.slice (some ⟨gg,0,none⟩) n cap)):=by
 subst hA;have:=h.step hW 2 (by omega) ho hg hat;exact⟨this.1.congr (V3.ext rfl rfl rfl) (V3.ext rfl rfl rfl),this.2⟩
theorem xF {w:World} {base:Nat} {v:Value} {A:List Int} (h:Own w base v A) (hn:0<A.length):∃b c,v= .slice (some ⟨b,0,none⟩) A.length c:=by
 obtain⟨h1,h2⟩:=h;rcases h2 with⟨_,h3⟩ | ⟨g,cap,cur,hv,_⟩
 ·omega
 ·exact⟨g,cap,hv⟩
theorem Bld.chain {w:World} {base kb g mb pg n:Nat} {v1 v2 v3:Value} {A1 A2 A3:List Int} (h:Bld w base kb g mb pg (V3 v1 v2 v3) (V3 A1 A2 A3)) (hn:0<n) (h1:A1.length=n) (h2:A2.length=n) (h3:A3.length=n):
  ∃rb lb tb rc lc tc,v3= .slice (some ⟨tb,0,none⟩) n tc/\ChV w ⟨base,n,kb,g,mb,rb,lb,tb,rc,lc,tc,pg⟩ (.slice none 0 0) A1 A2 A3 []:=by
 have r1:Own w base v1 A1:=h.row 0 (by omega);have r2:Own w base v2 A2:=h.row 1 (by omega);have r3:Own w base v3 A3:=h.row 2 (by omega);obtain⟨rb,rc,e1⟩:=xF r1 (by omega);obtain⟨lb,lc,e2⟩:=xF r2 (by omega);obtain⟨tb,tc,e3⟩:=xF r3 (by omega);subst e1 e2 e3;have hbox:=h.box;have f0:=h.far 0 (by omega) rb rfl;have f1:=h.far 1 (by omega) lb rfl;have f2:=h.far 2 (by omega) tb rfl;have d01:lb≠rb:=fun e=>f0.2.2.2 1 (by omega) (by omega) (by rw[<-e];rfl)
 have d02:tb≠rb:=fun e=>f0.2.2.2 2 (by omega) (by omega) (by rw[<-e];rfl)
 have d12:tb≠lb:=fun e=>f1.2.2.2 2 (by omega) (by omega) (by rw[<-e];rfl)
 have hbox2:w.heap[kb]?=some (.cells #[.slice (some ⟨rb,0,none⟩) A1.length rc, .slice (some ⟨lb,0,none⟩) A2.length lc, .slice (some ⟨tb,0,none⟩) A3.length tc, .func (.func 187) #[.pointer (some ⟨pg,0,none⟩)] #[], .pointer (some ⟨g,0,none⟩)] 253):=hbox
 rw[h1,h2,h3]at hbox2;refine⟨rb,lb,tb,rc,lc,tc,by rw[h3],⟨hbox2,?_,?_,?_,h.ag,h.lo.1,⟨h.ne.1,h.ne.2,f0.1.symm,f1.1.symm,f2.1.symm,f0.2.1,f0.2.2.1,f1.2.1,f1.2.2.1,f2.2.1,f2.2.2.1,d01.symm,d02.symm,d12.symm⟩,fun q hq=>by simp[Value.ownBlock]at hq⟩⟩
 ·unfold Own at r1;rw[h1]at r1;exact r1
 ·unfold Own at r2;rw[h2]at r2;exact r2
 ·unfold Own at r3;rw[h3]at r3;exact r3
theorem AgV.mono {w:World} {base base' g mb:Nat} {v:Value} {L:List Ent} (h:AgV w base g mb v L) (hb:base'<=base):AgV w base' g mb v L:=
 ⟨⟨h.pile.box,iA.mono h.pile.row hb,h.pile.at_,h.pile.once,h.pile.ok,h.pile.far,by have:=h.pile.lo;omega,h.pile.small⟩,h.heap⟩
theorem ofT_wf {T:List ByteArray} (hT:T.length<=4096) (s:ByteArray):(Lit.int .i64 (ofT T s)).wf=true:=by
 rw[gC];rcases O6 T s with⟨_,h⟩ | ⟨_,⟨i,hi,_,_,h⟩⟩ | ⟨_,_,h⟩
 ·omega
 ·omega
 ·omega
def TakeB (w:World) (base g mb:Nat) (v:Value) (L:List Ent) (e:Ending) (w':World):Prop:=
 ∃(x:Ent) (ok:Bool) (v':Value) (L':List Ent),e= .returned (.tuple #[.agg #[.int .i64 x.place, .int .i64 x.order, .int .i64 x.out], .bool ok])/\AgV w' base g mb v' L'/\Trod w w' g mb v v'/\
  (ok=true->en L 0=x/\L'.length+1=L.length/\∀p,agL L' p=if p=x.place then none else agL L p)/\(ok=false->L= []/\L'= [])
theorem jV {base g mb:Nat} {v:Value} {L:List Ent} (w:World) (h:AgV w base g mb v L):
  Calls Tryz.prog 190 #[.pointer (some ⟨g,0,none⟩)] w (TakeB w base g mb v L):=by
 cases L with
 | nil=>
  refine(aBF w h).mono ?_
  rintro e w' ⟨rfl,hb⟩;exact⟨⟨0,0,0⟩,false,v,[],rfl,h.below hb,Trod.of hb,fun e=>(by cases e),fun _=>⟨rfl,rfl⟩⟩
 | cons a L=>
  refine(aAi w h (by simp)).mono ?_
  rintro e w' ⟨rfl,v',L',hA,hg,hl,hT⟩;exact⟨en (a::L) 0,true,v',L',rfl,hA,hT,fun _=>⟨rfl,hl,hg⟩,fun e=>(by cases e)⟩
theorem aDW {M:List Mg} {a b:Int} {m:Mg} (h:dD M a b=some m):m∈M:=List.mem_of_find?_eq_some h
theorem agI_wf {T:List ByteArray} {M:List Mg} (hM:D6 T M) (hT:T.length<=4096) {C:Ch} {p o d:Int} (h:agI M C p=some (o,d)):(Lit.int .i64 d).wf=true:=by
 unfold agI at h;split at h
 ·obtain⟨i,a,q,b,m,_,_,hm,he⟩:=jO h;simp only[Prod.mk.injEq]at he;have h1:=(hM.2.1 m (aDW hm)).2.2.1;obtain⟨l0,l1,_⟩:=vB.1 h1;rw[gC];omega
 ·cases h
structure Lp (W0 w:World) (c:Cx) (M:List Mg) (R:List Int) (eb:Nat) (x:Ent) (ok:Bool) (va:Value) (Rw Lf Rt:List Int) (L:List Ent) (C:Ch):Prop where
 ch:ChV w c va Rw Lf Rt L
 ln:Lnk c.n C Rw Lf Rt
 wf:WfR Rw
 way:Way M R C
 bel:Below c.base W0 w
 box:w.heap[eb]?=some (.cells #[.int .i64 x.place, .int .i64 x.order, .int .i64 x.out] 256)
 ne:eb≠c.kb/\eb≠c.g/\eb≠c.mb/\eb≠c.rb/\eb≠c.lb/\eb≠c.tb/\va.ownBlock≠some eb/\c.base<=eb
 yes:ok=true->agI M C x.place=some (x.order,x.out)/\(∀q o' d',agI M C q=some (o',d')->x.order<o'\/(x.order=o'/\x.place<=q))/\∀y,agL L y=if y=x.place then none else agI M C y
 no:ok=false->∀y,agI M C y=none
 cnt:L.length+C.length+(if ok then 1 else 0)<=2*c.n
theorem aAt {M:List Mg} {C:Ch} {L L':List Ent} (hO:fF L) (hH:pE L L.length) (hA:∀y,agL L y=agI M C y) {x:Ent} (hx:en L 0=x) (hl:L'.length+1=L.length) (hg:∀p,agL L' p=if p=x.place then none else agL L p):
  agI M C x.place=some (x.order,x.out)/\(∀q o' d',agI M C q=some (o',d')->x.order<o'\/(x.order=o'/\x.place<=q))/\∀y,agL L' y=if y=x.place then none else agI M C y:=by
 refine⟨?_,fun q o' d' h=> ?_,fun y=>by rw[hg,hA]⟩
 ·rw[<-hA,S1 hO];exact⟨0,by omega,hx⟩
 ·rw[<-hA,S1 hO]at h;obtain⟨i,hi,he⟩:=h;have:=hH.min i hi;rw[hx,he,Ent.less_iff]at this;simp only at this;omega
theorem aCY {M:List Mg} {C:Ch} {L:List Ent} (hA:∀y,agL L y=agI M C y) (hL:L= []):∀y,agI M C y=none:=fun y=>by
 rw[<-hA,hL];rfl
theorem Lp.mk' {W0 w w2 w3:World} {c:Cx} {M:List Mg} {R:List Int} {eb:Nat} {x:Ent} {ok:Bool} {va va':Value} {Rw Lf Rt:List Int} {L L':List Ent} {C:Ch}
  (hC:ChV w c va Rw Lf Rt L) (hln:Lnk c.n C Rw Lf Rt) (hwf:WfR Rw) (hway:Way M R C) (hbel:Below c.base W0 w) (hA:∀y,agL L y=agI M C y) (hcnt:L.length+C.length<=2*c.n)
  (hA2:AgV w2 c.base c.g c.mb va' L') (hT:Trod w w2 c.g c.mb va va') (hyes:ok=true->en L 0=x/\L'.length+1=L.length/\∀p,agL L' p=if p=x.place then none else agL L p) (hno:ok=false->L= []/\L'= [])
  (hbox:w3.heap[eb]?=some (.cells #[.int .i64 x.place, .int .i64 x.order, .int .i64 x.out] 256)) (hkeep:∀q,q≠eb->q<w2.heap.size->w3.heap[q]?=w2.heap[q]?) (hmisc:w3.os=w2.os/\w3.tape=w2.tape/\w3.output=w2.output/\w2.heap.size<=w3.heap.size)
  (hne:eb≠c.kb/\eb≠c.g/\eb≠c.mb/\eb≠c.rb/\eb≠c.lb/\eb≠c.tb/\va'.ownBlock≠some eb/\c.base<=eb):Lp W0 w3 c M R eb x ok va' Rw Lf Rt L' C:=by
 have h2:=hC.turn hA2 hT;have hk:=h2.ne;have k1:=(Array.getElem?_eq_some_iff.1 h2.box).1;have hp:=h2.ag.pile;have h3:ChV w3 c va' Rw Lf Rt L':=⟨(hkeep _ hne.1.symm k1).trans h2.box,h2.row.stay (hkeep _ hne.2.2.2.1.symm h2.row.lt.2),h2.left.stay (hkeep _ hne.2.2.2.2.1.symm h2.left.lt.2),h2.right.stay (hkeep _ hne.2.2.2.2.2.1.symm h2.right.lt.2),
  h2.ag.other (fun q hq=>by
   rcases hq with rfl | rfl | hq
   ·exact hkeep _ hne.2.1.symm (Array.getElem?_eq_some_iff.1 hp.box).1
   ·exact hkeep _ hne.2.2.1.symm hp.at_.lt
   ·exact hkeep _ (fun e=>hne.2.2.2.2.2.2.1 (e▸hq)) (World.ownsRow.lt hp.row q hq).2),h2.lo,h2.ne,h2.far⟩
 have hb2:=fR hC.ag hT hC.base;refine⟨h3,hln,hwf,hway,(hbel.trans hb2).trans ⟨hmisc.1,hmisc.2.1,hmisc.2.2.1,hmisc.2.2.2,fun q hq=>hkeep q (by have:=hne.2.2.2.2.2.2.2;omega) (Nat.lt_of_lt_of_le hq h2.base)⟩,hbox,hne,fun e=> ?_,fun e=> ?_,?_⟩
 ·obtain⟨a1,a2,a3⟩:=hyes e;exact aAt hC.ag.pile.once hC.ag.heap hA a1 a2 a3
 ·exact aCY hA (hno e).1
 ·cases ok with
  | true=>have:=(hyes rfl).2.1;simp only[if_true];omega
  | false=>have:=(hno rfl);rw[this.2];simp;omega
theorem Lp.new {W0 w w2:World} {c:Cx} {M:List Mg} {R:List Int} {x:Ent} {ok:Bool} {va va':Value} {Rw Lf Rt:List Int} {L L':List Ent} {C:Ch}
  (hC:ChV w c va Rw Lf Rt L) (hln:Lnk c.n C Rw Lf Rt) (hwf:WfR Rw) (hway:Way M R C) (hbel:Below c.base W0 w) (hA:∀y,agL L y=agI M C y) (hcnt:L.length+C.length<=2*c.n)
  (hA2:AgV w2 c.base c.g c.mb va' L') (hT:Trod w w2 c.g c.mb va va') (hyes:ok=true->en L 0=x/\L'.length+1=L.length/\∀p,agL L' p=if p=x.place then none else agL L p) (hno:ok=false->L= []/\L'= []):
  Lp W0 (w2.alloc (.cells #[.int .i64 x.place, .int .i64 x.order, .int .i64 x.out] 256)) c M R w2.heap.size x ok va' Rw Lf Rt L' C:=by
 have h2:=hC.turn hA2 hT;have k1:=(Array.getElem?_eq_some_iff.1 h2.box).1;have k2:=(Array.getElem?_eq_some_iff.1 hA2.pile.box).1;have k3:=hA2.pile.at_.lt;have k4:=h2.row.lt.2;have k5:=h2.left.lt.2;have k6:=h2.right.lt.2;refine Lp.mk' hC hln hwf hway hbel hA hcnt hA2 hT hyes hno (heap_alloc_new w2 _) (fun q _ hq=>Below.heap_alloc _ _ _ hq) ⟨rfl,rfl,rfl,by simp⟩ ⟨by omega,by omega,by omega,by omega,by omega,by omega,fun e=> ?_,h2.base⟩;have:=(World.ownsRow.lt hA2.pile.row _ e).2;omega
theorem set3E {w:World} {g:Nat} {o:Obj} {a b c:Value} (h:w.heap[g]?=some (.cells #[a,b,c] 256)) (x:Ent):(((w.setCell ⟨g,0,none⟩ (.int .i64 x.place)).setCell ⟨g,1,none⟩ (.int .i64 x.order)).setCell ⟨g,2,none⟩ (.int .i64 x.out)).heap[g]?=some (.cells #[.int .i64 x.place, .int .i64 x.order, .int .i64 x.out] 256):=by
 simp[World.setCell,Array.getElem?_modify,h]
theorem Lp.stored {W0 w w2:World} {c:Cx} {M:List Mg} {R:List Int} {eb:Nat} {x:Ent} {ok:Bool} {va va':Value} {Rw Lf Rt:List Int} {L L':List Ent} {C:Ch} {a0 a1 a2:Value}
  (hC:ChV w c va Rw Lf Rt L) (hln:Lnk c.n C Rw Lf Rt) (hwf:WfR Rw) (hway:Way M R C) (hbel:Below c.base W0 w) (hA:∀y,agL L y=agI M C y) (hcnt:L.length+C.length<=2*c.n)
  (hA2:AgV w2 c.base c.g c.mb va' L') (hT:Trod w w2 c.g c.mb va va') (hyes:ok=true->en L 0=x/\L'.length+1=L.length/\∀p,agL L' p=if p=x.place then none else agL L p) (hno:ok=false->L= []/\L'= [])
  (hbox:w2.heap[eb]?=some (.cells #[a0,a1,a2] 256)) (heb:eb<w.heap.size) (hne:eb≠c.kb/\eb≠c.g/\eb≠c.mb/\eb≠c.rb/\eb≠c.lb/\eb≠c.tb/\va.ownBlock≠some eb/\c.base<=eb):
  Lp W0 (((w2.setCell ⟨eb,0,none⟩ (.int .i64 x.place)).setCell ⟨eb,1,none⟩ (.int .i64 x.order)).setCell ⟨eb,2,none⟩ (.int .i64 x.out)) c M R eb x ok va' Rw Lf Rt L' C:=by
 refine Lp.mk' hC hln hwf hway hbel hA hcnt hA2 hT hyes hno (set3E (o:= .cells #[] 0) hbox x) (fun q hq hlt=> ?_) ⟨rfl,rfl,rfl,by simp⟩ ⟨hne.1,hne.2.1,hne.2.2.1,hne.2.2.2.1,hne.2.2.2.2.1,hne.2.2.2.2.2.1,fun e=> ?_,hne.2.2.2.2.2.2.2⟩
 ·have hk:∀(W:World) (o:Nat) (u:Value),(W.setCell ⟨eb,o,none⟩ u).heap[q]?=W.heap[q]? :=fun W o u=>heap_setCell_other W ⟨eb,o,none⟩ q u hq
  rw[hk,hk,hk]
 ·rcases hT.new _ e with h1 | h1
  ·exact hne.2.2.2.2.2.2.1 h1
  ·omega
def lenS:Value->Nat
 | .slice _ n _=>n
 | _=>0
def plC (C:Ch) (j:Nat):Int:=match C[j]? with | some c=>(c.1:Int) | none=> -1
theorem plC_at {C:Ch} {j p:Nat} {a:Int} (h:C[j]?=some (p,a)):plC C j=(p:Int):=by unfold plC;rw[h]
theorem plC_end {C:Ch} {j:Nat} (h:C.length<=j):plC C j= -1:=by unfold plC;rw[List.getElem?_eq_none h]
theorem nxt_pl (C:Ch) (j:Nat):fK C j=plC C (j+1):=rfl
def lfR (n:Nat):List Int:=(List.range n).map (fun(i:Nat)=>(i:Int)-1)
def rtR (n:Nat):List Int:=(List.range n).map (fun(i:Nat)=>(i:Int)+1)
theorem Q0 (n:Nat):(lfR n).length=n:=by simp[lfR]
theorem iN (n:Nat):(rtR n).length=n:=by simp[rtR]
theorem lfR_take {n k:Nat} (h:k<n):(lfR n).take k++ [(k:Int)-1]=(lfR n).take (k+1):=by
 rw[<-vI (by rw[Q0];exact h)];congr 2;simp[ix,lfR,List.getD,h]
theorem rtR_take {n k:Nat} (h:k<n):(rtR n).take k++ [(k:Int)+1]=(rtR n).take (k+1):=by
 rw[<-vI (by rw[iN];exact h)];congr 2;simp[ix,rtR,List.getD,h]
theorem aAM {V:Vc} {B:List Int} {k yn:Nat} (h:B[k]?=some (yn:Int)):(yB V B).take k++ [ofT V.tokens (one yn)]=(yB V B).take (k+1):=by
 have hk:=(List.getElem?_eq_some_iff.1 h).1;rw[<-vI (by rw[lG];exact hk)];congr 2;have h2:=(List.getElem?_eq_some_iff.1 h).2;simp[ix,yB,List.getD,hk,h2]
theorem pZ {V:Vc} {eb eg:Nat} {B:List Int} {ao:Option Addr} {n c:Nat} (w:World) (hE:aT w eb eg V) (hM:May V) (hS:SlB w ao n c B) (hby:∀y∈B,0<=y/\y<256) (hn0:0<n) (hn:n<=100000):
  Calls Tryz.prog 151 #[.pointer (some ⟨eg,0,none⟩), .slice ao n c] w fun e w'=>∃v,e= .returned v/\Own w' w.heap.size v (jG V B)/\Below w.heap.size w w':=by
 obtain⟨lo,cs,to_,tcc,pg,hx,hcs,hto,hpt⟩:=hE;have hBn:=hS.len;have hel:eg<w.heap.size:=(Array.getElem?_eq_some_iff.1 hx).1;have c1:w.cell? ⟨eg,1,none⟩=some (.pointer (some ⟨pg,0,none⟩)):=by simp[World.cell?,hx,hcs.2.2.1]
 have G1:=fun w' (hg:Ge w w')=>hg.at w w' c1
 have gr:=Ge.refl w;have HN:Hid (∀W,Ge w W->Calls Tryz.prog 188 #[] W fun e w'=>∃g mb,e= .returned (.pointer (some ⟨g,0,none⟩))/\Ge w w'/\AgV w' w.heap.size g mb (.slice none 0 0) []):=hW_ (fun W hW=>(aBH W).mono (by
  rintro e w' ⟨g,mb,rfl,h1,h2,_⟩;exact⟨g,mb,rfl,hW.below h2,h1.mono hW.size⟩))
 have HCS:=hW_ hcs;have HX:=hW_ hx;have HS:=hW_ hS;have HPT:=hW_ hpt;have HBN:=hW_ hBn;have HBY:=hW_ hby;have HM:=hW_ hM;have gn0:¬(n:Int)=0:=by omega
 have gn1:((n:Int)==0)=false:=by simpa using gn0
 have HEL:=hW_ hel;clear hx hcs hto hpt hS hBn hby hM hel;go_enter Tryz.func151,Tryz.ntmps151;go_wp2_with (fail);refine dR ?keyP ?keyF ?keyH
 case keyF=>
  intro key
  go_region_held3 (Ge w) (first | (with_reducible assumption) | (with_reducible refine Ge.drew ?_;with_reducible assumption) | (with_reducible refine Ge.alloc ?_ _;with_reducible assumption) | (with_reducible refine Ge.alloc (Ge.drew ?_) _;with_reducible assumption) | (with_reducible refine Ge.drew (Ge.alloc ?_ _);with_reducible assumption) | (with_reducible refine Ge.set4 ?_ (Nat.le_refl _) _ _ _ _ _ _ _ _;with_reducible assumption) | (with_reducible refine Ge.set4 (Ge.drew ?_) (Nat.le_refl _) _ _ _ _ _ _ _ _;with_reducible assumption) | (with_reducible refine Ge.drew (Ge.set4 ?_ (Nat.le_refl _) _ _ _ _ _ _ _ _);with_reducible assumption) | (with_reducible refine Ge.drewN ?_ _;with_reducible assumption)) ((go_at_call 188;refine(HN.out _ (by exact bA (Below.refl _ _) _)).mono ?_;rintro e w1 ⟨g,mb,rfl,hg1,ha1⟩;have HA1:=hW_ ha1;clear ha1))
  all_goals(revert w1 g mb;exact key.out)
 intro w1 g mb hg1 HA1 hW;obtain⟨W1,hW1⟩:∃W1,w1.alloc (.cells #[.slice none 0 0, .slice none 0 0, .slice none 0 0, .func (.func 187) #[.pointer (some ⟨pg,0,none⟩)] #[], .pointer (some ⟨g,0,none⟩)] 253)=W1:=⟨_,rfl⟩;have hbx:=heap_alloc_new w1 (.cells #[.slice none 0 0, .slice none 0 0, .slice none 0 0, .func (.func 187) #[.pointer (some ⟨pg,0,none⟩)] #[], .pointer (some ⟨g,0,none⟩)] 253);have hA2:=HA1.out.below (aA w1 (.cells #[.slice none 0 0, .slice none 0 0, .slice none 0 0, .func (.func 187) #[.pointer (some ⟨pg,0,none⟩)] #[], .pointer (some ⟨g,0,none⟩)] 253));rw[hW1]at hbx hA2 hW |-;obtain⟨kb,hkb⟩:∃kb,w1.heap.size=kb:=⟨_,rfl⟩;have hgl:g<w1.heap.size:=(Array.getElem?_eq_some_iff.1 HA1.out.pile.box).1;have hml:mb<w1.heap.size:=HA1.out.pile.at_.lt;have hs1:w.heap.size<=w1.heap.size:=hg1.size;rw[hkb]at hbx hgl hml hs1 |-;have HBL:Hid (Bld W1 w.heap.size kb g mb pg (V3 (.slice none 0 0) (.slice none 0 0) (.slice none 0 0)) (V3 ([]:List Int) [] [])):=hW_ ⟨hbx,fun j hj=>by
  rcases(by omega:j=0\/j=1\/j=2)with rfl | rfl | rfl<;>exact Own.nil _ _,hA2,⟨hs1,hW.size⟩,fun j hj q hq=>by
  rcases(by omega:j=0\/j=1\/j=2)with rfl | rfl | rfl<;>simp[Value.ownBlock,V3]at hq,⟨by omega,by omega⟩⟩
 have HW1:=hW_ hW;clear hW1 hbx hA2 hW hkb hgl hml hs1 hg1 HA1 G1 gr c1;go_wp2_with (fail);go_loopw [30] (fun i wr=>∃(k:Nat) (v1 v2 v3:Value),k<=n/\i= .int .i64 k/\Hid (Bld wr w.heap.size kb g mb pg (V3 v1 v2 v3) (V3 ((yB V B).take k) ((lfR n).take k) ((rtR n).take k)))/\Hid (Below w.heap.size w wr)) (fun i _=>n-(intOf i).toNat)
 case atStart=>exact⟨0,_,_,_,Nat.zero_le _,rfl,HBL,hW_ HW1.out⟩
 case round=>
  obtain⟨k,v1,v2,v3,hk,rfl,HB,HBW⟩:=hrel
  by_cases hlt:k<n
  ·obtain⟨yn,hyn,hy⟩:∃yn:Nat,B[k]?=some (yn:Int)/\yn<256:=by
    have hkB:k<B.length:=by have:=HBN.out;omega
    have h1:=HBY.out _ (List.getElem_mem hkB);exact⟨B[k].toNat,by rw[List.getElem?_eq_getElem hkB];congr 1;omega,by omega⟩
   obtain⟨bb,bo,hao,hcb⟩:=Sl.at_ (Sl.below HS.out HBW.out) k (.int .u8 yn) (by rw[List.getElem?_map,hyn];rfl);subst hao;have hxr:=(HBW.out.block eg HEL.out).trans HX.out;have c1:wr.cell? ⟨eg,2+yn,none⟩=some (.int .i64 (ofT V.tokens (one yn))):=by
    have:=HCS.out.2.2.2 yn hy;simp[World.cell?,hxr,this]
   have HAT:=hW_ (aAM (V:=V) hyn);have hl1:((yB V B).take k).length=k:=by rw[List.length_take,lG];have:=HBN.out;omega
   have hl2:((lfR n).take k).length=k:=by rw[List.length_take,Q0];omega
   have hl3:((rtR n).take k).length=k:=by rw[List.length_take,iN];omega
   have HL1:=hW_ hl1;have HL2:=hW_ hl2;have HL3:=hW_ hl3;obtain⟨a,ha⟩:∃a,ofT V.tokens (one yn)=a:=⟨_,rfl⟩;rw[ha]at c1 HAT;obtain⟨b0,b1,b2,bf⟩:=HB.out.cells;have HR1:Hid (Own wr w.heap.size v1 ((yB V B).take k)):=hW_ (HB.out.row 0 (by omega));have hkc:(2:Nat)+yn*1=2+yn:=by omega
   have gy:(yn:Int)<256:=by omega
   have gk:(k:Int)<(n:Int):=by omega
   have HLO:=hW_ HB.out.lo.2;have e0:=eA (aA wr (.cells #[.int .i64 a] 3)) _ _ b0;clear hyn hxr hl1 hl2 hl3 ha;go_wp2_with (fail);refine dR ?keyQ ?keyG ?keyI
   case keyG=>
    intro key
    go_region_law (refine mT (by rfl) _ _ (by rfl) (base:=w.heap.size) (k:=k) (y:=a) (by rfl) (by exact World.ownsRow.alloc HR1.out _) HL1.out (by rfl) (by exact heap_alloc_new _ _) (by omega) (by simp;have:=HLO.out;omega) ?_;intro gg cap w2 ho2 hg2 hat2;obtain⟨k0,k1,k2,kf⟩:=HB.out.after (by exact pJ rfl rfl rfl rfl) 0 (by omega) hg2;have HST:=hW_ (HB.out.step0 (by exact pJ rfl rfl rfl rfl) ho2 hg2 hat2 HAT.out);clear ho2 hg2 hat2)
    all_goals(clear k0 k1 k2 kf;revert w2 gg cap;exact key.out)
   intro gg cap w2 HST;have hs:=HST.out;obtain⟨W2,hW2⟩:∃W2,w2.setCell ⟨kb,0,none⟩ (.slice (some ⟨gg,0,none⟩) (k+1) cap)=W2:=⟨_,rfl⟩;rw[hW2]at hs;have hs2:=hs.1;have HB2:=hW_ hs2;have HBW2:Hid (Below w.heap.size w W2):=hW_ (HBW.out.trans hs.2);rw[hW2];clear hs hs2 HST hW2 b0 b1 b2 bf e0 c1 hcb HB HR1;obtain⟨b0,b1,b2,bf⟩:=HB2.out.cells;have HR2:Hid (Own W2 w.heap.size v2 ((lfR n).take k)):=hW_ (HB2.out.row 1 (by omega));have HLO2:=hW_ HB2.out.lo.2;have qs:IntKind.i64.wrap ((k:Int)-1)=(k:Int)-1:=by rw[IntKind.wrap_i64];omega
   have qp:IntKind.i64.wrap ((k:Int)+1)=(k:Int)+1:=by rw[IntKind.wrap_i64];omega
   go_wp2_with (first
    | (at_builtin;refine iE rfl _ _ rfl (base:=w.heap.size) (k:=k) (y:=(k:Int)-1) rfl (by exact World.ownsRow.alloc HR2.out _) HL2.out rfl (by exact heap_alloc_new _ _) (by omega) (by simp;have:=HLO2.out;omega) ?_;intro gg3 cap3 w3 ho3 hg3 hat3;obtain⟨k0,k1,k2,kf⟩:=HB2.out.after (by exact pJ rfl rfl rfl rfl) 1 (by omega) hg3;have HST3:=hW_ (HB2.out.step1 (by exact pJ rfl rfl rfl rfl) ho3 hg3 hat3 (lfR_take hlt));clear ho3 hg3 hat3)
    | (at_builtin;refine iE rfl _ _ rfl (base:=w.heap.size) (k:=k) (y:=(k:Int)+1) rfl (by exact World.ownsRow.alloc (HST3.out.1.row 2 (by omega)) _) HL3.out rfl (by exact yS (by simp)) (by omega) (by have:=HST3.out.1.lo.2;simp at this |-;omega) ?_;intro gg4 cap4 w4 ho4 hg4 hat4;obtain⟨m0,m1,m2,mf⟩:=HST3.out.1.after (by exact pJ rfl rfl rfl rfl) 2 (by omega) hg4;have HST4:=hW_ (HST3.out.1.step2 (by exact pJ rfl rfl rfl rfl) ho4 hg4 hat4 (rtR_take hlt));clear ho4 hg4 hat4))
   go_roundw
   case rel=>exact⟨k+1,_,_,_,by omega,by go_num,hW_ HST4.out.1,hW_ ((HBW2.out.trans HST3.out.2).trans HST4.out.2)⟩
   case measure=>simp[intOf];omega
  ·obtain rfl:k=n:=by omega
   have hRl:(yB V B).length=k:=by rw[lG];exact HBN.out
   have hbl:=HB.out;rw[List.take_of_length_le (Nat.le_of_eq hRl),List.take_of_length_le (Nat.le_of_eq (Q0 k)),List.take_of_length_le (Nat.le_of_eq (iN k))]at hbl;obtain⟨rb,lb,tb,rc,lc,tc,rfl,hch⟩:=hbl.chain hn0 hRl (Q0 k) (iN k);obtain⟨m,hm⟩:∃m,k=m+1:=⟨k-1,by omega⟩;have qm:(k:Int)-1=(m:Int):=by omega
   have qw:IntKind.i64.wrap ((k:Int)-1)=(m:Int):=by rw[IntKind.wrap_i64];omega
   have gm:(m:Int)<(k:Int):=by omega
   have gm0:(0:Int)<=(m:Int):=by omega
   obtain⟨b0,b1,b2,b3,b4⟩:=hch.cells;obtain⟨y0,hy0⟩:∃y0,(rtR k)[m]?=some y0:=⟨_,List.getElem?_eq_getElem (by rw[iN];omega)⟩
   have t0:=hch.right.cell hy0;have tf:=hch.right.frozen;simp only at b0 b1 b2 b3 b4 t0 tf;have HCH:=hW_ hch;have HRL:=hW_ hRl;have HMM:=hW_ hm;clear hbl hch hy0 hRl HBL HB hm;go_wp2_with (fail);obtain⟨W5,hW5⟩:∃W5,wr.setCell ⟨tb,m,none⟩ (.int .i64 (-1))=W5:=⟨_,rfl⟩;have HC5:Hid (ChV W5 ⟨w.heap.size,k,kb,g,mb,rb,lb,tb,rc,lc,tc,pg⟩ (.slice none 0 0) (yB V B) (lfR k) ((rtR k).set m (-1)) []):=hW_ (hW5▸HCH.out.setRight m (-1));have HB5:Hid (Below w.heap.size w W5):=hW_ (hW5▸Below.setCell HBW.out (by show w.heap.size<=tb;exact HCH.out.right.lt.1) _);have HLK:Hid (Lnk k (mJ (yB V B)) (yB V B) (lfR k) ((rtR k).set m (-1))):=hW_ (by
    have:=aDE (R:=yB V B) (by rw[HRL.out];exact hn0) (lfR k) ((rtR k).set m (-1)) (by rw[HRL.out];rfl) (by rw[HRL.out,show k-1=m by have:=HMM.out;omega];rfl);rw[HRL.out]at this;exact this)
   have HWF:Hid (WfR (yB V B)):=hW_ (fun y hy=>by
    obtain⟨z,_,rfl⟩:=List.mem_map.1 hy;exact ofT_wf HM.out.1.1 _)
   have HTB:Hid (Tb w ⟨w.heap.size,k,kb,g,mb,rb,lb,tb,rc,lc,tc,pg⟩ V.merges):=hW_ ⟨⟨eb,HPT.out⟩,HM.out.2.1.2.2.imp (fun h=>h.2),HM.out.2.1.1,rfl⟩;rw[hW5];clear hW5 b0 b1 b2 b3 b4 t0 tf;go_wp2_with (fail);go_loopw [83] (fun i wr=>∃(j:Nat) (va:Value) (L:List Ent),j<=k/\i= .int .i64 j/\Hid (ChV wr ⟨w.heap.size,k,kb,g,mb,rb,lb,tb,rc,lc,tc,pg⟩ va (yB V B) (lfR k) ((rtR k).set m (-1)) L)/\Hid (∀x,agL L x=agK V.merges (mJ (yB V B)) j x)/\Hid (L.length<=j)/\Hid (Below w.heap.size w wr)) (fun i _=>k-(intOf i).toNat)
   case atStart=>exact⟨0,_,[],Nat.zero_le _,rfl,HC5,hW_ (fun x=>(agK_zero _ _ x).symm),hW_ (Nat.le_refl _),HB5⟩
   case round=>
    obtain⟨j,va,L,hj,rfl,HC,HA,HLL,HBJ⟩:=hrel
    by_cases hjk:j<k
    ·have hat:(mJ (yB V B))[j]?=some (j,(yB V B)[j]'(by rw[HRL.out];exact hjk)):=eO (List.getElem?_eq_getElem _)
     have HLO:=hW_ (yG (c:=⟨w.heap.size,k,kb,g,mb,rb,lb,tb,rc,lc,tc,pg⟩) (C:=mJ (yB V B)) j j _ wr HTB.out HBJ.out HC.out (by simp only;omega) (by have:=HLL.out;omega) HLK.out HWF.out hat);clear hat;go_wp2_with (fail);go_at_call 189;refine HLO.out.mono ?_
     rintro e w7 ⟨rfl,v7,L7,hC7,hg7,hl7,hT7⟩;have HC7:=hW_ hC7;have HA7:Hid (∀x,agL L7 x=agK V.merges (mJ (yB V B)) (j+1) x):=hW_ (fun x=>by rw[hg7,agK_succ,HA.out]);have HL7:Hid (L7.length<=j+1):=hW_ (by have:=HLL.out;omega);have HB7:Hid (Below w.heap.size w w7):=hW_ (HBJ.out.trans (fR HC.out.ag hT7 HC.out.base));clear hC7 hg7 hl7 hT7 HLO;go_wp2_with (fail);go_roundw
     case rel=>exact⟨j+1,v7,L7,by omega,by go_num,HC7,HA7,HL7,HB7⟩
     case measure=>simp[intOf];omega
    ·obtain rfl:j=k:=by omega
     have HA5:Hid (∀x,agL L x=agI V.merges (mJ (yB V B)) x):=hW_ (fun x=>by rw[HA.out,agK_all HLK.out.lt]);obtain⟨b0,b1,b2,b3,b4⟩:=HC.out.cells;simp only at b0 b1 b2 b3 b4;clear HA HC5 HB5 HBW HCH;go_wp2_with (fail);go_at_call 190;refine(jV wr HC.out.ag).mono ?_
     rintro e w8 ⟨x,ok,v8,L8,rfl,hA8,hT8,hy8,hn8⟩;have HA8:=hW_ hA8;have HT8:=hW_ hT8;have HY8:=hW_ hy8;have HN8:=hW_ hn8;clear hA8 hT8 hy8 hn8 b0 b1 b2 b3 b4;go_wp2_with (fail);have HLP:Hid (Lp w (w8.alloc (.cells #[.int .i64 x.place, .int .i64 x.order, .int .i64 x.out] 256)) ⟨w.heap.size,j,kb,g,mb,rb,lb,tb,rc,lc,tc,pg⟩ V.merges (yB V B) w8.heap.size x ok v8 (yB V B) (lfR j) ((rtR j).set m (-1)) L8 (mJ (yB V B))):=hW_ (Lp.new HC.out HLK.out HWF.out (Way.start V.merges (by rw[HRL.out];exact hn0)) HBJ.out HA5.out (by rw[xK,HRL.out];have:=HLL.out;simp only;omega) HA8.out HT8.out HY8.out HN8.out);have HCL:Hid ((mJ (yB V B)).length=j):=hW_ (by rw[xK,HRL.out]);obtain⟨W9,hW9⟩:∃W9,w8.alloc (.cells #[.int .i64 x.place, .int .i64 x.order, .int .i64 x.out] 256)=W9:=⟨_,rfl⟩;obtain⟨e9,he9⟩:∃e9,w8.heap.size=e9:=⟨_,rfl⟩;rw[hW9,he9]at HLP;rw[hW9,he9];clear hW9 he9 HC HLK HWF HBJ HA5 HLL HA8 HT8 HY8 HN8
     go_loopg [9,10] j (fun(q:Nat) p b wr=>∃(eb':Nat) (x:Ent) (ok:Bool) (va:Value) (Rw Lf Rt:List Int) (L:List Ent) (C:Ch),q=C.length/\p= .pointer (some ⟨eb',0,none⟩)/\b= .bool ok/\Hid (Lp w wr ⟨w.heap.size,j,kb,g,mb,rb,lb,tb,rc,lc,tc,pg⟩ V.merges (yB V B) eb' x ok va Rw Lf Rt L C))
     case atStart=>exact⟨e9,x,ok,v8,_,_,_,L8,_,HCL.out.symm,rfl,rfl,HLP⟩
     case round=>
      obtain⟨eb',x,ok,va,Rw,Lf,Rt,L,C,rfl,rfl,rfl,HL⟩:=hrel
      cases ok with
      | true=>
       obtain⟨hy1,hy2,hy3⟩:=HL.out.yes rfl;obtain⟨pl,od,d⟩:=x;simp only at hy1 hy2 hy3;obtain⟨pre,post,pn,q,a,b,rfl,rfl,hway⟩:=aEk HL.out.way HL.out.ln.ok hy1 hy2;have HD:=hW_ (agI_wf HM.out.2.1 HM.out.1.1 hy1);have HY3:=hW_ hy3;have HWY:=hW_ hway;obtain⟨x0,x1,x2⟩:=bC HL.out.box;simp only at x0 x1 x2;have hcnt:=HL.out.cnt;simp only[if_true]at hcnt;have HCT:=hW_ hcnt;clear hy1 hy2 hy3 hway hcnt;go_wp2_with (fail);go_at_call 191;refine(xY (c:=⟨w.heap.size,j,kb,g,mb,rb,lb,tb,rc,lc,tc,pg⟩) pn q a b od d wr HTB.out HL.out.bel HL.out.ch (by simp only;omega) (by have:=HCT.out;omega) HL.out.ln HL.out.wf HD.out HY3.out).mono ?_
       rintro e w5 ⟨rfl,v5,Rw5,Lf5,Rt5,L5,hC5,hK5,hW5,hA5,hl5,hF5⟩;have hne:=HL.out.ne;have hlt5:=(Array.getElem?_eq_some_iff.1 HL.out.box).1;have hx5:w5.heap[eb']?=some (.cells #[.int .i64 pn, .int .i64 od, .int .i64 d] 256):=(hF5.block eb' hlt5 hne.2.1 hne.2.2.1 hne.2.2.2.1 hne.2.2.2.2.1 hne.2.2.2.2.2.1 (fun e=>hne.2.2.2.2.2.2.1 e)).trans HL.out.box
       have HC5:=hW_ hC5;have HK5:=hW_ hK5;have HW5:=hW_ hW5;have HA5:=hW_ hA5;have HL5:=hW_ hl5;have HB5:Hid (Below w.heap.size w w5):=hW_ (HL.out.bel.trans (hF5.base HL.out.ch));clear hC5 hK5 hW5 hA5 hl5 hF5 hne hlt5 x0 x1 x2;obtain⟨x0,x1,x2⟩:=bC hx5;have hb6:=aA w5 (.cells #[.int .i64 pn, .int .i64 od, .int .i64 d] 256);have hC6:=HC5.out.below hb6;obtain⟨b0,b1,b2,b3,b4⟩:=hC6.cells;simp only at b0 b1 b2 b3 b4;have HTK:=hW_ (jV _ hC6.ag);have HC6:=hW_ hC6;have hbx:=heap_alloc_new w5 (.cells #[.int .i64 pn, .int .i64 od, .int .i64 d] 256);obtain⟨W6,hW6⟩:∃W6,w5.alloc (.cells #[.int .i64 pn, .int .i64 od, .int .i64 d] 256)=W6:=⟨_,rfl⟩;rw[hW6]at HTK HC6 hbx;have HB6:Hid (Below w.heap.size w W6):=hW_ (hW6▸HB5.out.trans (hb6.mono HB5.out.size));have HS6:Hid (W6.heap.size=w5.heap.size+1):=hW_ (by rw[<-hW6];simp);have HBX:=hW_ hbx;have HW6:=hW_ hW6;clear hx5 hb6 hC6 hW6 hbx;go_wp2_with (fail);rw[HW6.out];go_at_call 190;refine HTK.out.mono ?_
       rintro e w7 ⟨x7,ok7,v7,L7,rfl,hA7,hT7,hy7,hn7⟩;have k1:=(Array.getElem?_eq_some_iff.1 HC5.out.box).1;have k2:=(Array.getElem?_eq_some_iff.1 HC5.out.ag.pile.box).1;have k3:=HC5.out.ag.pile.at_.lt;have k4:=HC5.out.row.lt.2;have k5:=HC5.out.left.lt.2;have k6:=HC5.out.right.lt.2;simp only at k1 k2 k3 k4 k5 k6;have hv5:v5.ownBlock≠some w5.heap.size:=fun e=>by have:=(World.ownsRow.lt HC5.out.ag.pile.row _ e).2;omega
       have hb5:w.heap.size<=w5.heap.size:=HB5.out.size;have hs6:w5.heap.size<W6.heap.size:=by have:=HS6.out;omega
       have hx7:w7.heap[w5.heap.size]?=some (.cells #[.int .i64 pn, .int .i64 od, .int .i64 d] 256):=(hT7.block w5.heap.size hs6 (by omega) (by omega) hv5).trans HBX.out
       have HNE:Hid (w5.heap.size≠kb/\w5.heap.size≠g/\w5.heap.size≠mb/\w5.heap.size≠rb/\w5.heap.size≠lb/\w5.heap.size≠tb/\v5.ownBlock≠some w5.heap.size/\w.heap.size<=w5.heap.size):=hW_ ⟨by omega,by omega,by omega,by omega,by omega,by omega,hv5,hb5⟩;have HA7:=hW_ hA7;have HT7:=hW_ hT7;have HY7:=hW_ hy7;have HN7:=hW_ hn7;have HX7:=hW_ hx7;have yf:∀o,w7.frozen? ⟨w5.heap.size,o,none⟩=false:=fun o=>by simp[World.frozen?,hx7]
       have HS6b:=hW_ hs6;clear hA7 hT7 hy7 hn7 k1 k2 k3 k4 k5 k6 hv5 hb5 hs6 b0 b1 b2 b3 b4 x0 x1 x2;obtain⟨x0,x1,x2⟩:=bC hx7;clear hx7;have HLP:Hid (Lp w (((w7.setCell ⟨w5.heap.size,0,none⟩ (.int .i64 x7.place)).setCell ⟨w5.heap.size,1,none⟩ (.int .i64 x7.order)).setCell ⟨w5.heap.size,2,none⟩ (.int .i64 x7.out)) ⟨w.heap.size,j,kb,g,mb,rb,lb,tb,rc,lc,tc,pg⟩ V.merges (yB V B) w5.heap.size x7 ok7 v7 Rw5 Lf5 Rt5 L7 (pre++(pn,d)::post)):=hW_ (Lp.stored HC6.out HK5.out HW5.out HWY.out HB6.out HA5.out (by have h1:=HL5.out;have h2:=HCT.out;simp at h2 |-;omega) HA7.out HT7.out HY7.out HN7.out HX7.out HS6b.out HNE.out);go_wp2_with (fail)
       go_roundg (pre++(pn,d)::post).length
       case measure=>simp
       case rel=>exact⟨w5.heap.size,x7,ok7,v7,Rw5,Lf5,Rt5,L7,pre++(pn,d)::post,rfl,rfl,rfl,HLP⟩
      | false=>
       go_wp2_with (fail);have hno:=HL.out.no rfl;have HEND:Hid (C.map (·.2)=jG V B):=hW_ (by
        have h1:=HL.out.way.done (agI_none HL.out.ln.ok hno);rw[h1];unfold jG;rw[lG])
       have HP0:Hid (plC C 0=0):=hW_ (by obtain⟨a,ha⟩:=HL.out.way.zero;rw[plC_at ha];rfl);have HCN:Hid (C.length<=1048576):=hW_ (by have:=HL.out.cnt;simp at this;omega);clear hno;obtain⟨W4,hW4⟩:∃W4,W4=wr:=⟨_,rfl⟩;subst hW4;go_loopw [11,12] (fun o i wq=>∃(y:Nat),y<=C.length/\i= .int .i64 (plC C y)/\lenS o=y/\Hid (Own wq W4.heap.size o ((C.map (·.2)).take y))/\Hid (Below W4.heap.size W4 wq)) (fun o _ _=>C.length-lenS o)
       case atStart=>exact⟨0,Nat.zero_le _,by rw[HP0.out],rfl,hW_ (Own.nil _ _),hW_ (Below.refl _ _)⟩
       case round=>
        obtain⟨y,hy,rfl,hly,HO,HBQ⟩:=hrel
        by_cases hyc:y<C.length
        ·obtain⟨p,a,hat⟩:∃(p:Nat) (a:Int),C[y]?=some (p,a):=⟨_,_,List.getElem?_eq_getElem hyc⟩
         rw[plC_at hat];have hpn:=HL.out.ln.lt _ (List.mem_of_getElem? hat);have hC:=HL.out.ch.below HBQ.out;obtain⟨b0,b1,b2,b3,b4⟩:=hC.cells;have r0:=hC.row.cell (HL.out.ln.row _ _ _ hat);simp only at b0 b1 b2 b3 b4 r0 hpn;have gp:(p:Int)<(j:Int):=by omega
         have gp0:(0:Int)<=(p:Int):=by omega
         have gpn:¬(p:Int)= -1:=by omega
         have HTK:Hid ((C.map (·.2)).take y++ [a]=(C.map (·.2)).take (y+1)):=hW_ (by
          rw[<-vI (by rw[List.length_map];exact hyc)];congr 2;simp[ix,List.getD,hat])
         have HLN:Hid (((C.map (·.2)).take y).length=y):=hW_ (by rw[List.length_take,List.length_map];omega);have HAT:=hW_ hat;have HRT:=hW_ (HL.out.ln.right _ _ _ hat);clear hat hC hpn;go_wp2_with (at_builtin;refine iE rfl _ _ rfl (base:=W4.heap.size) (k:=y) (y:=a) rfl (by exact World.ownsRow.alloc HO.out _) HLN.out rfl (by exact yS (by simp)) (by have:=HCN.out;omega) (by have:=HBQ.out.size;simp;omega) ?_;intro gg cap w2 ho2 hg2 hat2;have hb2:Below W4.heap.size W4 w2:=Below.grown (HBQ.out.trans (Below.mono (by exact pJ rfl rfl rfl rfl) HBQ.out.size)) hg2 (by have:=HBQ.out.size;simp;omega) (fun q hq=>(World.ownsRow.lt HO.out q hq).1);obtain⟨d0,d1,d2,d3,d4⟩:=(HL.out.ch.below hb2).cells;have t0:=(HL.out.ch.below hb2).right.cell HRT.out;rw[nxt_pl]at t0;simp only at d0 d1 d2 d3 d4 t0;have HO2:=hW_ ho2;have HB2:=hW_ hb2;clear ho2 hg2 hat2 hb2);go_roundw
         case rel=>exact⟨y+1,by omega,rfl,rfl,hW_ (by rw[<-HTK.out];exact HO2.out),HB2⟩
         case measure=>rw[hly];show C.length-(y+1)<C.length-y;omega
        ·obtain rfl:y=C.length:=by omega
         have hpe:plC C C.length= -1:=plC_end (Nat.le_refl _);rw[hpe];clear hpe;go_wp2_with (fail);go_ret;refine⟨_,rfl,?_,HL.out.bel.trans (HBQ.out.mono HL.out.bel.size)⟩;have h1:=HO.out.mono HL.out.bel.size;rw[List.take_of_length_le (by simp),HEND.out]at h1;exact h1
def aBl (p:Pt):Bool:=decide (p.cls=3) || decide (p.cls=4)
def bB (L:List Pt) (i:Nat) (c:Int):Nat:=((L.drop i).takeWhile (fun p=>decide (p.cls=c))).length
def spN (L:List Pt) (i:Nat):Nat:=((L.drop i).takeWhile aBl).length
def nsN (L:List Pt) (i:Nat):Nat:=((L.drop i).takeWhile (fun p=>!aBl p)).length
def isC (L:List Pt) (i:Nat) (c:Int):Bool:=match L[i]? with | some p=>decide (p.cls=c) | none=>false
def spC (L:List Pt) (i:Nat):Bool:=match L[i]? with | some p=>aBl p | none=>false
def qE (L:List Pt) (i:Nat):Bool:=match L[i]? with | some p=>p.sure | none=>false
def cdOf (wide:Bool) (p:Pt):Int:=if wide=true/\65<=p.code/\p.code<=90 then p.code+32 else p.code
def cdC (L:List Pt) (wide:Bool) (i:Nat):Int:=match L[i]? with | some p=>cdOf wide p | none=> -1
def ptC (L:List Pt) (i:Nat):Pt:=match L[i]? with | some p=>p | none=>⟨0,0,0,false⟩
def cD (L:List Pt):Nat->Nat
 | 0=>0
 | n+1=>if isC L n 4 then n+1 else cD L n
def R7 (c:Int):Prop:=c=115\/c=116\/c=109\/c=100
instance (c:Int):Decidable (R7 c):=by unfold R7;infer_instance
def N8 (c:Int):Prop:=c=114\/c=118\/c=108
instance (c:Int):Decidable (N8 c):=by unfold N8;infer_instance
def rO (c d:Int):Prop:=(c=114/\d=101)\/(c=118/\d=101)\/(c=108/\d=108)
instance (c d:Int):Decidable (rO c d):=by unfold rO;infer_instance
def kD (L:List Pt) (wide:Bool):Nat:=if cdC L wide 0≠39 then 0 else if R7 (cdC L wide 1)then 2 else if rO (cdC L wide 1) (cdC L wide 2)then 3 else 0
def A7 (L:List Pt) (c:Int):Nat:=if(ptC L 0).code=32/\isC L 1 c=true then 1+bB L 1 c else bB L 0 c
def qA (L:List Pt):Nat×Nat:=if spN L 0<L.length/\1<spN L 0 then(spN L 0-1,spN L 0+1)else(spN L 0,spN L 0+1)
def E4 (L:List Pt):Nat×Nat:=
 if 0<kD L false then(kD L false,kD L false)
 else if 0<A7 L 1 then(A7 L 1,A7 L 1+1)
 else if 0<A7 L 2 then(A7 L 2,A7 L 2+1)
 else if 0<A7 L 0 then(A7 L 0,A7 L 0+1)
 else qA L
def E6 (L:List Pt):Bool:=decide ((ptC L 0).cls=0) || decide ((ptC L 0).cls=3)
def nH (L:List Pt):Nat×Nat:=
 if 0<kD L true then(kD L true,kD L true)
 else if 0<bB L 0 1 then(bB L 0 1,bB L 0 1+1)
 else if E6 L=true/\isC L 1 1=true then(1+bB L 1 1,1+bB L 1 1+1)
 else if 0<bB L 0 2 then(min (bB L 0 2) 3,min (min (bB L 0 2) 3+1) 3)
 else if 0<A7 L 0 then(A7 L 0+bB L (A7 L 0) 4,A7 L 0+bB L (A7 L 0) 4+1)
 else if 0<cD L (spN L 0)then(cD L (spN L 0),spN L 0+1)
 else qA L
def J8 (L:List Pt):Nat×Nat:=(spN L 0+nsN L (spN L 0),spN L 0+nsN L (spN L 0)+1)
def iD (kind:Int) (L:List Pt):Nat×Nat:=if kind=1 then J8 L else if kind=2 then E4 L else nH L
def D9 (L:List Pt) (wide:Bool):Prop:=cdC L wide 0=39/\A8 L<3/\(A8 L<2\/N8 (cdC L wide 1))
instance (L:List Pt) (wide:Bool):Decidable (D9 L wide):=by unfold D9;infer_instance
def A5 (kind:Int) (t:List Rg) (b:List Int) (final:Bool):Int×Bool:=
 if kind=0 then((b.length:Int),final)
 else(jB (pts t b) (iD kind (pts t b)).1,final || (decide ((iD kind (pts t b)).2<=A8 (pts t b)) && (decide (kind=1) || !decide (D9 (pts t b) (decide (kind=3))))))
theorem dI {α:Type} (p:α->Bool) (L:List α) (i:Nat):i+((L.drop i).takeWhile p).length<=max i L.length:=by
 have h1:=List.takeWhile_prefix (l:=L.drop i) p;have:=h1.length_le;rw[List.length_drop]at this;omega
theorem C2 (L:List Pt) (i:Nat) (c:Int):i+bB L i c<=max i L.length:=dI _ L i
theorem aJ (L:List Pt) (i:Nat):i+spN L i<=max i L.length:=dI _ L i
theorem nsN_le (L:List Pt) (i:Nat):i+nsN L i<=max i L.length:=dI _ L i
theorem oH {α:Type} {p:α->Bool} {L:List α} {i:Nat} {x:α} (h:L[i]?=some x):((L.drop i).takeWhile p).length=if p x=true then((L.drop (i+1)).takeWhile p).length+1 else 0:=by
 have hi:=(List.getElem?_eq_some_iff.1 h).1;have e:L.drop i=x::L.drop (i+1):=by
  rw[List.drop_eq_getElem_cons hi];congr 1;have:=List.getElem?_eq_getElem hi;rw[h]at this;simpa using this.symm
 rw[e,List.takeWhile_cons];split
 ·simp
 ·simp
theorem wV {α:Type} {p:α->Bool} {L:List α} {i:Nat} (h:L[i]?=none):((L.drop i).takeWhile p).length=0:=by
 rw[List.drop_eq_nil_of_le (by simpa using h)];rfl
theorem bK {L:List Pt} {i:Nat} {c:Int} (h:isC L i c=true):bB L i c=bB L (i+1) c+1/\i<L.length:=by
 unfold isC at h
 cases hp:L[i]? with
 | none=>rw[hp]at h;simp at h
 | some p=>
  rw[hp]at h;unfold bB;rw[oH hp,if_pos (by simpa using h)];exact⟨rfl,(List.getElem?_eq_some_iff.1 hp).1⟩
theorem aBV {L:List Pt} {i:Nat} {c:Int} (h:isC L i c=false):bB L i c=0:=by
 unfold isC at h;unfold bB
 cases hp:L[i]? with
 | none=>exact wV hp
 | some p=>rw[hp]at h;rw[oH hp,if_neg (by simpa using h)]
theorem V4 {L:List Pt} {i:Nat} (h:spC L i=true):spN L i=spN L (i+1)+1/\i<L.length:=by
 unfold spC at h
 cases hp:L[i]? with
 | none=>rw[hp]at h;simp at h
 | some p=>
  rw[hp]at h;unfold spN;rw[oH hp,if_pos (by simpa using h)];exact⟨rfl,(List.getElem?_eq_some_iff.1 hp).1⟩
theorem spN_no {L:List Pt} {i:Nat} (h:spC L i=false):spN L i=0:=by
 unfold spC at h;unfold spN
 cases hp:L[i]? with
 | none=>exact wV hp
 | some p=>rw[hp]at h;rw[oH hp,if_neg (by simpa using h)]
theorem aCe {L:List Pt} {i:Nat} (hi:i<L.length) (h:spC L i=false):nsN L i=nsN L (i+1)+1:=by
 unfold spC at h;unfold nsN;rw[List.getElem?_eq_getElem hi]at h;rw[oH (List.getElem?_eq_getElem hi),if_pos (by simpa using h)]
theorem nsN_no {L:List Pt} {i:Nat} (h:¬i<L.length\/spC L i=true):nsN L i=0:=by
 unfold nsN
 cases hp:L[i]? with
 | none=>exact wV hp
 | some p=>
  have hi:=(List.getElem?_eq_some_iff.1 hp).1;have h2:spC L i=true:=h.resolve_left (fun g=>g hi);unfold spC at h2;rw[hp]at h2;rw[oH hp,if_neg (by simpa using h2)]
theorem I1 (L:List Pt):∀n,cD L n<=n
 | 0=>Nat.le_refl _
 | n+1=>by
  have:=I1 L n;simp only[cD];split<;>omega
theorem zN {L:List Pt} {i:Nat} {c:Int} (h:isC L i c=true):i<L.length:=(bK h).2
theorem aCD {L:List Pt} {w:Bool} {i:Nat} (h:cdC L w i≠ -1):i<L.length:=by
 unfold cdC at h
 cases hp:L[i]? with
 | none=>rw[hp]at h;simp at h
 | some p=>exact(List.getElem?_eq_some_iff.1 hp).1
theorem gL (L:List Pt) (w:Bool):kD L w<=L.length:=by
 unfold kD;split
 ·omega
 ·split
  ·next h=>have:=aCD (L:=L) (w:=w) (i:=1) (by unfold R7 at h;omega);omega
  ·split
   ·next h=>have:=aCD (L:=L) (w:=w) (i:=2) (by unfold rO at h;omega);omega
   ·omega
theorem kE (L:List Pt) (c:Int):A7 L c<=L.length:=by
 unfold A7;split
 ·next h=>have:=C2 L 1 c;have:=zN h.2;omega
 ·have:=C2 L 0 c;omega
theorem aAB (L:List Pt):(qA L).1<=L.length/\1<=(qA L).2:=by
 have:=aJ L 0;unfold qA;split<;>simp<;>omega
theorem pP {L:List Pt} (h:0<spN L 0):1<=(qA L).1:=by
 unfold qA;split<;>simp<;>omega
theorem cO (kind:Int) (L:List Pt):(iD kind L).1<=L.length/\1<=(iD kind L).2:=by
 have hs:=aAB L;unfold iD;split
 ·unfold J8;have:=aJ L 0;have:=nsN_le L (spN L 0);simp;omega
 ·split
  ·unfold E4;have:=gL L false;have:=kE L 0;have:=kE L 1;have:=kE L 2
   repeat' split
   all_goals first
    | exact hs
    | (simp only;omega)
  ·unfold nH;have:=gL L true;have:=C2 L 0 1;have:=C2 L 0 2;have:=kE L 0;have:=C2 L (A7 L 0) 4;have:=I1 L (spN L 0);have:=aJ L 0
   repeat' split
   all_goals first
    | exact hs
    | (simp only;omega)
    | (rename_i h _ _ _;have:=C2 L 1 1;have:=zN h.2;simp only;omega)
    | (rename_i h;have:=C2 L 1 1;have:=zN h.2;simp only;omega)
theorem tR {L:List Pt} {c:Int} (h:0<L.length) (hc:(ptC L 0).cls=c):0<bB L 0 c:=by
 have:isC L 0 c=true:=by
  unfold isC ptC at *
  cases hp:L[0]? with
  | none=>have:=List.getElem?_eq_none_iff.1 hp;omega
  | some p=>rw[hp]at hc;simpa using hc
 have:=(bK this).1;omega
theorem aBR {L:List Pt} (h:0<L.length) (hc:(ptC L 0).cls=3\/(ptC L 0).cls=4):0<spN L 0:=by
 have:spC L 0=true:=by
  unfold spC ptC at *
  cases hp:L[0]? with
  | none=>have:=List.getElem?_eq_none_iff.1 hp;omega
  | some p=>rw[hp]at hc;simpa[aBl]using hc
 have:=(V4 this).1;omega
theorem nsN_pos {L:List Pt} (h:0<L.length) (hc:spC L 0=false):0<nsN L 0:=by
 have:=aCe h hc;omega
theorem yN {L:List Pt} {c:Int} (h:0<L.length) (hc:(ptC L 0).cls=c):0<A7 L c:=by
 unfold A7;split
 ·omega
 ·exact tR h hc
theorem uZ {kind:Int} {L:List Pt} (h:0<L.length) (hg:∀p∈L,S5 p):1<=(iD kind L).1:=by
 have h0:S5 (ptC L 0):=by
  unfold ptC;rw[List.getElem?_eq_getElem h];exact hg _ (List.getElem_mem h)
 obtain⟨_,_,g1,g2⟩:=h0;unfold iD;split
 ·unfold J8
  cases hs:spC L 0 with
  | true=>have:=(V4 hs).1;simp only;omega
  | false=>
   have e:=spN_no hs;rw[e];have:=nsN_pos h hs;simp only;omega
 ·split
  ·unfold E4
   repeat' split
   all_goals first
    | (simp only;omega)
    | skip
   next h1 h2 h3 h4=>
    refine pP (aBR h ?_);have a1:(ptC L 0).cls≠1:=fun e=>h2 (yN h e)
    have a2:(ptC L 0).cls≠2:=fun e=>h3 (yN h e)
    have a0:(ptC L 0).cls≠0:=fun e=>h4 (yN h e)
    omega
  ·unfold nH
   repeat' split
   all_goals first
    | (simp only;omega)
    | skip
   next h1 h2 h3 h4 h5 h6=>
    refine pP (aBR h ?_);have a1:(ptC L 0).cls≠1:=fun e=>h2 (tR h e)
    have a2:(ptC L 0).cls≠2:=fun e=>h4 (tR h e)
    have a0:(ptC L 0).cls≠0:=fun e=>h5 (yN h e)
    omega
theorem F1 {kind:Int} {t:List Rg} (ht:oA t) {b:List Int} (hb:∀x∈b,0<=x/\x<256) (h0:b≠[]) (final:Bool):1<=(A5 kind t b final).1/\(A5 kind t b final).1<=b.length:=by
 have hl:=List.length_pos_iff.2 h0;unfold A5;split
 ·simp only;omega
 ·have hp:=aBY (t:=t) h0;have h1:=uZ (kind:=kind) hp (cY ht hb);have h2:=cO kind (pts t b);have h3:=tF (t:=t) b (iD kind (pts t b)).1;simp only;omega
theorem uH (kind:Int) (t:List Rg) (b:List Int):(A5 kind t b true).2=true:=by
 unfold A5;split<;>simp
theorem aCl (kind:Int) (t:List Rg) (b:List Int) (f g:Bool):(A5 kind t b f).1=(A5 kind t b g).1:=by
 unfold A5;split<;>simp
def isB (x:Int):Bool:=decide (0<=x) && decide (x<256)
theorem C6 {x:Int}:isB x=true↔0<=x/\x<256:=by simp[isB]
def pA (text:List Int):List Int:=text.takeWhile isB
theorem bJ {text:List Int}:∀x∈pA text,0<=x/\x<256:=by
 induction text with
 | nil=>intro x hx;simp[pA]at hx
 | cons c l ih=>
  intro x hx;unfold pA at hx ih;rw[List.takeWhile_cons]at hx;split at hx
  ·next hc=>
   rcases List.mem_cons.1 hx with rfl | h
   ·exact C6.1 hc
   ·exact ih x h
  ·simp at hx
theorem fN (text:List Int):(pA text).length<=text.length:=(List.takeWhile_prefix isB).length_le
def xA (kind:Int) (t:List Rg) (final:Bool):Nat->List Int->Bool->List (Int×Bool)
 | 0,_,_=>[]
 | k+1,text,op=>if text= []then []
  else if pA text= []then(1,true)::xA kind t final k (text.drop 1) op
  else((A5 kind t (pA text) (final || decide ((pA text).length<text.length))).1,!(op || !(A5 kind t (pA text) (final || decide ((pA text).length<text.length))).2)) ::
   xA kind t final k (text.drop (A5 kind t (pA text) (final || decide ((pA text).length<text.length))).1.toNat) (op || !(A5 kind t (pA text) (final || decide ((pA text).length<text.length))).2)
def zA (kind:Int) (t:List Rg) (text:List Int) (final:Bool):List (Int×Bool):=xA kind t final text.length text false
section
variable {kind:Int} {t:List Rg} {final:Bool}
theorem xC (k:Nat) (op:Bool):xA kind t final k [] op= []:=by cases k<;>simp[xA]
theorem yC (ht:oA t):∀{k j:Nat} {text:List Int} {op:Bool},text.length<=k->text.length<=j->xA kind t final k text op=xA kind t final j text op
 | 0,j,text,op,h,_=>by
  have:text= []:=List.eq_nil_of_length_eq_zero (by omega);subst this;rw[xC,xC]
 | k+1,0,text,op,_,h=>by
  have:text= []:=List.eq_nil_of_length_eq_zero (by omega);subst this;rw[xC,xC]
 | k+1,j+1,text,op,h1,h2=>by
  simp only[xA]
  by_cases h0:text= []
  ·rw[if_pos h0,if_pos h0]
  ·have hl:=List.length_pos_iff.2 h0;rw[if_neg h0,if_neg h0]
   by_cases hr:pA text= []
   ·rw[if_pos hr,if_pos hr,yC ht (k:=k) (j:=j) (text:=text.drop 1) (by simp only[List.length_drop];omega) (by simp only[List.length_drop];omega)]
   ·rw[if_neg hr,if_neg hr];have hn:=F1 (kind:=kind) ht bJ hr (final || decide ((pA text).length<text.length));rw[yC ht (k:=k) (j:=j) (text:=text.drop _) (by simp only[List.length_drop];omega) (by simp only[List.length_drop];omega)]
theorem zC {k:Nat} {m:Int} {l:List Int} {op:Bool} (hm:isB m=false):xA kind t final (k+1) (m::l) op=(1,true)::xA kind t final k l op:=by
 simp only[xA];rw[if_neg (by simp),if_pos (by simp[pA,hm])];rfl
theorem wC {k:Nat} {text:List Int} {op:Bool} (hr:pA text≠[]) {n:Int} {d:Bool} (hn:A5 kind t (pA text) (final || decide ((pA text).length<text.length))=(n,d)):
  xA kind t final (k+1) text op=(n,!(op || !d))::xA kind t final k (text.drop n.toNat) (op || !d):=by
 have h0:text≠[]:=fun e=>hr (by rw[e];rfl)
 simp only[xA];rw[if_neg h0,if_neg hr,hn]
def qC (run:List Int):List Int->List (List Int×Bool)
 | []=>[(run,false)]
 | s::l=>if isB s then qC (run++ [s]) l else(run,true)::qC [] l
def uA (kind:Int) (t:List Rg) (final:Bool):Nat->List Int->Bool->List (Int×Bool)×Bool
 | 0,_,sure=>([],sure)
 | k+1,run,sure=>if run= []then([],sure)else
  (((A5 kind t run final).1,sure && (A5 kind t run final).2)::(uA kind t final k (run.drop (A5 kind t run final).1.toNat) (sure && (A5 kind t run final).2)).1,
   (uA kind t final k (run.drop (A5 kind t run final).1.toNat) (sure && (A5 kind t run final).2)).2)
def jE (kind:Int) (t:List Rg) (final:Bool) (st:List (Int×Bool)×Bool) (r:List Int×Bool):List (Int×Bool)×Bool:=
 (st.1++(uA kind t (r.2 || final) r.1.length r.1 st.2).1++(if r.2=true then [(1,(uA kind t (r.2 || final) r.1.length r.1 st.2).2)]else []),(uA kind t (r.2 || final) r.1.length r.1 st.2).2)
theorem wP {run:List Int} (h:∀x∈run,0<=x/\x<256):pA run=run:=by
 have:=List.takeWhile_append_of_pos (p:=isB) (l₁:=run) (l₂:=[]) (fun x hx=>C6.2 (h x hx));simpa[pA]using this
theorem aAJ {run l:List Int} {m:Int} (h:∀x∈run,0<=x/\x<256) (hm:isB m=false):pA (run++m::l)=run:=by
 unfold pA;rw[List.takeWhile_append_of_pos (fun x hx=>C6.2 (h x hx))];simp[hm]
theorem nR (ht:oA t):∀{k:Nat} {run:List Int} {op:Bool},run.length<=k->(∀x∈run,0<=x/\x<256)->xA kind t final k run op=(uA kind t final k run (!op)).1
 | 0,run,op,h,_=>by simp[xA,uA]
 | k+1,run,op,h,hb=>by
  by_cases h0:run= []
  ·subst h0;simp[xA,uA]
  ·have hr:=wP hb;have hn:=F1 (kind:=kind) ht hb h0 final;rw[wC (n:=(A5 kind t run final).1) (d:=(A5 kind t run final).2) (by rw[hr];exact h0) (by rw[hr];simp)];simp only[uA];rw[if_neg h0];have ih:=nR ht (k:=k) (run:=run.drop (A5 kind t run final).1.toNat) (op:=op || !(A5 kind t run final).2) (by simp only[List.length_drop];omega) (fun x hx=>hb x (List.mem_of_mem_drop hx));rw[ih];have e:(!(op || !(A5 kind t run final).2))=(!op && (A5 kind t run final).2):=by cases op<;>cases (A5 kind t run final).2<;>rfl
   rw[e]
theorem rN:∀{k:Nat} {run:List Int},(uA kind t true k run true).2=true
 | 0,run=>rfl
 | k+1,run=>by
  simp only[uA];split
  ·rfl
  ·rw[uH];exact rN
theorem sU (ht:oA t) {m:Int} (hm:isB m=false) (l:List Int):∀{k:Nat} {run:List Int},run.length<=k->(∀x∈run,0<=x/\x<256)->
  xA kind t final (k+1+l.length) (run++m::l) false=(uA kind t true k run true).1++(1,true)::xA kind t final l.length l false
 | 0,run,h,_=>by
  have:run= []:=List.eq_nil_of_length_eq_zero (by omega);subst this;rw[show 0+1+l.length=l.length+1 by omega];simp only[List.nil_append,uA];exact zC hm
 | k+1,run,h,hb=>by
  by_cases h0:run= []
  ·subst h0;simp only[List.nil_append,uA,if_true];rw[show k+1+1+l.length=(k+1+l.length)+1 by omega,zC hm,yC ht (k:=k+1+l.length) (j:=l.length) (by omega) (Nat.le_refl _)]
  ·have hr:=aAJ (l:=l) hb hm;have hn:=F1 (kind:=kind) ht hb h0 true;have hf:=uH kind t run;have hlt:(decide (run.length<(run++m::l).length))=true:=by simp
   rw[show k+1+1+l.length=(k+1+l.length)+1 by omega];rw[wC (n:=(A5 kind t run true).1) (d:=true) (by rw[hr];exact h0) (by rw[hr,hlt,Bool.or_true];exact Prod.ext rfl hf)];simp only[uA];rw[if_neg h0,hf];have e:(run++m::l).drop (A5 kind t run true).1.toNat=run.drop (A5 kind t run true).1.toNat++m::l:=List.drop_append_of_le_length (by omega);have ih:=sU ht hm l (k:=k) (run:=run.drop (A5 kind t run true).1.toNat) (by simp only[List.length_drop];omega) (fun x hx=>hb x (List.mem_of_mem_drop hx));simp only[Bool.or_false,Bool.not_true,Bool.not_false,Bool.and_true,List.cons_append];rw[e,ih]
theorem yP (ht:oA t):∀{k j:Nat} {run:List Int} {sure:Bool},run.length<=k->run.length<=j->(∀x∈run,0<=x/\x<256)->uA kind t final k run sure=uA kind t final j run sure
 | 0,0,run,sure,_,_,_=>rfl
 | 0,j+1,run,sure,h,_,_=>by
  have:run= []:=List.eq_nil_of_length_eq_zero (by omega);subst this;simp[uA]
 | k+1,0,run,sure,_,h,_=>by
  have:run= []:=List.eq_nil_of_length_eq_zero (by omega);subst this;simp[uA]
 | k+1,j+1,run,sure,h1,h2,hb=>by
  simp only[uA]
  by_cases h0:run= []
  ·rw[if_pos h0,if_pos h0]
  ·rw[if_neg h0,if_neg h0];have hn:=F1 (kind:=kind) ht hb h0 final;rw[yP ht (k:=k) (j:=j) (run:=run.drop (A5 kind t run final).1.toNat) (by simp only[List.length_drop];omega) (by simp only[List.length_drop];omega) (fun x hx=>hb x (List.mem_of_mem_drop hx))]
theorem nM (ht:oA t):∀{text run:List Int} {acc:List (Int×Bool)},(∀x∈run,0<=x/\x<256)->
  ((qC run text).foldl (jE kind t final) (acc,true)).1=acc++zA kind t (run++text) final
 | [],run,acc,hb=>by
  simp only[qC,List.foldl_cons,List.foldl_nil,jE,Bool.false_or,Bool.false_eq_true,if_false,List.append_nil,zA];rw[nR ht (Nat.le_refl _) hb];simp
 | s::l,run,acc,hb=>by
  simp only[qC]
  cases hs:isB s with
  | true=>
   simp only[if_true];rw[nM ht (text:=l) (run:=run++ [s]) (fun x hx=>by
    rcases List.mem_append.1 hx with h | h
    ·exact hb x h
    ·simp at h;subst h;exact C6.1 hs)]
   simp
  | false=>
   simp only[Bool.false_eq_true,if_false,List.foldl_cons];have hp:=rN (kind:=kind) (t:=t) (k:=run.length) (run:=run);have e:jE kind t final (acc,true) (run,true)=(acc++(uA kind t true run.length run true).1++ [(1,true)],true):=by
    simp only[jE,Bool.true_or,if_true,hp]
   rw[e,nM ht (text:=l) (run:=[]) (by simp)];have h2:=sU (kind:=kind) (t:=t) (final:=final) ht hs l (k:=run.length) (run:=run) (Nat.le_refl _) hb;unfold zA;rw[show(run++s::l).length=run.length+1+l.length by simp;omega,h2];simp
end
end Go.Proofs.YtahiballegpbgaaGreatDoor
