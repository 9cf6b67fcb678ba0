/- What the document says of code points, of scanners and of pieces, in plain Lean: no program here. -/
import Derived.Test.YtjlokfejnijokaaGreatDoorH7
import Derived.Test.YtjlokfejnijokaaGreatDoorH1
import Derived.Test.YtjlokfejnijokaaGreatDoorH18
import Derived.Deep.AppendLies
import Derived.Deep.RegionLaw
import Derived.Deep.LoopGhost
set_option linter.unusedVariables false
set_option maxHeartbeats 1000000
set_option maxRecDepth 100000
namespace Go.Proofs.YtjlokfejnijokaaGreatDoor
open Go
def dG (final:Bool) (n:Int):Nat->Int->Int->Int->List Int->Int×Int×Bool
 | 0,p,_,_,_=>(p,n,false)
 | _+1,_,_,_,[]=>if final then(-1,1,false)else(-1,0,true)
 | k+1,p,lo,hi,x::l=>if x<lo\/hi<x then(-1,1,false)else dG final n k (p*64+x % 64) 128 191 l
def cB (c:Int):Nat×Int×Int×Int:=
 if c<128 then(1,c,0,0)
 else if c<194\/244<c then(0,0,0,0)
 else if c<224 then(2,c % 32,128,191)
 else if c=224 then(3,0,160,191)
 else if c=237 then(3,c % 16,128,159)
 else if c<240 then(3,c % 16,128,191)
 else if c=240 then(4,0,144,191)
 else if c=244 then(4,c % 8,128,143)
 else(4,c % 8,128,191)
def dec (final:Bool):List Int->Int×Int×Bool
 | []=>(-1,0,true)
 | c::l=>if(cB c).1=0 then(-1,1,false)else dG final (cB c).1 ((cB c).1-1) (cB c).2.1 (cB c).2.2.1 (cB c).2.2.2 l
theorem aAW {final:Bool} {n:Int}:∀{k:Nat} {p lo hi:Int} {l:List Int},(n=(k:Int)+1\/(k:Int)+1<=n)->1<=n->
  let r:=dG final n k p lo hi l
  (r.2.2=true->final=false/\r.2.1=0)/\(r.2.2=false->1<=r.2.1/\r.2.1<=n/\(r.2.1=1\/(r.2.1=n/\k<=l.length)))
 | 0,p,lo,hi,l,_,h1=>by simp[dG,h1]
 | k+1,p,lo,hi,[],_,h1=>by
  cases final<;>simp[dG,h1]
 | k+1,p,lo,hi,x::l,h,h1=>by
  simp only[dG];split
  ·simp[h1]
  ·have ih:=aAW (final:=final) (n:=n) (k:=k) (p:=p*64+x % 64) (lo:=128) (hi:=191) (l:=l) (by omega) h1;refine⟨ih.1,fun h2=> ?_⟩;obtain⟨a,b,c⟩:=ih.2 h2;refine⟨a,b,c.imp_right fun⟨e,f⟩=>⟨e,by simp;omega⟩⟩
theorem uW (c:Int):(cB c).1<=4:=by
 unfold cB
 repeat' split
 all_goals simp
theorem cT {final:Bool} {b:List Int} (hb:b≠[]):((dec final b).2.2=true->final=false/\(dec final b).2.1=0)/\((dec final b).2.2=false->1<=(dec final b).2.1/\(dec final b).2.1<=b.length/\(dec final b).2.1<=4):=by
 cases b with
 | nil=>exact absurd rfl hb
 | cons c l=>
  simp only[dec];have h4:=uW c;split
  ·simp;omega
  ·next h0=>
   have h:=aAW (final:=final) (n:=((cB c).1:Int)) (k:=(cB c).1-1) (p:=(cB c).2.1) (lo:=(cB c).2.2.1) (hi:=(cB c).2.2.2) (l:=l) (by omega) (by omega);refine⟨h.1,fun h2=> ?_⟩;obtain⟨a,b',c'⟩:=h.2 h2;refine⟨a,?_,by omega⟩;simp only[List.length_cons];omega
structure Pt where
 code:Int
 cls:Int
 n:Int
 sure:Bool
instance :Inhabited Pt:=⟨⟨0,0,0,false⟩⟩
def xG (t:List Rg) (p:Int):Int:=match t.find? (fun r=>decide (r.lo<=p) && decide (p<=r.hi))with
 | some r=>r.cls
 | none=>0
def iB:Pt:=⟨-1,0,1,false⟩
def cM (t:List Rg):Nat->List Int->List Pt
 | 0,_=>[]
 | k+1,b=>if b= []then []else if(dec false b).2.2=true then b.map (fun _=>iB)
  else⟨(dec false b).1,xG t (dec false b).1,(dec false b).2.1,true⟩::cM t k (b.drop (dec false b).2.1.toNat)
def pts (t:List Rg) (b:List Int):List Pt:=cM t b.length b
theorem aK (t:List Rg) (k:Nat):cM t k []= []:=by cases k<;>simp[cM]
theorem P5 (t:List Rg):∀{k j:Nat} {b:List Int},b.length<=k->b.length<=j->cM t k b=cM t j b
 | 0,j,b,h,_=>by
  have:b= []:=List.eq_nil_of_length_eq_zero (by omega);subst this;rw[aK,aK]
 | k+1,0,b,_,h=>by
  have:b= []:=List.eq_nil_of_length_eq_zero (by omega);subst this;rw[aK,aK]
 | k+1,j+1,b,h1,h2=>by
  simp only[cM]
  by_cases hb:b= []
  ·simp[hb]
  ·rw[if_neg hb,if_neg hb];split
   ·rfl
   ·next hm=>
    have hn:=(cT (final:=false) hb).2 (by simpa using hm);rw[P5 t (k:=k) (j:=j) (b:=b.drop (dec false b).2.1.toNat) (by simp;omega) (by simp;omega)]
theorem P4 (t:List Rg) {b:List Int} (hb:b≠[]) (hm:(dec false b).2.2=true):pts t b=b.map (fun _=>iB):=by
 unfold pts
 cases b with
 | nil=>exact absurd rfl hb
 | cons c l=>simp only[List.length_cons,cM];rw[if_neg (by simp),if_pos hm]
theorem tH (t:List Rg) {b:List Int} (hb:b≠[]) (hm:(dec false b).2.2=false):
  pts t b=⟨(dec false b).1,xG t (dec false b).1,(dec false b).2.1,true⟩::pts t (b.drop (dec false b).2.1.toNat):=by
 have hn:=(cT (final:=false) hb).2 hm;unfold pts
 cases b with
 | nil=>exact absurd rfl hb
 | cons c l=>
  simp only[List.length_cons,cM];rw[if_neg (by simp),if_neg (by rw[hm];simp)];rw[P5 t (k:=l.length) (j:=((c::l).drop (dec false (c::l)).2.1.toNat).length) (by simp only[List.length_drop,List.length_cons]at hn |-;omega) (Nat.le_refl _)]
theorem bP {t:List Rg} {P:List Int->List Pt->Prop} (h0:P [] []) (h1:∀b,b≠[]->(dec false b).2.2=true->P b (b.map (fun _=>iB)))
  (h2:∀b,b≠[]->(dec false b).2.2=false->P (b.drop (dec false b).2.1.toNat) (pts t (b.drop (dec false b).2.1.toNat))->P b (pts t b)) (b:List Int):P b (pts t b):=by
 induction hn:b.length using Nat.strongRecOn generalizing b with
 | _ n ih=>
  by_cases hb:b= []
  ·subst hb;exact h0
  ·cases hm:(dec false b).2.2 with
   | true=>rw[P4 t hb hm];exact h1 b hb hm
   | false=>
    have h3:=(cT (final:=false) hb).2 hm;exact h2 b hb hm (ih _ (by simp only[List.length_drop];omega) _ rfl)
theorem pts_pos {t:List Rg} {b:List Int} (hb:b≠[]):0<(pts t b).length:=by
 cases hm:(dec false b).2.2 with
 | true=>rw[P4 t hb hm];simp;exact List.length_pos_iff.2 hb
 | false=>rw[tH t hb hm];simp
theorem sum_ones (l:List Int):(l.map (Pt.n∘fun _=>iB)).sum=(l.length:Int):=by
 induction l with
 | nil=>rfl
 | cons c l ih=>
  rw[List.map_cons,List.sum_cons,ih,List.length_cons];simp[iB];omega
def dB (L:List Pt) (n:Nat):Int:=((L.take n).map Pt.n).sum
theorem pts_n1 {t:List Rg} (b:List Int):∀p∈pts t b,1<=p.n:=by
 refine bP (P:=fun b L=>∀p∈L,1<=p.n) (by simp) ?_ ?_ b
 ·intro b _ _ p hp;obtain⟨_,_,rfl⟩:=List.mem_map.1 hp;simp[iB]
 ·intro b hb hm ih p hp;rw[tH t hb hm]at hp;rcases List.mem_cons.1 hp with rfl | h
  ·exact((cT hb).2 hm).1
  ·exact ih p h
theorem aAA {t:List Rg} (b:List Int):((pts t b).map Pt.n).sum=(b.length:Int):=by
 refine bP (P:=fun b L=>(L.map Pt.n).sum=(b.length:Int)) (by simp) ?_ ?_ b
 ·intro b _ _;rw[List.map_map];exact sum_ones b
 ·intro b hb hm ih;have h3:=(cT (final:=false) hb).2 hm;rw[tH t hb hm];simp only[List.map_cons,List.sum_cons,ih,List.length_drop];omega
theorem zT {L:List Pt} (h:∀p∈L,1<=p.n):(L.length:Int)<=(L.map Pt.n).sum:=by
 induction L with
 | nil=>simp
 | cons p L ih=>
  have h1:=h p (by simp);have h2:=ih fun q hq=>h q (by simp[hq])
  simp only[List.map_cons,List.sum_cons,List.length_cons];omega
theorem aF {t:List Rg} (b:List Int) (n:Nat):((min n (pts t b).length:Nat):Int)<=dB (pts t b) n/\dB (pts t b) n<=b.length:=by
 have h:=pts_n1 (t:=t) b;have hs:=aAA (t:=t) b;unfold dB;have e:(pts t b).map Pt.n=((pts t b).take n).map Pt.n++((pts t b).drop n).map Pt.n:=by rw[<-List.map_append,List.take_append_drop]
 have h1:=zT (L:=(pts t b).take n) fun p hp=>h p (List.mem_of_mem_take hp)
 have h2:=zT (L:=(pts t b).drop n) fun p hp=>h p (List.mem_of_mem_drop hp)
 rw[e,List.sum_append]at hs;rw[List.length_take]at h1;constructor
 ·exact h1
 ·omega
def C1 (L:List Pt):Nat:=(L.takeWhile (fun p=>p.sure)).length
def Q5 (p:Pt):Prop:=(p.sure=false->p.code= -1/\p.cls=0/\p.n=1)/\ -1<=p.code/\0<=p.cls/\p.cls<=4
theorem clsOf_le {t:List Rg} (ht:mA t) (p:Int):0<=xG t p/\xG t p<=4:=by
 unfold xG
 cases h:t.find? (fun r=>decide (r.lo<=p) && decide (p<=r.hi))with
 | none=>simp
 | some r=>
  have:=ht.2.1 r (List.mem_of_find?_eq_some h);obtain⟨_,_,_,h1,h2⟩:=this;exact⟨by simp only;omega,by simp only;omega⟩
theorem sQ {final:Bool} {n:Int}:∀{k:Nat} {p lo hi:Int} {l:List Int},0<=p->(∀x∈l,0<=x/\x<256)-> -1<=(dG final n k p lo hi l).1
 | 0,p,lo,hi,l,h,_=>by simp only[dG];omega
 | k+1,p,lo,hi,[],h,_=>by cases final<;>simp[dG]
 | k+1,p,lo,hi,x::l,h,hl=>by
  simp only[dG];split
  ·simp
  ·have:=hl x (by simp);exact sQ (by omega) fun y hy=>hl y (by simp[hy])
theorem rZ {c:Int} (hc:0<=c):0<=(cB c).2.1:=by
 unfold cB
 repeat' split
 all_goals simp only
 all_goals omega
theorem dec_code {final:Bool} {b:List Int} (hb:∀x∈b,0<=x/\x<256): -1<=(dec final b).1:=by
 cases b with
 | nil=>simp[dec]
 | cons c l=>
  simp only[dec];split
  ·simp
  ·exact sQ (rZ (hb c (by simp)).1) fun y hy=>hb y (by simp[hy])
theorem pts_good {t:List Rg} (ht:mA t) {b:List Int} (hb:∀x∈b,0<=x/\x<256):∀p∈pts t b,Q5 p:=by
 refine bP (P:=fun b L=>(∀x∈b,0<=x/\x<256)->∀p∈L,Q5 p) (by simp) ?_ ?_ b hb
 ·intro b _ _ _ p hp;obtain⟨_,_,rfl⟩:=List.mem_map.1 hp;simp[iB,Q5]
 ·intro b h0 hm ih hb p hp;rw[tH t h0 hm]at hp;rcases List.mem_cons.1 hp with rfl | h
  ·exact⟨by simp,dec_code hb,clsOf_le ht _⟩
  ·exact ih (fun x hx=>hb x (List.mem_of_mem_drop hx)) p h
theorem pts_sure {t:List Rg} (b:List Int):∀(i:Nat) (p:Pt),(pts t b)[i]?=some p->(p.sure=true↔i<C1 (pts t b)):=by
 refine bP (P:=fun b L=>∀(i:Nat) (p:Pt),L[i]?=some p->(p.sure=true↔i<C1 L)) (by simp) ?_ ?_ b
 ·intro b hb _ i p hp;obtain⟨_,_,rfl⟩:=List.mem_map.1 (List.mem_of_getElem? hp);have:C1 (b.map (fun _=>iB))=0:=by
   unfold C1
   cases b<;>simp[iB]
  rw[this];simp[iB]
 ·intro b hb hm ih i p hp;rw[tH t hb hm]at hp |-;have e:∀(q:Pt) (L:List Pt),q.sure=true->C1 (q::L)=C1 L+1:=fun q L h=>by unfold C1;simp[h]
  rw[e _ _ rfl]
  cases i with
  | zero=>simp at hp;subst hp;simp
  | succ i=>
   rw[List.getElem?_cons_succ]at hp;rw[ih i p hp];omega
open Go.RowKit
def SlB (w:World) (ao:Option Addr) (n cap:Nat) (A:List Int):Prop:=Sl w ao n cap (A.map (.int .u8))
theorem SlB.len {w:World} {ao:Option Addr} {n cap:Nat} {A:List Int} (h:SlB w ao n cap A):A.length=n:=by simpa using Sl.len h
theorem SlB.at_ {w:World} {ao:Option Addr} {n cap:Nat} {A:List Int} (h:SlB w ao n cap A) {i:Nat} (hi:i<n):
  ∃b o,ao=some ⟨b,o,none⟩/\w.cell? ⟨b,o+i,none⟩=some (.int .u8 (ix A i)):=
 Sl.at_ h i _ (by rw[List.getElem?_map,xE (by have:=h.len;omega)];rfl)
theorem SlB.below {w w':World} {ao:Option Addr} {n cap:Nat} {A:List Int} (h:SlB w ao n cap A) (hb:Below w.heap.size w w'):SlB w' ao n cap A:=Sl.below h hb
theorem SlB.drop {w:World} {ao:Option Addr} {n cap:Nat} {A:List Int} (h:SlB w ao n cap A) {k:Nat} (hk:k<=n):
  SlB w (if cap=k then ao else ao.map (·.add k)) (n-k) (cap-k) (A.drop k):=by
 unfold SlB;rw[List.map_drop];exact Sl.drop h hk
theorem aP (a b:Nat) (ha:a<9223372036854775808) (hb:b<9223372036854775808):
  bits .or .i64 (a:Int) (b:Int)=((a ||| b:Nat):Int):=by
 have hx:a ||| b<2 ^ 63:=Nat.or_lt_two_pow (by omega) (by omega)
 have h1:(BitVec.ofInt 64 (a:Int)).toNat=a:=by
  rw[BitVec.ofInt_natCast,BitVec.toNat_ofNat];exact Nat.mod_eq_of_lt (by omega)
 have h2:(BitVec.ofInt 64 (b:Int)).toNat=b:=by
  rw[BitVec.ofInt_natCast,BitVec.toNat_ofNat];exact Nat.mod_eq_of_lt (by omega)
 show IntKind.i64.wrap ((BitVec.ofInt 64 (a:Int) ||| BitVec.ofInt 64 (b:Int)).toNat:Int)=_;rw[BitVec.toNat_or,h1,h2,IntKind.wrap_i64];omega
theorem or_low {p x:Int} (hp:0<=p) (hp2:p<33554432) (hx:0<=x):bits .or .i64 (wrap64 (p*64)) (x % 64)=p*64+x % 64:=by
 have hw:wrap64 (p*64)=p*64:=by
  unfold wrap64;omega
 rw[hw];obtain⟨a,rfl⟩:=Int.eq_ofNat_of_zero_le hp;obtain⟨b,hb⟩:=Int.eq_ofNat_of_zero_le (show 0<=x % 64 by omega);rw[hb,show((a:Int)*64)=((a*64:Nat):Int) by omega,aP _ _ (by omega) (by omega),<-Nat.shiftLeft_eq a 6,<-Nat.shiftLeft_add_eq_or_of_lt (by omega)];simp[Nat.shiftLeft_eq]
def kD (c:Int):Value:= .tuple #[.int .i64 (cB c).1, .int .i64 (cB c).2.1, .int .u8 (cB c).2.2.1, .int .u8 (cB c).2.2.2]
theorem qZ (c:Int) (h0:0<=c) (h1:c<256) (w:World):
  Calls Tryz.prog 250 #[.int .u8 c] w fun e w'=>e= .returned (kD c)/\w=w':=by
 go_enter Tryz.func250,Tryz.ntmps250
 by_cases a1:c<128
 ·go_wp2_with (fail);refine bodyPost_ret (v:=kD c) ?_ rfl ⟨rfl,rfl⟩
  simp[results,Tryz.results250,go_sem,kD,cB,a1]
 by_cases a2:c<194
 ·go_wp2_with (fail);refine bodyPost_ret (v:=kD c) ?_ rfl ⟨rfl,rfl⟩
  simp[results,Tryz.results250,go_sem,kD,cB,Int.not_lt.2 a1,a2]
 by_cases a3:244<c
 ·go_wp2_with (fail);refine bodyPost_ret (v:=kD c) ?_ rfl ⟨rfl,rfl⟩
  simp[results,Tryz.results250,go_sem,kD,cB,Int.not_lt.2 a1,a3]
 by_cases a4:c<224
 ·go_wp2_with (fail);refine bodyPost_ret (v:=kD c) ?_ rfl ⟨rfl,rfl⟩
  simp[results,Tryz.results250,go_sem,kD,cB,Int.not_lt.2 a1,Int.not_lt.2 a2,Int.not_lt.2 a3,a4]
 by_cases a5:c=224
 ·subst a5;go_wp2_with (fail);refine bodyPost_ret (v:=kD 224) ?_ rfl ⟨rfl,rfl⟩
  simp[results,Tryz.results250,go_sem,kD,cB]
 by_cases a6:c=237
 ·subst a6;go_wp2_with (fail);refine bodyPost_ret (v:=kD 237) ?_ rfl ⟨rfl,rfl⟩
  simp[results,Tryz.results250,go_sem,kD,cB]
 by_cases a7:c<240
 ·have b5:(c==224)=false:=by simpa using a5
  have b6:(c==237)=false:=by simpa using a6
  go_wp2_with (fail);refine bodyPost_ret (v:=kD c) ?_ rfl ⟨rfl,rfl⟩
  simp[results,Tryz.results250,go_sem,kD,cB,Int.not_lt.2 a1,Int.not_lt.2 a2,Int.not_lt.2 a3,Int.not_lt.2 a4,a5,a6,a7]
 by_cases a8:c=240
 ·subst a8;go_wp2_with (fail);refine bodyPost_ret (v:=kD 240) ?_ rfl ⟨rfl,rfl⟩
  simp[results,Tryz.results250,go_sem,kD,cB]
 by_cases a9:c=244
 ·subst a9;go_wp2_with (fail);refine bodyPost_ret (v:=kD 244) ?_ rfl ⟨rfl,rfl⟩
  simp[results,Tryz.results250,go_sem,kD,cB]
 have b5:(c==224)=false:=by simpa using a5
 have b6:(c==237)=false:=by simpa using a6
 have b8:(c==240)=false:=by simpa using a8
 have b9:(c==244)=false:=by simpa using a9
 go_wp2_with (fail);refine bodyPost_ret (v:=kD c) ?_ rfl ⟨rfl,rfl⟩
 simp[results,Tryz.results250,go_sem,kD,cB,Int.not_lt.2 a1,Int.not_lt.2 a2,Int.not_lt.2 a3,Int.not_lt.2 a4,a5,a6,Int.not_lt.2 a7,a8,a9]
def mK (final:Bool) (b:List Int):Value:= .tuple #[.int .i64 (dec final b).1, .int .i64 (dec final b).2.1, .bool (dec final b).2.2]
def PtB (k:Nat) (p:Int):Prop:=0<=p/\((k=1/\p<128)\/(k=2/\p<8192)\/(k=3/\p<524288)\/(k=4/\p<33554432))
structure KindB (c:Int):Prop where
 n:(cB c).1<=4
 p:0<=(cB c).2.1/\(cB c).2.1<128
 lo:0<=(cB c).2.2.1/\(cB c).2.2.1<256
 hi:0<=(cB c).2.2.2/\(cB c).2.2.2<256
theorem kindB {c:Int} (h0:0<=c):KindB c:=by
 have h:=uW c;refine⟨h,?_,?_,?_⟩<;>(unfold cB;repeat' split)<;>simp<;>omega
theorem uU {b:List Int} {bo:Option Addr} {bn bc:Nat} (final:Bool) (w:World) (hB:SlB w bo bn bc b) (hx:∀x∈b,0<=x/\x<256):
  Calls Tryz.prog 247 #[.slice bo bn bc, .bool final] w fun e w'=>e= .returned (mK final b)/\w=w':=by
 have hm1:=Nat.le_trans (Sl.le hB) (Sl.max hB);unfold maxLen at hm1;have HLB:=hW_ hB.len;have HB:=hW_ hB;have HX:=hW_ hx;clear hB hx
 cases b with
 | nil=>
  have h0:bn=0:=by have:=HLB.out;simp at this;omega
  subst h0;go_enter Tryz.func247,Tryz.ntmps247;go_wp2_with (fail);refine bodyPost_ret (v:=mK final []) ?_ rfl ⟨rfl,rfl⟩
  simp[results,Tryz.results247,go_sem,mK,dec]
 | cons c l=>
  obtain⟨hc0,hc1⟩:=HX.out c (by simp);have hbn:0<bn:=by have:=HLB.out;simp at this;omega
  have hbi:(0:Int)<(bn:Int):=by omega
  obtain⟨b1,o1,hbo,hcell⟩:=HB.out.at_ hbn;subst hbo;have hix:ix (c::l) 0=c:=rfl;rw[hix,Nat.add_zero]at hcell;have hbe:((bn:Int)==0)=false:=by simp;omega
  go_enter Tryz.func247,Tryz.ntmps247;go_wp2_with (fail);refine(qZ c hc0 hc1 w).mono ?_
  rintro e w1 ⟨rfl,rfl⟩;have HK:=hW_ (kindB hc0);obtain⟨⟨n,p,lo,hi⟩,hk⟩:∃q,cB c=q:=⟨_,rfl⟩;have HDEC:Hid (dec final (c::l)=if n=0 then(-1,1,false)else dG final n (n-1) p lo hi l):=hW_ (by simp only[dec,hk]);have hK:=HK.out;have h4:=hK.n;have hp:=hK.p;have hlo:=hK.lo;have hhi:=hK.hi;rw[hk]at h4 hp hlo hhi;simp only at h4 hp hlo hhi;unfold kD;rw[hk];clear hK HK hk hix;go_wp2_with (fail);go_loop [8,9,10,11] (fun p lo hi i=>∃(k:Nat) (p1 lo1 hi1:Int),1<=k/\k<=max n 1/\k<=bn/\i= .int .i64 k/\p= .int .i64 p1/\lo= .int .u8 lo1/\hi= .int .u8 hi1/\PtB k p1/\0<=lo1/\lo1<256/\0<=hi1/\hi1<256/\Hid (n=0\/dec final (c::l)=dG final n (n-k) p1 lo1 hi1 (l.drop (k-1)))) (fun _ _ _ i=>5-(intOf i).toNat)
  case atStart=>
   exact⟨1,p,lo,hi,by omega,by omega,by omega,rfl,rfl,rfl,rfl,⟨hp.1, .inl ⟨rfl,hp.2⟩⟩,hlo.1,hlo.2,hhi.1,hhi.2,hW_ (by
    rcases Nat.eq_zero_or_pos n with h | h
    ·exact .inl h
    ·right;rw[HDEC.out,if_neg (by omega)];simp)⟩
  case round=>
   obtain⟨k,p1,lo1,hi1,hk1,hk2,hk3,rfl,rfl,rfl,rfl,hpb,l0,l1,g0,g1,HD⟩:=hrel
   by_cases hlt:k<n
   ·have gk:(k:Int)<(n:Int):=by omega
    by_cases hend:k=bn
    ·have gb:((k:Int)==(bn:Int))=true:=by simp[hend]
     have HDB:Hid (l.drop (k-1)= []):=hW_ (by rw[List.drop_eq_nil_iff];have:=HLB.out;simp at this;omega);have HE:=HD.out.resolve_left (by omega);rw[HDB.out,show n-k=(n-k-1)+1 by omega]at HE;simp only[dG]at HE;have HE2:=hW_ HE;clear HE hpb
     cases final with
     | true=>
      go_wp2_with (fail);refine bodyPost_ret (v:=mK true (c::l)) ?_ rfl ⟨rfl,rfl⟩
      simp[results,Tryz.results247,go_sem,mK,HE2.out]
     | false=>
      go_wp2_with (fail);refine bodyPost_ret (v:=mK false (c::l)) ?_ rfl ⟨rfl,rfl⟩
      simp[results,Tryz.results247,go_sem,mK,HE2.out]
    ·have gb:((k:Int)==(bn:Int))=false:=by simp;omega
     have hkb:k<bn:=by omega
     have gkb:(k:Int)<(bn:Int):=by omega
     obtain⟨b2,o2,hbo,hck⟩:=HB.out.at_ hkb;simp only[Option.some.injEq,Addr.mk.injEq,and_true]at hbo;obtain⟨rfl,rfl⟩:=hbo;have hixk:(c::l)[k]?=some (ix (c::l) k):=xE (by have:=HLB.out;omega)
     obtain⟨x0,x1⟩:=HX.out (ix (c::l) k) (List.mem_of_getElem? hixk);obtain⟨x,hxx⟩:∃x,ix (c::l) k=x:=⟨_,rfl⟩;rw[hxx]at hck x0 x1 hixk;have HDR:Hid (l.drop (k-1)=x::l.drop k):=hW_ (by
      obtain⟨k',rfl⟩:∃k',k=k'+1:=⟨k-1,by omega⟩;rw[List.getElem?_cons_succ]at hixk;rw[Nat.add_sub_cancel,List.drop_eq_getElem_cons (List.getElem?_eq_some_iff.1 hixk).1,(List.getElem?_eq_some_iff.1 hixk).2])
     have HE:=HD.out.resolve_left (by omega);rw[HDR.out,show n-k=(n-k-1)+1 by omega]at HE;simp only[dG]at HE;have HE2:=hW_ HE;clear hxx HE hixk;have HPB:=hW_ hpb;clear hpb
     by_cases y1:x<lo1
     ·go_wp2_with (fail);refine bodyPost_ret (v:=mK final (c::l)) ?_ rfl ⟨rfl,rfl⟩
      have he:=HE2.out;rw[if_pos (.inl y1)]at he;simp[results,Tryz.results247,go_sem,mK,he]
     by_cases y2:hi1<x
     ·go_wp2_with (fail);refine bodyPost_ret (v:=mK final (c::l)) ?_ rfl ⟨rfl,rfl⟩
      have he:=HE2.out;rw[if_pos (.inr y2)]at he;simp[results,Tryz.results247,go_sem,mK,he]
     have hor:=or_low (p:=p1) (x:=x) HPB.out.1 (by have:=HPB.out;unfold PtB at this;omega) x0;go_wp2_with (fail);go_round
     case rel=>
      refine⟨k+1,p1*64+x % 64,128,191,by omega,by omega,by omega,by go_num,rfl,rfl,rfl,?_,by omega,by omega,by omega,by omega,hW_ (.inr ?_)⟩
      ·have:=HPB.out;unfold PtB at this |-;omega
      ·rw[HE2.out,if_neg (by omega),show n-k-1=n-(k+1) by omega,Nat.add_sub_cancel]
     case measure=>
      have:=HPB.out;unfold PtB at this;simp[intOf];omega
   ·by_cases hn0:n=0
    ·subst hn0;go_wp2_with (fail);refine bodyPost_ret (v:=mK final (c::l)) ?_ rfl ⟨rfl,rfl⟩
     simp[results,Tryz.results247,go_sem,mK,HDEC.out]
    ·have hnb:((n:Int)==0)=false:=by simp;omega
     have hnk:k=n:=by omega
     have HE:=HD.out.resolve_left hn0;rw[show n-k=0 by omega]at HE;simp only[dG]at HE;have HE2:=hW_ HE;clear HE;go_wp2_with (fail);refine bodyPost_ret (v:=mK final (c::l)) ?_ rfl ⟨rfl,rfl⟩
     simp[results,Tryz.results247,go_sem,mK,HE2.out]
open Go.RowKit Go.ChangeMaps
theorem kF {w:World} {ops:Array Oper} {rest:List Oper} {o:Oper} {a:Act} {Q:Exit->Act->World->Prop} (hgd:o.guard=none) (s x:Operand)
  (ho:o.op= .call {callee:= .builtin .append,args:=#[s,x],argTypes:=#[40,40]})
  {base B k:Nat} {v:Value} {A:List Int} {y:Int} {t:TypeId} {fr:Nat×Nat} (hs:a.eval s=v) (hown:Own w base v A) (hk:A.length=k) (hx:a.eval x= .slice (some ⟨B,0,none⟩) 1 1)
  (hb:w.heap[B]?=some (.cells #[.int .i64 y] t fr)) (hm:k<1048576) (hbase:base<=w.heap.size)
  (hK:∀g cap' w',Own w' base (.slice (some ⟨g,0,none⟩) (k+1) cap') (A++ [y])->w.grownBy w' v.ownBlock->(v.ownBlock=some g\/g=w.heap.size)->wpList Tryz.prog ops Q rest (a.put o.dst (.slice (some ⟨g,0,none⟩) (k+1) cap')) w'):
  wpList Tryz.prog ops Q (o::rest) a w:=by
 obtain⟨i0,hi0,hz0,hz1,hz2⟩:=info_parts vC;subst hk;refine wpList_append_lies (P:=Tryz.prog) (w:=w) hgd s x 40 ho base 3 i0 _ 1 8 Tryz.underlying40 hi0 hz0 hz1 hz2 rfl (by omega) _ A.length _ hs hown _ 1 1 [.int .i64 y] hx rfl
  (World.news_of_block hb) (by intro u hu;simp at hu;subst hu;rfl) (by omega) (by unfold maxLen;omega) (by omega) hbase w.heap.size rfl ?_
 intro g cap' w' ho' hgr hat hlt;refine hK g cap' w' ?_ hgr hat
 unfold Own;rw[List.length_append,List.map_append];exact ho'
theorem mR {w:World} {ops:Array Oper} {o:Oper} {a:Act} {K:Act->World->Prop} {Q:Exit->Act->World->Prop} {E:Prop} (hgd:o.guard=none) (s x:Operand)
  (ho:o.op= .call {callee:= .builtin .append,args:=#[s,x],argTypes:=#[40,40]})
  {base B k:Nat} {v:Value} {A:List Int} {y:Int} {t:TypeId} {fr:Nat×Nat} (hs:a.eval s=v) (hown:Own w base v A) (hk:A.length=k) (hx:a.eval x= .slice (some ⟨B,0,none⟩) 1 1)
  (hb:w.heap[B]?=some (.cells #[.int .i64 y] t fr)) (hm:k<1048576) (hbase:base<=w.heap.size)
  (hK:∀g cap' w',Own w' base (.slice (some ⟨g,0,none⟩) (k+1) cap') (A++ [y])->w.grownBy w' v.ownBlock->(v.ownBlock=some g\/g=w.heap.size)->K (a.put o.dst (.slice (some ⟨g,0,none⟩) (k+1) cap')) w'):
  if Region.wanted o (yielded ops a.tmps)=true then Oper.wp Tryz.prog o a w K Q else E:=by
 obtain⟨i0,hi0,hz0,hz1,hz2⟩:=info_parts vC;subst hk;refine step_append_lies (P:=Tryz.prog) (w:=w) hgd s x 40 ho base 3 i0 _ 1 8 Tryz.underlying40 hi0 hz0 hz1 hz2 rfl (by omega) _ A.length _ hs hown _ 1 1 [.int .i64 y] hx rfl
  (World.news_of_block hb) (by intro u hu;simp at hu;subst hu;rfl) (by omega) (by unfold maxLen;omega) (by omega) hbase w.heap.size rfl ?_
 intro g cap' w' ho' hgr hat hlt;refine hK g cap' w' ?_ hgr hat
 unfold Own;rw[List.length_append,List.map_append];exact ho'
theorem bY {w:World} {o:Obj} {q:Nat} (h:q=w.heap.size):(w.alloc o).heap[q]?=some o:=by rw[h];exact heap_alloc_new w o
def V3 {α:Type} (a b c:α):Nat->α:=fun i=>if i=0 then a else if i=1 then b else c
structure Bld (w:World) (base kb g mb pg:Nat) (v:Nat->Value) (A:Nat->List Int):Prop where
 box:w.heap[kb]?=some (.cells #[v 0,v 1,v 2, .func (.func 169) #[.pointer (some ⟨pg,0,none⟩)] #[], .pointer (some ⟨g,0,none⟩)] 229)
 row:∀j,j<3->Own w base (v j) (A j)
 ag:AgV w base g mb (.slice none 0 0) []
 lo:base<=kb/\base<=w.heap.size
 far:∀j,j<3->∀q,(v j).ownBlock=some q->q≠kb/\q≠g/\q≠mb/\∀i,i<3->i≠j->(v i).ownBlock≠some q
 ne:kb≠g/\kb≠mb
def rT {α:Type} (f:Nat->α) (j:Nat) (y:α):Nat->α:=fun i=>if i=j then y else f i
theorem updV0 {α:Type} (a b c y:α):rT (V3 a b c) 0 y=V3 y b c:=by
 funext i;unfold rT V3;by_cases h:i=0<;>simp[h]
theorem updV1 {α:Type} (a b c y:α):rT (V3 a b c) 1 y=V3 a y c:=by
 funext i;unfold rT V3
 by_cases h:i=1
 ·subst h;simp
 ·by_cases h0:i=0<;>simp[h,h0]
theorem Bld.cells {w:World} {base kb g mb pg:Nat} {v1 v2 v3:Value} {A:Nat->List Int} (h:Bld w base kb g mb pg (V3 v1 v2 v3) A):w.cell? ⟨kb,0,none⟩=some v1/\w.cell? ⟨kb,1,none⟩=some v2/\w.cell? ⟨kb,2,none⟩=some v3/\∀o,w.frozen? ⟨kb,o,none⟩=false:=by
 have:=h.box;simp[World.cell?,World.frozen?,this,V3]
theorem Bld.step {w W w1:World} {base kb g mb pg gg n cap:Nat} {v:Nat->Value} {A:Nat->List Int} {x:Int} (h:Bld w base kb g mb pg v A) (hW:Below w.heap.size w W) (j:Nat) (hj:j<3)
  (ho:Own w1 base (.slice (some ⟨gg,0,none⟩) n cap) (A j++ [x])) (hg:W.grownBy w1 (v j).ownBlock) (hat:(v j).ownBlock=some gg\/gg=W.heap.size):
  Bld (w1.setCell ⟨kb,j,none⟩ (.slice (some ⟨gg,0,none⟩) n cap)) base kb g mb pg (rT v j (.slice (some ⟨gg,0,none⟩) n cap)) (rT A j (A j++ [x]))/\Below base w (w1.setCell ⟨kb,j,none⟩ (.slice (some ⟨gg,0,none⟩) n cap)):=by
 have hkb:=(Array.getElem?_eq_some_iff.1 h.box).1;have hgl:=(Array.getElem?_eq_some_iff.1 h.ag.pile.box).1;have hml:=h.ag.pile.at_.lt;have hfar:=h.far j hj;have hlt:=fun i (hi:i<3)=>World.ownsRow.lt (h.row i hi)
 have key:∀q,q<w.heap.size->(v j).ownBlock≠some q->w1.heap[q]?=w.heap[q]? :=fun q hq hne=>(hg.block q (Nat.lt_of_lt_of_le hq hW.size) (fun e=>hne e.symm)).trans (hW.block q hq)
 have key2:∀q,q<w.heap.size->(v j).ownBlock≠some q->q≠kb->(w1.setCell ⟨kb,j,none⟩ (.slice (some ⟨gg,0,none⟩) n cap)).heap[q]?=w.heap[q]? :=fun q hq hne hk=>(heap_setCell_other w1 ⟨kb,j,none⟩ q _ hk).trans (key q hq hne)
 have hgg:gg≠kb/\gg≠g/\gg≠mb/\∀i,i<3->i≠j->(v i).ownBlock≠some gg:=by
  rcases hat with h1 | h1
  ·exact hfar gg h1
  ·have:=hW.size;exact⟨by omega,by omega,by omega,fun i hi _ e=>by have:=(hlt i hi gg e).2;omega⟩
 have hbw:=h.lo.2;refine⟨⟨?_,fun i hi=> ?_,?_,⟨h.lo.1,?_⟩,fun i hi q hq=> ?_,h.ne⟩,⟨?_,?_,?_,?_,?_⟩⟩
 ·have hk:=(key kb hkb (fun e=>(hfar kb e).1 rfl)).trans h.box;rcases(by omega:j=0\/j=1\/j=2)with rfl | rfl | rfl<;>simp[World.setCell,Array.getElem?_modify,hk,rT]
 ·unfold rT
  by_cases hij:i=j
  ·rw[if_pos hij,if_pos hij];exact oA ho (fun q hq=>by
    obtain rfl:gg=q:=by simpa[Value.ownBlock]using hq
    exact heap_setCell_other w1 ⟨kb,j,none⟩ gg _ hgg.1)
  ·rw[if_neg hij,if_neg hij];exact oA (h.row i hi) (fun q hq=>key2 q (hlt i hi q hq).2 (fun e=>(h.far i hi q hq).2.2.2 j hj (fun e2=>hij e2.symm) e) (h.far i hi q hq).1)
 ·refine h.ag.other (fun q hq=> ?_);rcases hq with rfl | rfl | hq
  ·exact key2 _ hgl (fun e=>(hfar _ e).2.1 rfl) h.ne.1.symm
  ·exact key2 _ hml (fun e=>(hfar _ e).2.2.1 rfl) h.ne.2.symm
  ·simp[Value.ownBlock]at hq
 ·have:=hg.size;have:=hW.size;simp;omega
 ·unfold rT at hq |-
  by_cases hij:i=j
  ·rw[if_pos hij]at hq;obtain rfl:gg=q:=by simpa[Value.ownBlock]using hq
   refine⟨hgg.1,hgg.2.1,hgg.2.2.1,fun i' hi' hne=> ?_⟩;rw[if_neg (by omega)];exact hgg.2.2.2 i' hi' (by omega)
  ·rw[if_neg hij]at hq;obtain⟨f1,f2,f3,f4⟩:=h.far i hi q hq;refine⟨f1,f2,f3,fun i' hi' hne=> ?_⟩
   by_cases hij':i'=j
   ·rw[if_pos hij'];intro e;obtain rfl:gg=q:=by simpa[Value.ownBlock]using e
    exact hgg.2.2.2 i hi hij hq
   ·rw[if_neg hij'];exact f4 i' hi' hne
 ·exact hg.os.trans hW.os
 ·exact hg.tape.trans hW.tape
 ·exact hg.output.trans hW.output
 ·have:=hg.size;have:=hW.size;simp;omega
 ·intro q hq;refine key2 q (by omega) (fun e=> ?_) (by have:=h.lo.1;omega);have:=(hlt j hj q e).1;omega
theorem kI {w W:World} {o:Obj} (h1:W.os=w.os) (h2:W.tape=w.tape) (h3:W.output=w.output) (h4:W.heap=w.heap.push o):Below w.heap.size w W:=
 ⟨h1,h2,h3,by rw[h4];simp,fun q hq=>by rw[h4,Array.getElem?_push_lt hq,Array.getElem?_eq_getElem hq]⟩
theorem Bld.after {w W w1:World} {base kb g mb pg:Nat} {v1 v2 v3:Value} {A:Nat->List Int} (h:Bld w base kb g mb pg (V3 v1 v2 v3) A) (hW:Below w.heap.size w W) (j:Nat) (hj:j<3) (hg:W.grownBy w1 (V3 v1 v2 v3 j).ownBlock):
  w1.cell? ⟨kb,0,none⟩=some v1/\w1.cell? ⟨kb,1,none⟩=some v2/\w1.cell? ⟨kb,2,none⟩=some v3/\∀o,w1.frozen? ⟨kb,o,none⟩=false:=by
 have hkb:=(Array.getElem?_eq_some_iff.1 h.box).1;have hb:=(hg.block kb (Nat.lt_of_lt_of_le hkb hW.size) (fun e=>(h.far j hj kb e.symm).1 rfl)).trans ((hW.block kb hkb).trans h.box);simp[World.cell?,World.frozen?,hb,V3]
theorem Bld.step0 {w W w1:World} {base kb g mb pg gg n cap:Nat} {v1 v2 v3:Value} {A1 A2 A3 A':List Int} {x:Int} (h:Bld w base kb g mb pg (V3 v1 v2 v3) (V3 A1 A2 A3)) (hW:Below w.heap.size w W)
  (ho:Own w1 base (.slice (some ⟨gg,0,none⟩) n cap) (A1++ [x])) (hg:W.grownBy w1 v1.ownBlock) (hat:v1.ownBlock=some gg\/gg=W.heap.size) (hA:A1++ [x]=A'):
  Bld (w1.setCell ⟨kb,0,none⟩ (.slice (some ⟨gg,0,none⟩) n cap)) base kb g mb pg (V3 (.slice (some ⟨gg,0,none⟩) n cap) v2 v3) (V3 A' A2 A3)/\Below base w (w1.setCell ⟨kb,0,none⟩ (.slice (some ⟨gg,0,none⟩) n cap)):=by
 subst hA;have:=h.step hW 0 (by omega) ho hg hat;rw[updV0,updV0]at this;exact this
theorem Bld.step1 {w W w1:World} {base kb g mb pg gg n cap:Nat} {v1 v2 v3:Value} {A1 A2 A3 A':List Int} {x:Int} (h:Bld w base kb g mb pg (V3 v1 v2 v3) (V3 A1 A2 A3)) (hW:Below w.heap.size w W)
  (ho:Own w1 base (.slice (some ⟨gg,0,none⟩) n cap) (A2++ [x])) (hg:W.grownBy w1 v2.ownBlock) (hat:v2.ownBlock=some gg\/gg=W.heap.size) (hA:A2++ [x]=A'):
  Bld (w1.setCell ⟨kb,1,none⟩ (.slice (some ⟨gg,0,none⟩) n cap)) base kb g mb pg (V3 v1 (.slice (some ⟨gg,0,none⟩) n cap) v3) (V3 A1 A' A3)/\Below base w (w1.setCell ⟨kb,1,none⟩ (.slice (some ⟨gg,0,none⟩) n cap)):=by
 subst hA;have:=h.step hW 1 (by omega) ho hg hat;rw[updV1,updV1]at this;exact this
theorem V3.ext {α:Type} {a b c:α} {f:Nat->α} (h0:f 0=a) (h1:f 1=b) (h2:f 2=c):∀i,i<3->f i=V3 a b c i:=fun i hi=>by
 rcases(by omega:i=0\/i=1\/i=2)with rfl | rfl | rfl
 ·exact h0
 ·exact h1
 ·exact h2
theorem Bld.congr {w:World} {base kb g mb pg:Nat} {v v':Nat->Value} {A A':Nat->List Int} (h:Bld w base kb g mb pg v A) (hv:∀i,i<3->v i=v' i) (hA:∀i,i<3->A i=A' i):Bld w base kb g mb pg v' A':=
 ⟨by rw[<-hv 0 (by omega),<-hv 1 (by omega),<-hv 2 (by omega)];exact h.box,fun j hj=>by rw[<-hv j hj,<-hA j hj];exact h.row j hj,h.ag,h.lo,fun j hj q hq=>by
  rw[<-hv j hj]at hq;obtain⟨a,b,c,d⟩:=h.far j hj q hq;exact⟨a,b,c,fun i hi hne=>by rw[<-hv i hi];exact d i hi hne⟩,h.ne⟩
theorem Bld.step2 {w W w1:World} {base kb g mb pg gg n cap:Nat} {v1 v2 v3:Value} {A1 A2 A3 A':List Int} {x:Int} (h:Bld w base kb g mb pg (V3 v1 v2 v3) (V3 A1 A2 A3)) (hW:Below w.heap.size w W)
  (ho:Own w1 base (.slice (some ⟨gg,0,none⟩) n cap) (A3++ [x])) (hg:W.grownBy w1 v3.ownBlock) (hat:v3.ownBlock=some gg\/gg=W.heap.size) (hA:A3++ [x]=A'):
  Bld (w1.setCell ⟨kb,2,none⟩ (.slice (some ⟨gg,0,none⟩) n cap)) base kb g mb pg (V3 v1 v2 (.slice (some ⟨gg,0,none⟩) n cap)) (V3 A1 A2 A')/\Below base w (w1.setCell ⟨kb,2,none⟩ (.slice (some ⟨gg,0,none⟩) n cap)):=by
 subst hA;have:=h.step hW 2 (by omega) ho hg hat;exact⟨this.1.congr (V3.ext rfl rfl rfl) (V3.ext rfl rfl rfl),this.2⟩
theorem bK {w:World} {base:Nat} {v:Value} {A:List Int} (h:Own w base v A) (hn:0<A.length):∃b c,v= .slice (some ⟨b,0,none⟩) A.length c:=by
 obtain⟨h1,h2⟩:=h;rcases h2 with⟨_,h3⟩ | ⟨g,cap,cur,hv,_⟩
 ·omega
 ·exact⟨g,cap,hv⟩
theorem Bld.chain {w:World} {base kb g mb pg n:Nat} {v1 v2 v3:Value} {A1 A2 A3:List Int} (h:Bld w base kb g mb pg (V3 v1 v2 v3) (V3 A1 A2 A3)) (hn:0<n) (h1:A1.length=n) (h2:A2.length=n) (h3:A3.length=n):
  ∃rb lb tb rc lc tc,v3= .slice (some ⟨tb,0,none⟩) n tc/\ChV w ⟨base,n,kb,g,mb,rb,lb,tb,rc,lc,tc,pg⟩ (.slice none 0 0) A1 A2 A3 []:=by
 have r1:Own w base v1 A1:=h.row 0 (by omega);have r2:Own w base v2 A2:=h.row 1 (by omega);have r3:Own w base v3 A3:=h.row 2 (by omega);obtain⟨rb,rc,e1⟩:=bK r1 (by omega);obtain⟨lb,lc,e2⟩:=bK r2 (by omega);obtain⟨tb,tc,e3⟩:=bK r3 (by omega);subst e1 e2 e3;have hbox:=h.box;have f0:=h.far 0 (by omega) rb rfl;have f1:=h.far 1 (by omega) lb rfl;have f2:=h.far 2 (by omega) tb rfl;have d01:lb≠rb:=fun e=>f0.2.2.2 1 (by omega) (by omega) (by rw[<-e];rfl)
 have d02:tb≠rb:=fun e=>f0.2.2.2 2 (by omega) (by omega) (by rw[<-e];rfl)
 have d12:tb≠lb:=fun e=>f1.2.2.2 2 (by omega) (by omega) (by rw[<-e];rfl)
 have hbox2:w.heap[kb]?=some (.cells #[.slice (some ⟨rb,0,none⟩) A1.length rc, .slice (some ⟨lb,0,none⟩) A2.length lc, .slice (some ⟨tb,0,none⟩) A3.length tc, .func (.func 169) #[.pointer (some ⟨pg,0,none⟩)] #[], .pointer (some ⟨g,0,none⟩)] 229):=hbox
 rw[h1,h2,h3]at hbox2;refine⟨rb,lb,tb,rc,lc,tc,by rw[h3],⟨hbox2,?_,?_,?_,h.ag,h.lo.1,⟨h.ne.1,h.ne.2,f0.1.symm,f1.1.symm,f2.1.symm,f0.2.1,f0.2.2.1,f1.2.1,f1.2.2.1,f2.2.1,f2.2.2.1,d01.symm,d02.symm,d12.symm⟩,fun q hq=>by simp[Value.ownBlock]at hq⟩⟩
 ·unfold Own at r1;rw[h1]at r1;exact r1
 ·unfold Own at r2;rw[h2]at r2;exact r2
 ·unfold Own at r3;rw[h3]at r3;exact r3
theorem AgV.mono {w:World} {base base' g mb:Nat} {v:Value} {L:List Ent} (h:AgV w base g mb v L) (hb:base'<=base):AgV w base' g mb v L:=
 ⟨⟨h.pile.box,dA.mono h.pile.row hb,h.pile.at_,h.pile.once,h.pile.ok,h.pile.far,by have:=h.pile.lo;omega,h.pile.small⟩,h.heap⟩
theorem ofT_wf {T:List ByteArray} (hT:T.length<=4096) (s:ByteArray):(Lit.int .i64 (ofT T s)).wf=true:=by
 rw[B5];rcases mN T s with⟨_,h⟩ | ⟨_,⟨i,hi,_,_,h⟩⟩ | ⟨_,_,h⟩
 ·omega
 ·omega
 ·omega
def TakeB (w:World) (base g mb:Nat) (v:Value) (L:List Ent) (e:Ending) (w':World):Prop:=
 ∃(x:Ent) (ok:Bool) (v':Value) (L':List Ent),e= .returned (.tuple #[.agg #[.int .i64 x.place, .int .i64 x.order, .int .i64 x.out], .bool ok])/\AgV w' base g mb v' L'/\Trod w w' g mb v v'/\
  (ok=true->en L 0=x/\L'.length+1=L.length/\∀p,agL L' p=if p=x.place then none else agL L p)/\(ok=false->L= []/\L'= [])
theorem jT {base g mb:Nat} {v:Value} {L:List Ent} (w:World) (h:AgV w base g mb v L):
  Calls Tryz.prog 172 #[.pointer (some ⟨g,0,none⟩)] w (TakeB w base g mb v L):=by
 cases L with
 | nil=>
  refine(aAj w h).mono ?_
  rintro e w' ⟨rfl,hb⟩;exact⟨⟨0,0,0⟩,false,v,[],rfl,h.below hb,Trod.of hb,fun e=>(by cases e),fun _=>⟨rfl,rfl⟩⟩
 | cons a L=>
  refine(fY w h (by simp)).mono ?_
  rintro e w' ⟨rfl,v',L',hA,hg,hl,hT⟩;exact⟨en (a::L) 0,true,v',L',rfl,hA,hT,fun _=>⟨rfl,hl,hg⟩,fun e=>(by cases e)⟩
theorem aCe {M:List Mg} {a b:Int} {m:Mg} (h:lD M a b=some m):m∈M:=List.mem_of_find?_eq_some h
theorem agI_wf {T:List ByteArray} {M:List Mg} (hM:mD T M) (hT:T.length<=4096) {C:Ch} {p o d:Int} (h:agI M C p=some (o,d)):(Lit.int .i64 d).wf=true:=by
 unfold agI at h;split at h
 ·obtain⟨i,a,q,b,m,_,_,hm,he⟩:=M2 h;simp only[Prod.mk.injEq]at he;have h1:=(hM.2.1 m (aCe hm)).2.2.1;obtain⟨l0,l1,_⟩:=A8.1 h1;rw[B5];omega
 ·cases h
structure Lp (W0 w:World) (c:Cx) (M:List Mg) (R:List Int) (eb:Nat) (x:Ent) (ok:Bool) (va:Value) (Rw Lf Rt:List Int) (L:List Ent) (C:Ch):Prop where
 ch:ChV w c va Rw Lf Rt L
 ln:Lnk c.n C Rw Lf Rt
 wf:WfR Rw
 way:Way M R C
 bel:Below c.base W0 w
 box:w.heap[eb]?=some (.cells #[.int .i64 x.place, .int .i64 x.order, .int .i64 x.out] 232)
 ne:eb≠c.kb/\eb≠c.g/\eb≠c.mb/\eb≠c.rb/\eb≠c.lb/\eb≠c.tb/\va.ownBlock≠some eb/\c.base<=eb
 yes:ok=true->agI M C x.place=some (x.order,x.out)/\(∀q o' d',agI M C q=some (o',d')->x.order<o'\/(x.order=o'/\x.place<=q))/\∀y,agL L y=if y=x.place then none else agI M C y
 no:ok=false->∀y,agI M C y=none
 cnt:L.length+C.length+(if ok then 1 else 0)<=2*c.n
theorem oY {M:List Mg} {C:Ch} {L L':List Ent} (hO:vE L) (hH:D5 L L.length) (hA:∀y,agL L y=agI M C y) {x:Ent} (hx:en L 0=x) (hl:L'.length+1=L.length) (hg:∀p,agL L' p=if p=x.place then none else agL L p):
  agI M C x.place=some (x.order,x.out)/\(∀q o' d',agI M C q=some (o',d')->x.order<o'\/(x.order=o'/\x.place<=q))/\∀y,agL L' y=if y=x.place then none else agI M C y:=by
 refine⟨?_,fun q o' d' h=> ?_,fun y=>by rw[hg,hA]⟩
 ·rw[<-hA,Q1 hO];exact⟨0,by omega,hx⟩
 ·rw[<-hA,Q1 hO]at h;obtain⟨i,hi,he⟩:=h;have:=hH.min i hi;rw[hx,he,Ent.less_iff]at this;simp only at this;omega
theorem aBn {M:List Mg} {C:Ch} {L:List Ent} (hA:∀y,agL L y=agI M C y) (hL:L= []):∀y,agI M C y=none:=fun y=>by
 rw[<-hA,hL];rfl
theorem Lp.mk' {W0 w w2 w3:World} {c:Cx} {M:List Mg} {R:List Int} {eb:Nat} {x:Ent} {ok:Bool} {va va':Value} {Rw Lf Rt:List Int} {L L':List Ent} {C:Ch}
  (hC:ChV w c va Rw Lf Rt L) (hln:Lnk c.n C Rw Lf Rt) (hwf:WfR Rw) (hway:Way M R C) (hbel:Below c.base W0 w) (hA:∀y,agL L y=agI M C y) (hcnt:L.length+C.length<=2*c.n)
  (hA2:AgV w2 c.base c.g c.mb va' L') (hT:Trod w w2 c.g c.mb va va') (hyes:ok=true->en L 0=x/\L'.length+1=L.length/\∀p,agL L' p=if p=x.place then none else agL L p) (hno:ok=false->L= []/\L'= [])
  (hbox:w3.heap[eb]?=some (.cells #[.int .i64 x.place, .int .i64 x.order, .int .i64 x.out] 232)) (hkeep:∀q,q≠eb->q<w2.heap.size->w3.heap[q]?=w2.heap[q]?) (hmisc:w3.os=w2.os/\w3.tape=w2.tape/\w3.output=w2.output/\w2.heap.size<=w3.heap.size)
  (hne:eb≠c.kb/\eb≠c.g/\eb≠c.mb/\eb≠c.rb/\eb≠c.lb/\eb≠c.tb/\va'.ownBlock≠some eb/\c.base<=eb):Lp W0 w3 c M R eb x ok va' Rw Lf Rt L' C:=by
 have h2:=hC.turn hA2 hT;have hk:=h2.ne;have k1:=(Array.getElem?_eq_some_iff.1 h2.box).1;have hp:=h2.ag.pile;have h3:ChV w3 c va' Rw Lf Rt L':=⟨(hkeep _ hne.1.symm k1).trans h2.box,h2.row.stay (hkeep _ hne.2.2.2.1.symm h2.row.lt.2),h2.left.stay (hkeep _ hne.2.2.2.2.1.symm h2.left.lt.2),h2.right.stay (hkeep _ hne.2.2.2.2.2.1.symm h2.right.lt.2),
  h2.ag.other (fun q hq=>by
   rcases hq with rfl | rfl | hq
   ·exact hkeep _ hne.2.1.symm (Array.getElem?_eq_some_iff.1 hp.box).1
   ·exact hkeep _ hne.2.2.1.symm hp.at_.lt
   ·exact hkeep _ (fun e=>hne.2.2.2.2.2.2.1 (e▸hq)) (World.ownsRow.lt hp.row q hq).2),h2.lo,h2.ne,h2.far⟩
 have hb2:=oP hC.ag hT hC.base;refine⟨h3,hln,hwf,hway,(hbel.trans hb2).trans ⟨hmisc.1,hmisc.2.1,hmisc.2.2.1,hmisc.2.2.2,fun q hq=>hkeep q (by have:=hne.2.2.2.2.2.2.2;omega) (Nat.lt_of_lt_of_le hq h2.base)⟩,hbox,hne,fun e=> ?_,fun e=> ?_,?_⟩
 ·obtain⟨a1,a2,a3⟩:=hyes e;exact oY hC.ag.pile.once hC.ag.heap hA a1 a2 a3
 ·exact aBn hA (hno e).1
 ·cases ok with
  | true=>have:=(hyes rfl).2.1;simp only[if_true];omega
  | false=>have:=(hno rfl);rw[this.2];simp;omega
theorem Lp.new {W0 w w2:World} {c:Cx} {M:List Mg} {R:List Int} {x:Ent} {ok:Bool} {va va':Value} {Rw Lf Rt:List Int} {L L':List Ent} {C:Ch}
  (hC:ChV w c va Rw Lf Rt L) (hln:Lnk c.n C Rw Lf Rt) (hwf:WfR Rw) (hway:Way M R C) (hbel:Below c.base W0 w) (hA:∀y,agL L y=agI M C y) (hcnt:L.length+C.length<=2*c.n)
  (hA2:AgV w2 c.base c.g c.mb va' L') (hT:Trod w w2 c.g c.mb va va') (hyes:ok=true->en L 0=x/\L'.length+1=L.length/\∀p,agL L' p=if p=x.place then none else agL L p) (hno:ok=false->L= []/\L'= []):
  Lp W0 (w2.alloc (.cells #[.int .i64 x.place, .int .i64 x.order, .int .i64 x.out] 232)) c M R w2.heap.size x ok va' Rw Lf Rt L' C:=by
 have h2:=hC.turn hA2 hT;have k1:=(Array.getElem?_eq_some_iff.1 h2.box).1;have k2:=(Array.getElem?_eq_some_iff.1 hA2.pile.box).1;have k3:=hA2.pile.at_.lt;have k4:=h2.row.lt.2;have k5:=h2.left.lt.2;have k6:=h2.right.lt.2;refine Lp.mk' hC hln hwf hway hbel hA hcnt hA2 hT hyes hno (heap_alloc_new w2 _) (fun q _ hq=>Below.heap_alloc _ _ _ hq) ⟨rfl,rfl,rfl,by simp⟩ ⟨by omega,by omega,by omega,by omega,by omega,by omega,fun e=> ?_,h2.base⟩;have:=(World.ownsRow.lt hA2.pile.row _ e).2;omega
theorem set3E {w:World} {g:Nat} {o:Obj} {a b c:Value} (h:w.heap[g]?=some (.cells #[a,b,c] 232)) (x:Ent):(((w.setCell ⟨g,0,none⟩ (.int .i64 x.place)).setCell ⟨g,1,none⟩ (.int .i64 x.order)).setCell ⟨g,2,none⟩ (.int .i64 x.out)).heap[g]?=some (.cells #[.int .i64 x.place, .int .i64 x.order, .int .i64 x.out] 232):=by
 simp[World.setCell,Array.getElem?_modify,h]
theorem Lp.stored {W0 w w2:World} {c:Cx} {M:List Mg} {R:List Int} {eb:Nat} {x:Ent} {ok:Bool} {va va':Value} {Rw Lf Rt:List Int} {L L':List Ent} {C:Ch} {a0 a1 a2:Value}
  (hC:ChV w c va Rw Lf Rt L) (hln:Lnk c.n C Rw Lf Rt) (hwf:WfR Rw) (hway:Way M R C) (hbel:Below c.base W0 w) (hA:∀y,agL L y=agI M C y) (hcnt:L.length+C.length<=2*c.n)
  (hA2:AgV w2 c.base c.g c.mb va' L') (hT:Trod w w2 c.g c.mb va va') (hyes:ok=true->en L 0=x/\L'.length+1=L.length/\∀p,agL L' p=if p=x.place then none else agL L p) (hno:ok=false->L= []/\L'= [])
  (hbox:w2.heap[eb]?=some (.cells #[a0,a1,a2] 232)) (heb:eb<w.heap.size) (hne:eb≠c.kb/\eb≠c.g/\eb≠c.mb/\eb≠c.rb/\eb≠c.lb/\eb≠c.tb/\va.ownBlock≠some eb/\c.base<=eb):
  Lp W0 (((w2.setCell ⟨eb,0,none⟩ (.int .i64 x.place)).setCell ⟨eb,1,none⟩ (.int .i64 x.order)).setCell ⟨eb,2,none⟩ (.int .i64 x.out)) c M R eb x ok va' Rw Lf Rt L' C:=by
 refine Lp.mk' hC hln hwf hway hbel hA hcnt hA2 hT hyes hno (set3E (o:= .cells #[] 0) hbox x) (fun q hq hlt=> ?_) ⟨rfl,rfl,rfl,by simp⟩ ⟨hne.1,hne.2.1,hne.2.2.1,hne.2.2.2.1,hne.2.2.2.2.1,hne.2.2.2.2.2.1,fun e=> ?_,hne.2.2.2.2.2.2.2⟩
 ·have hk:∀(W:World) (o:Nat) (u:Value),(W.setCell ⟨eb,o,none⟩ u).heap[q]?=W.heap[q]? :=fun W o u=>heap_setCell_other W ⟨eb,o,none⟩ q u hq
  rw[hk,hk,hk]
 ·rcases hT.new _ e with h1 | h1
  ·exact hne.2.2.2.2.2.2.1 h1
  ·omega
def lenS:Value->Nat
 | .slice _ n _=>n
 | _=>0
def plC (C:Ch) (j:Nat):Int:=match C[j]? with | some c=>(c.1:Int) | none=> -1
theorem plC_at {C:Ch} {j p:Nat} {a:Int} (h:C[j]?=some (p,a)):plC C j=(p:Int):=by unfold plC;rw[h]
theorem plC_end {C:Ch} {j:Nat} (h:C.length<=j):plC C j= -1:=by unfold plC;rw[List.getElem?_eq_none h]
theorem nxt_pl (C:Ch) (j:Nat):cJ C j=plC C (j+1):=rfl
end Go.Proofs.YtjlokfejnijokaaGreatDoor
