/- Walks: code points as the document tells them: might, Decode, Rest. -/
import Derived.Test.YtimkkkdabmhedaaGreatDoorE37
import Derived.LoopN
import Derived.Test.YtimkkkdabmhedaaGreatDoorE19
import Derived.Test.YtimkkkdabmhedaaGreatDoorE18
import Derived.Test.YtimkkkdabmhedaaGreatDoorE30
import Derived.Test.YtimkkkdabmhedaaGreatDoorE1
set_option linter.unusedVariables false
set_option maxHeartbeats 2000000
set_option maxRecDepth 100000
namespace Go.Proofs.YtimkkkdabmhedaaGreatDoor
open Go.RowKit
theorem bytes_80:cA ⟨#[128]⟩= [128]:=by decide +kernel
theorem bytes_bf:cA ⟨#[191]⟩= [191]:=by decide +kernel
theorem eV (s:ByteArray) (n:Nat) (w:World) (h1:2<=n) (h4:n<=4) (h0:0<s.size) (hs:s.size<n):Calls Tryz.prog 101 #[.string s, .int .i64 n] w fun e w'=>e= .returned (.bool (decide (C1 (cA s) n)))/\w'=w:=by
 go_enter Tryz.func101,Tryz.ntmps101;go_wp2_with (fail);go_loopw [5,6] (fun a b wr=>∃(k:Nat) (lo hi:ByteArray),s.size+k<=n/\a= .string lo/\b= .string hi/\lo.size=s.size+k/\hi.size=s.size+k/\Hid (cA lo=cA s++List.replicate k 128/\cA hi=cA s++List.replicate k 191)/\wr=w) (fun a _ _=>n-(match a with | .string x=>x.size | _=>0))
 case atStart=>exact⟨0,s,s,by omega,rfl,rfl,rfl,rfl,hW_ (by simp),rfl⟩
 case round=>
  obtain⟨k,lo,hi,hk,rfl,rfl,hl,hh,HB,rfl⟩:=hrel
  by_cases hlt:s.size+k<n
  ·have g1:((lo.size:Nat):Int)<(n:Int):=by omega
   have HB2:Hid (cA (lo++⟨#[128]⟩)=cA s++List.replicate (k+1) 128/\cA (hi++⟨#[191]⟩)=cA s++List.replicate (k+1) 191):=hW_ (by
    obtain⟨e1,e2⟩:=HB.out;rw[aS,aS,e1,e2,bytes_80,bytes_bf];simp[List.replicate_succ'])
   have z1:(lo++⟨#[128]⟩:ByteArray).size=s.size+(k+1):=by rw[ByteArray.size_append,hl];rfl
   have z2:(hi++⟨#[191]⟩:ByteArray).size=s.size+(k+1):=by rw[ByteArray.size_append,hh];rfl
   have HZ:=hW_ (And.intro z1 z2);clear z1 z2;go_wp2_with (fail);go_roundw
   case rel=>exact⟨k+1,_,_,by omega,rfl,rfl,HZ.out.1,HZ.out.2,HB2,by first | rfl | trivial⟩
   case measure=>
    have:=HZ.out.1;simp only;omega
  ·have hkn:s.size+k=n:=by omega
   obtain⟨a,ha⟩:∃a,lC (yI (cA s) n 128) n=a:=⟨_,rfl⟩;obtain⟨c,hc⟩:∃c,lC (yI (cA s) n 191) n=c:=⟨_,rfl⟩;have hfl:cA lo=yI (cA s) n 128/\cA hi=yI (cA s) n 191:=by
    obtain⟨e1,e2⟩:=HB.out;unfold yI;rw[A8,show n-s.size=k by omega];exact⟨e1,e2⟩
   have b1:=J6 lo n wr (by omega) h4 (by omega);have b2:=J6 hi n wr (by omega) h4 (by omega);have sa:=zK (s:=lo) (n:=n) (by omega) h4 (by omega);have sc:=zK (s:=hi) (n:=n) (by omega) h4 (by omega);rw[hfl.1,ha]at b1 sa;rw[hfl.2,hc]at b2 sc;have hmt:C1 (cA s) n=nD a c (kI n):=by unfold C1;rw[ha,hc]
   have HB1:=hW_ b1;have HB2:=hW_ b2;have HMT:Hid (decide (C1 (cA s) n)=decide (nD a c (kI n))):=hW_ (by simp only[hmt]);obtain⟨mm,hmm⟩:∃m,kI n=m:=⟨_,rfl⟩;rw[hmm]at HMT;have HMM:=hW_ hmm;clear b1 b2 hfl ha hc hmt hmm;go_wp2_with (fail);go_at_call 132;refine HB1.out.mono ?_
   rintro e w1 ⟨rfl,rfl⟩;go_wp2_with (fail);go_at_call 132;refine HB2.out.mono ?_
   rintro e w1 ⟨rfl,rfl⟩
   by_cases ra:a<0
   ·have g1:decide (a<0)=true:=by simpa using ra
    have HN:Hid (decide (nD a c mm)=false):=hW_ (by unfold nD;simp;omega);go_wp2_with (fail);go_ret;exact⟨by rw[HMT.out,HN.out];rfl,rfl⟩
   have g1:decide (a<0)=false:=by simpa using ra
   by_cases rc:c<0
   ·have g2:decide (c<0)=true:=by simpa using rc
    have HN:Hid (decide (nD a c mm)=false):=hW_ (by unfold nD;simp;omega);go_wp2_with (fail);go_ret;exact⟨by rw[HMT.out,HN.out];rfl,rfl⟩
   have g2:decide (c<0)=false:=by simpa using rc
   have hmm:=HMM.out;rcases(show n=2\/n=3\/n=4 by omega)with rfl | rfl | rfl
   ·obtain rfl:mm=128:=hmm.symm;clear hmm;go_wp2_with (fail)
    all_goals(
     refine bodyPost_ret (results_tmp rfl _ _ _) rfl ⟨?_,rfl⟩;rw[HMT.out];refine congrArg (fun b=>Ending.returned (.bool b)) ?_
     rw[Bool.eq_iff_iff];simp[nD];omega)
   ·obtain rfl:mm=2048:=hmm.symm;clear hmm;go_wp2_with (fail)
    all_goals(
     refine bodyPost_ret (results_tmp rfl _ _ _) rfl ⟨?_,rfl⟩;rw[HMT.out];refine congrArg (fun b=>Ending.returned (.bool b)) ?_
     rw[Bool.eq_iff_iff];simp[nD];omega)
   ·obtain rfl:mm=65536:=hmm.symm;clear hmm;go_wp2_with (fail)
    all_goals(
     refine bodyPost_ret (results_tmp rfl _ _ _) rfl ⟨?_,rfl⟩;rw[HMT.out];refine congrArg (fun b=>Ending.returned (.bool b)) ?_
     rw[Bool.eq_iff_iff];simp[nD];omega)
theorem F4 {B:Nat} {a w:World} {g:Nat} (h:Below B a w) (hg:B<=g) (x y z:Value):Below B a (((w.setCell ⟨g,0,none⟩ x).setCell ⟨g,1,none⟩ y).setCell ⟨g,2,none⟩ z):=
 ((h.setCell (p:=⟨g,0,none⟩) hg x).setCell (p:=⟨g,1,none⟩) hg y).setCell (p:=⟨g,2,none⟩) hg z
def tK (r:Int×Int×Bool):Value:= .agg #[.int .i64 r.1, .int .i64 r.2.1, .bool r.2.2]
theorem bR (s:ByteArray) (final:Bool) (w:World) (hsz:s.size<=1000000):Calls Tryz.prog 68 #[.string s, .bool final] w fun e w'=>e= .returned (tK (N7 final (cA s)))/\Below w.heap.size w w':=by
 by_cases h0:s.size=0
 ·have hs:s=ByteArray.empty:=by
   apply R9;apply List.eq_nil_of_length_eq_zero;rw[A8];exact h0
  subst hs;go_enter Tryz.func68,Tryz.ntmps68;go_wp2_with (fail);refine bodyPost_ret (v:=tK (-1,0,true)) ?_ rfl ⟨rfl,aA w _⟩
  simp[results,Tryz.results68,go_sem,tK]
 have h0':0<s.size:=by omega
 obtain⟨hem1,hem2,hem3⟩:=C5 h0;obtain⟨x,hx⟩:∃x:Int,(s[0].toNat:Int)=x:=⟨_,rfl⟩;have hx8:=s[0].toNat_lt;have hxw:IntKind.u8.wrap x=x:=by rw[IntKind.wrap_u8];omega
 have hl:=bX x;obtain⟨n,hn⟩:∃n,B1 x=n:=⟨_,rfl⟩;rw[hn]at hl;have hn4:n<=4:=by
  rw[<-hn];unfold B1
  repeat' split
  all_goals omega
 have hbl:cA s=x::(cA s).drop 1:=by
  have:=E2 h0'
  rwa [List.drop_zero,hx]at this
 have hdr:N7 final (cA s)=if 0<n/\n<=s.size then(if 0<=uD (cA s) n then(uD (cA s) n,(n:Int),false)else(-1,1,false))
   else if 0<n/\final=false/\C1 (cA s) n then(-1,0,true)else(-1,1,false):=by
  rw[hbl];unfold N7;simp only[hn,<-hbl,A8]
 obtain⟨w0,hw0⟩:∃w0,w.alloc (.cells #[.int .i64 0, .int .i64 0, .bool false] 113)=w0:=⟨_,rfl⟩;have hb0:Below w.heap.size w w0:=hw0▸aA w _;have hx0:w0.heap[w.heap.size]?=some (.cells #[.int .i64 0, .int .i64 0, .bool false] 113):=by rw[<-hw0];exact heap_alloc_new w _
 have hz0:w.heap.size<w0.heap.size:=by rw[<-hw0];simp
 have hcl:=hl w0 (by omega);have HL:=hW_ hcl;have HB0:=hW_ hb0;have HX0:=hW_ hx0;have HZ0:=hW_ hz0;have HW0:=hW_ hw0
 by_cases n0:n=0
 ·subst n0;have HR:Hid (N7 final (cA s)=(-1,1,false)):=hW_ (by rw[hdr,if_neg (by omega),if_neg (by omega)]);obtain⟨z0,z1,z2⟩:=A9 hx0;have zf:=qL hx0;clear hdr hbl hb0 hx0 hz0 hw0 hcl hl;go_enter Tryz.func68,Tryz.ntmps68;go_wp2_with (fail);rw[HW0.out];go_at_call 99;refine HL.out.mono ?_
  rintro e w1 ⟨rfl,rfl⟩;go_wp2_with (fail);refine bodyPost_ret (v:=tK (-1,1,false)) ?_ rfl ⟨by rw[HR.out],F4 HB0.out (Nat.le_refl _) _ _ _⟩
  simp[results,Tryz.results68,go_sem,tK,z0,z1,z2]
 have gn0:decide ((0:Int)<(n:Int))=true:=by simp;omega
 by_cases hns:n<=s.size
 ·have gns:decide ((n:Int)<=((s.size:Nat):Int))=true:=by simp;omega
  have hwh:=aV s n w0 (by omega) hn4 hns;obtain⟨p,hp⟩:∃p,uD (cA s) n=p:=⟨_,rfl⟩;rw[hp]at hwh hdr;rw[if_pos ⟨by omega,hns⟩]at hdr;have HWH:=hW_ hwh
  by_cases hp0:0<=p
  ·rw[if_pos hp0]at hdr;have HR:=hW_ hdr;have gp:decide ((0:Int)<=p)=true:=by simpa using hp0
   clear hdr hbl hb0 hx0 hz0 hw0 hcl hl hwh hp;go_enter Tryz.func68,Tryz.ntmps68;go_wp2_with (fail);rw[HW0.out];go_at_call 99;refine HL.out.mono ?_
   rintro e w1 ⟨rfl,rfl⟩;go_wp2_with (fail);go_at_call 100;refine HWH.out.mono ?_
   rintro e w2 ⟨rfl,hb2⟩;have hx2:=(hb2.block _ HZ0.out).trans HX0.out;obtain⟨z0,z1,z2⟩:=A9 hx2;have zf:=qL hx2;have HB2:=hW_ (HB0.out.trans (hb2.mono HB0.out.size));clear hb2 hx2;go_wp2_with (fail);refine bodyPost_ret (v:=tK (p,n,false)) ?_ rfl ⟨by rw[HR.out],F4 HB2.out (Nat.le_refl _) _ _ _⟩
   simp[results,Tryz.results68,go_sem,tK,z0,z1,z2]
  ·rw[if_neg hp0]at hdr;have HR:=hW_ hdr;have gp:decide ((0:Int)<=p)=false:=by simpa using hp0
   clear hdr hbl hb0 hx0 hz0 hw0 hcl hl hwh hp;go_enter Tryz.func68,Tryz.ntmps68;go_wp2_with (fail);rw[HW0.out];go_at_call 99;refine HL.out.mono ?_
   rintro e w1 ⟨rfl,rfl⟩;go_wp2_with (fail);go_at_call 100;refine HWH.out.mono ?_
   rintro e w2 ⟨rfl,hb2⟩;have hx2:=(hb2.block _ HZ0.out).trans HX0.out;obtain⟨z0,z1,z2⟩:=A9 hx2;have zf:=qL hx2;have HB2:=hW_ (HB0.out.trans (hb2.mono HB0.out.size));clear hb2 hx2;go_wp2_with (fail);refine bodyPost_ret (v:=tK (-1,1,false)) ?_ rfl ⟨by rw[HR.out],F4 HB2.out (Nat.le_refl _) _ _ _⟩
   simp[results,Tryz.results68,go_sem,tK,z0,z1,z2]
 have gns:decide ((n:Int)<=((s.size:Nat):Int))=false:=by simp;omega
 rw[if_neg (by omega)]at hdr
 cases final with
 | true=>
  have HR:Hid (N7 true (cA s)=(-1,1,false)):=hW_ (by rw[hdr,if_neg (by simp)]);obtain⟨z0,z1,z2⟩:=A9 hx0;have zf:=qL hx0;clear hdr hbl hb0 hx0 hz0 hw0 hcl hl;go_enter Tryz.func68,Tryz.ntmps68;go_wp2_with (fail);rw[HW0.out];go_at_call 99;refine HL.out.mono ?_
  rintro e w1 ⟨rfl,rfl⟩;go_wp2_with (fail);refine bodyPost_ret (v:=tK (-1,1,false)) ?_ rfl ⟨by rw[HR.out],F4 HB0.out (Nat.le_refl _) _ _ _⟩
  simp[results,Tryz.results68,go_sem,tK,z0,z1,z2]
 | false=>
  have hmt:=eV s n w0 (by omega) hn4 h0' (by omega)
  by_cases hm:C1 (cA s) n
  ·rw[decide_eq_true hm]at hmt;have HMT:=hW_ hmt;have HR:Hid (N7 false (cA s)=(-1,0,true)):=hW_ (by rw[hdr,if_pos ⟨by omega,rfl,hm⟩]);obtain⟨z0,z1,z2⟩:=A9 hx0;have zf:=qL hx0;clear hdr hbl hb0 hx0 hz0 hw0 hcl hl hmt hm;go_enter Tryz.func68,Tryz.ntmps68;go_wp2_with (fail);rw[HW0.out];go_at_call 99;refine HL.out.mono ?_
   rintro e w1 ⟨rfl,rfl⟩;go_wp2_with (fail);go_at_call 101;refine HMT.out.mono ?_
   rintro e w1 ⟨rfl,rfl⟩;go_wp2_with (fail);refine bodyPost_ret (v:=tK (-1,0,true)) ?_ rfl ⟨by rw[HR.out],F4 HB0.out (Nat.le_refl _) _ _ _⟩
   simp[results,Tryz.results68,go_sem,tK,z0,z1,z2]
  ·rw[decide_eq_false hm]at hmt;have HMT:=hW_ hmt;have HR:Hid (N7 false (cA s)=(-1,1,false)):=hW_ (by rw[hdr,if_neg (fun h=>hm h.2.2)]);obtain⟨z0,z1,z2⟩:=A9 hx0;have zf:=qL hx0;clear hdr hbl hb0 hx0 hz0 hw0 hcl hl hmt hm;go_enter Tryz.func68,Tryz.ntmps68;go_wp2_with (fail);rw[HW0.out];go_at_call 99;refine HL.out.mono ?_
   rintro e w1 ⟨rfl,rfl⟩;go_wp2_with (fail);go_at_call 101;refine HMT.out.mono ?_
   rintro e w1 ⟨rfl,rfl⟩;go_wp2_with (fail);refine bodyPost_ret (v:=tK (-1,1,false)) ?_ rfl ⟨by rw[HR.out],F4 HB0.out (Nat.le_refl _) _ _ _⟩
   simp[results,Tryz.results68,go_sem,tK,z0,z1,z2]
def cF (b:List Int):Nat:=(pts [] b).length-nA (pts [] b)
theorem aCb:cF []=0:=rfl
theorem oM {b:List Int} (h:b≠[]) (hm:(dec false b).2.2=true):cF b=b.length:=by
 unfold cF;rw[J7 [] h hm];have:nA (b.map (fun _=>A4))=0:=by
  unfold nA
  cases b<;>simp[A4]
 rw[this,List.length_map];rfl
theorem pM {b:List Int} (h:b≠[]) (hm:(dec false b).2.2=false):cF b=cF (b.drop (dec false b).2.1.toNat):=by
 unfold cF;rw[eE [] h hm];have:∀(q:Pt) (L:List Pt),q.sure=true->nA (q::L)=nA L+1:=fun q L h=>by unfold nA;simp[h]
 rw[this _ _ rfl,List.length_cons];omega
theorem W7 (s:ByteArray) (w:World) (hsz:s.size<=1000000):Calls Tryz.prog 29 #[.string s] w fun e w'=>e= .returned (.int .i64 ((cF (cA s):Nat):Int))/\Below w.heap.size w w':=by
 go_enter Tryz.func29,Tryz.ntmps29;go_wp2_with (fail);go_loopw [0] (fun a wr=>∃s':ByteArray,a= .string s'/\s'.size<=s.size/\Hid (cF (cA s')=cF (cA s))/\Hid (Below w.heap.size w wr)) (fun a _=>(match a with | .string x=>x.size | _=>0))
 case atStart=>exact⟨s,rfl,Nat.le_refl _,hW_ rfl,hW_ (Below.refl _ _)⟩
 case round=>
  obtain⟨s',rfl,hs',HR,HB⟩:=hrel
  by_cases h0:s'.size=0
  ·obtain⟨he1,he2,he3⟩:=rC h0;have HE:Hid (cF (cA s)=0):=hW_ (by
    rw[<-HR.out];have:cA s'= []:=List.eq_nil_of_length_eq_zero (by rw[A8];exact h0);rw[this];rfl)
   go_wp2_with (fail);go_ret;exact⟨by rw[HE.out];rfl,HB.out⟩
  ·obtain⟨he1,he2,he3⟩:=C5 h0;have hne:cA s'≠[]:=fun e=>h0 (by rw[<-A8,e];rfl)
   have hd:=bR s' false wr (by omega);rw[aBs (fun x hx=>iL x hx)]at hd;have hn:=eM (final:=false) hne;have hro:=oM hne;have hrn:=pM hne;obtain⟨⟨p,n,more⟩,hr⟩:∃r,dec false (cA s')=r:=⟨_,rfl⟩;rw[hr]at hd hn hro hrn;unfold tK at hd;simp only at hd hn hro hrn;have HD:=hW_ hd
   cases more with
   | true=>
    have HE:Hid (cF (cA s)=s'.size):=hW_ (by rw[<-HR.out,hro rfl,A8]);clear hd hn hro hrn hr hne;go_wp2_with (fail);go_at_call 68;refine HD.out.mono ?_
    rintro e w1 ⟨rfl,hb1⟩;have HB1:=hW_ ((HB.out.trans (hb1.mono HB.out.size)).alloc (Nat.le_trans HB.out.size hb1.size) (.cells #[.int .i64 p, .int .i64 n, .bool true] 113));clear hb1;go_wp2_with (fail);refine bodyPost_ret (results_tmp rfl _ _ _) rfl ⟨by rw[HE.out];rfl,HB1.out⟩
   | false=>
    obtain⟨hn1,hn2,hn3⟩:=hn.2 rfl;obtain⟨j,rfl⟩:∃j:Nat,n=j:=⟨n.toNat,by omega⟩;rw[A8]at hn2;have HE:Hid (cF (cA (s'.extract j s'.size))=cF (cA s)):=hW_ (by
     rw[vP,<-HR.out,hrn rfl];rfl)
    have hj:j<=s'.size:=by omega
    have HSZ:Hid ((s'.extract j s'.size).size=s'.size-j):=hW_ (by rw[ByteArray.size_extract];omega);have HJ1:1<=j:=by omega
    clear hd hn hro hrn hr hne;go_wp2_with (fail);go_at_call 68;refine HD.out.mono ?_
    rintro e w1 ⟨rfl,hb1⟩;have HB1:=hW_ ((HB.out.trans (hb1.mono HB.out.size)).alloc (Nat.le_trans HB.out.size hb1.size) (.cells #[.int .i64 p, .int .i64 j, .bool false] 113));clear hb1;go_wp2_with (fail);go_roundw
    case rel=>exact⟨_,rfl,by rw[HSZ.out];omega,HE,HB1⟩
    case measure=>
     have:=HSZ.out;simp only;omega
open Go
theorem yR {n:Int}:∀{k:Nat} {p lo hi:Int} {l:List Int},(jB false n k p lo hi l).2.2=false->jB true n k p lo hi l=jB false n k p lo hi l
 | 0,p,lo,hi,l,_=>rfl
 | k+1,p,lo,hi,[],h=>by simp[jB]at h
 | k+1,p,lo,hi,x::l,h=>by
  simp only[jB]at h |-;split
  ·rfl
  ·next hx=>rw[if_neg hx]at h;exact yR h
theorem zR {n:Int}:∀{k:Nat} {p lo hi:Int} {l:List Int},128<=lo->hi<=191->(jB false n k p lo hi l).2.2=true->jB true n k p lo hi l=(-1,1,false)/\∀x∈l,128<=x/\x<194
 | 0,p,lo,hi,l,_,_,h=>by simp[jB]at h
 | k+1,p,lo,hi,[],_,_,h=>⟨by simp[jB],by simp⟩
 | k+1,p,lo,hi,x::l,hl,hh,h=>by
  simp only[jB]at h |-;split
  ·next hx=>rw[if_pos hx]at h;simp at h
  ·next hx=>
   rw[if_neg hx]at h;obtain⟨h1,h2⟩:=zR (by omega) (by omega) h;refine⟨h1,fun y hy=> ?_⟩;rcases List.mem_cons.1 hy with rfl | hy
   ·omega
   ·exact h2 y hy
theorem kindF_lo {c:Int} (h:1<(aB c).1):128<=(aB c).2.2.1/\(aB c).2.2.2<=191:=by
 obtain⟨r,hr⟩:∃r,aB c=r:=⟨_,rfl⟩;rw[hr]at h |-;unfold aB at hr;split at hr
 ·subst hr;simp at h
 split at hr
 ·subst hr;simp at h
 split at hr
 ·subst hr;simp
 split at hr
 ·subst hr;simp
 split at hr
 ·subst hr;simp
 split at hr
 ·subst hr;simp
 split at hr
 ·subst hr;simp
 split at hr
 ·subst hr;simp
 ·subst hr;simp
theorem dec_true {b:List Int} (h:(dec false b).2.2=false):dec true b=dec false b:=by
 cases b with
 | nil=>rfl
 | cons c l=>
  simp only[dec]at h |-;split
  ·rfl
  ·next h0=>rw[if_neg h0]at h;exact yR h
theorem dec_open {b:List Int} (hb:b≠[]) (h:(dec false b).2.2=true):dec true b=(-1,1,false)/\∀x∈b.drop 1,128<=x/\x<194:=by
 cases b with
 | nil=>exact absurd rfl hb
 | cons c l=>
  simp only[dec]at h |-;split
  ·next h0=>rw[if_pos h0]at h;simp at h
  ·next h0=>
   rw[if_neg h0]at h
   by_cases h1:(aB c).1=1
   ·rw[h1]at h;simp[jB]at h
   ·have h2:=kindF_lo (c:=c) (by omega);exact zR h2.1 h2.2 h
theorem dec_tail {x:Int} {l:List Int} (h:128<=x/\x<194):dec true (x::l)=(-1,1,false):=by
 simp only[dec];rw[if_pos];unfold aB;rw[if_neg (by omega),if_pos (by omega)]
theorem fX (b:List Int):cF b<=b.length:=by
 induction hn:b.length using Nat.strongRecOn generalizing b with
 | _ n ih=>
  by_cases hb:b= []
  ·subst hb;simp[aCb]
  ·cases hm:(dec false b).2.2 with
   | true=>rw[oM hb hm];omega
   | false=>
    have h3:=(eM (final:=false) hb).2 hm;rw[pM hb hm];have:=ih _ (by simp only[List.length_drop];omega) (b.drop (dec false b).2.1.toNat) rfl;simp only[List.length_drop]at this;omega
theorem aBO (b:List Int):nA (b.map (fun _=>A4))=0:=by
 unfold nA;cases b<;>simp[A4]
def jO (T:List Rg) (b b':List Int) (A:List Pt) (n:Nat):Prop:=
 (pts T b=A++pts T b'/\cF b'=cF b/\n=A.length/\nA (pts T b)=A.length+nA (pts T b'))\/
 (pts T b=A++b'.map (fun _=>A4)/\b'.length<=cF b/\n=nA (pts T b)/\∀x∈b',128<=x/\x<194)
theorem jO.zero (T:List Rg) (b:List Int):jO T b b [] 0:= .inl ⟨rfl,rfl,rfl,by simp⟩
theorem jO.done {T:List Rg} {b:List Int} {A:List Pt} {n:Nat} (h:jO T b [] A n):pts T b=A/\n=nA A:=by
 rcases h with⟨h1,h2,h3,h4⟩ | ⟨h1,h2,h3,h4⟩
 ·rw[aAV,List.append_nil]at h1;refine⟨h1,?_⟩;rw[h1]at h4;rw[h4,h3];simp[aAV,nA]
 ·simp at h1;exact⟨h1,by rw[<-h1];exact h3⟩
theorem jO.step {T:List Rg} (hT:kA T) {b b':List Int} {A:List Pt} {n:Nat} (h:jO T b b' A n) (hb:b'≠[]):
  ∃q:Pt,q.code=(dec true b').1/\q.cls=zC T (dec true b').1/\q.n=(dec true b').2.1/\(1<=q.n/\q.n<=b'.length)/\jO T b (b'.drop q.n.toNat) (A++ [q]) (if cF b<b'.length then n+1 else n):=by
 have hpos:0<b'.length:=List.length_pos_iff.2 hb;have hneg:=aCO hT (p:= -1) (by omega);rcases h with⟨h1,h2,h3,h4⟩ | ⟨h1,h2,h3,h4⟩
 ·cases hm:(dec false b').2.2 with
  | false=>
   have h5:=(eM (final:=false) hb).2 hm;have h6:=pM hb hm;have h7:=fX (b'.drop (dec false b').2.1.toNat);rw[List.length_drop]at h7;have e:dec true b'=dec false b':=dec_true hm;have hc:=eE T hb hm;refine⟨⟨(dec false b').1,zC T (dec false b').1,(dec false b').2.1,true⟩,by rw[e],by rw[e],by rw[e],⟨h5.1,h5.2.1⟩,?_⟩;rw[if_pos (by omega)];refine .inl ⟨by rw[h1,hc];simp,by rw[<-h6];exact h2,by simp[h3],?_⟩;have hs:∀(p:Pt) (M:List Pt),p.sure=true->nA (p::M)=nA M+1:=fun p M hp=>by unfold nA;simp[hp]
   rw[h4,hc,hs _ _ rfl];simp;omega
  | true=>
   have h6:=oM hb hm;obtain⟨e,ht⟩:=dec_open hb hm;have ho:=J7 T hb hm;refine⟨A4,by rw[e];rfl,by rw[e];exact hneg.symm,by rw[e];rfl,⟨by decide,by show(1:Int)<=_;omega⟩,?_⟩;rw[if_neg (by omega)];refine .inr ⟨?_,?_,?_,ht⟩
   ·rw[h1,ho]
    cases b' with
    | nil=>exact absurd rfl hb
    | cons c l=>simp[A4]
   ·show(b'.drop 1).length<=_;rw[List.length_drop];omega
   ·rw[h4,ho,aBO,h3];rfl
 ·cases b' with
  | nil=>exact absurd rfl hb
  | cons x l=>
   have e:=dec_tail (l:=l) (h4 x (by simp));refine⟨A4,by rw[e];rfl,by rw[e];exact hneg.symm,by rw[e];rfl,⟨by decide,by show(1:Int)<=_;omega⟩,?_⟩;rw[if_neg (by omega)];refine .inr ⟨by rw[h1];simp[A4],?_,h3,fun y hy=>h4 y (List.mem_cons_of_mem _ (by simpa[A4]using hy))⟩;show((x::l).drop 1).length<=_;simp at h2 |-;omega
open Go.RowKit Go.ChangeMaps
structure PB (w:World) (base kb:Nat) (v:Nat->Value) (A:Nat->List Int) (s:Int):Prop where
 box:w.heap[kb]?=some (.cells #[v 0,v 1,v 2, .int .i64 s] 156)
 row:∀j,j<3->Own w base (v j) (A j)
 lo:base<=kb/\base<=w.heap.size
 far:∀j,j<3->∀q,(v j).ownBlock=some q->q≠kb/\∀i,i<3->i≠j->(v i).ownBlock≠some q
theorem PB.cells {w:World} {base kb:Nat} {v1 v2 v3:Value} {A:Nat->List Int} {s:Int} (h:PB w base kb (V3 v1 v2 v3) A s):w.cell? ⟨kb,0,none⟩=some v1/\w.cell? ⟨kb,1,none⟩=some v2/\w.cell? ⟨kb,2,none⟩=some v3/\w.cell? ⟨kb,3,none⟩=some (.int .i64 s)/\∀o,w.frozen? ⟨kb,o,none⟩=false:=by
 have:=h.box;simp[World.cell?,World.frozen?,this,V3]
theorem PB.stay {w w':World} {base kb:Nat} {v:Nat->Value} {A:Nat->List Int} {s:Int} (h:PB w base kb v A s) (hb:Below w.heap.size w w'):PB w' base kb v A s:=
 ⟨(hb.block _ (Array.getElem?_eq_some_iff.1 h.box).1).trans h.box,fun j hj=>(h.row j hj).below hb,⟨h.lo.1,Nat.le_trans h.lo.2 hb.size⟩,h.far⟩
theorem PB.sure {w:World} {base kb:Nat} {v:Nat->Value} {A:Nat->List Int} {s:Int} (h:PB w base kb v A s) (x:Int):PB (w.setCell ⟨kb,3,none⟩ (.int .i64 x)) base kb v A x/\Below base w (w.setCell ⟨kb,3,none⟩ (.int .i64 x)):=by
 have hlt:=fun i (hi:i<3)=>World.ownsRow.lt (h.row i hi)
 refine⟨⟨?_,fun i hi=>rA (h.row i hi) (fun q hq=>heap_setCell_other w ⟨kb,3,none⟩ q _ (h.far i hi q hq).1),⟨h.lo.1,by have:=h.lo.2;simp;omega⟩,h.far⟩,(Below.refl base w).setCell (p:=⟨kb,3,none⟩) h.lo.1 _⟩;simp[World.setCell,Array.getElem?_modify,h.box]
theorem PB.step {w W w1:World} {base kb gg n cap:Nat} {v:Nat->Value} {A:Nat->List Int} {s x:Int} (h:PB w base kb v A s) (hW:Below w.heap.size w W) (j:Nat) (hj:j<3)
  (ho:Own w1 base (.slice (some ⟨gg,0,none⟩) n cap) (A j++ [x])) (hg:W.grownBy w1 (v j).ownBlock) (hat:(v j).ownBlock=some gg\/gg=W.heap.size):
  PB (w1.setCell ⟨kb,j,none⟩ (.slice (some ⟨gg,0,none⟩) n cap)) base kb (M4 v j (.slice (some ⟨gg,0,none⟩) n cap)) (M4 A j (A j++ [x])) s/\Below base w (w1.setCell ⟨kb,j,none⟩ (.slice (some ⟨gg,0,none⟩) n cap)):=by
 have hkb:=(Array.getElem?_eq_some_iff.1 h.box).1;have hfar:=h.far j hj;have hlt:=fun i (hi:i<3)=>World.ownsRow.lt (h.row i hi)
 have key:∀q,q<w.heap.size->(v j).ownBlock≠some q->w1.heap[q]?=w.heap[q]? :=fun q hq hne=>(hg.block q (Nat.lt_of_lt_of_le hq hW.size) (fun e=>hne e.symm)).trans (hW.block q hq)
 have key2:∀q,q<w.heap.size->(v j).ownBlock≠some q->q≠kb->(w1.setCell ⟨kb,j,none⟩ (.slice (some ⟨gg,0,none⟩) n cap)).heap[q]?=w.heap[q]? :=fun q hq hne hk=>(heap_setCell_other w1 ⟨kb,j,none⟩ q _ hk).trans (key q hq hne)
 have hgg:gg≠kb/\∀i,i<3->i≠j->(v i).ownBlock≠some gg:=by
  rcases hat with h1 | h1
  ·exact hfar gg h1
  ·have:=hW.size;exact⟨by omega,fun i hi _ e=>by have:=(hlt i hi gg e).2;omega⟩
 have hbw:=h.lo.2;refine⟨⟨?_,fun i hi=> ?_,⟨h.lo.1,?_⟩,fun i hi q hq=> ?_⟩,⟨?_,?_,?_,?_,?_⟩⟩
 ·have hk:=(key kb hkb (fun e=>(hfar kb e).1 rfl)).trans h.box;rcases(by omega:j=0\/j=1\/j=2)with rfl | rfl | rfl<;>simp[World.setCell,Array.getElem?_modify,hk,M4]
 ·unfold M4
  by_cases hij:i=j
  ·rw[if_pos hij,if_pos hij];exact rA ho (fun q hq=>by
    obtain rfl:gg=q:=by simpa[Value.ownBlock]using hq
    exact heap_setCell_other w1 ⟨kb,j,none⟩ gg _ hgg.1)
  ·rw[if_neg hij,if_neg hij];exact rA (h.row i hi) (fun q hq=>key2 q (hlt i hi q hq).2 (fun e=>(h.far i hi q hq).2 j hj (fun e2=>hij e2.symm) e) (h.far i hi q hq).1)
 ·have:=hg.size;have:=hW.size;simp;omega
 ·unfold M4 at hq |-
  by_cases hij:i=j
  ·rw[if_pos hij]at hq;obtain rfl:gg=q:=by simpa[Value.ownBlock]using hq
   refine⟨hgg.1,fun i' hi' hne=> ?_⟩;rw[if_neg (by omega)];exact hgg.2 i' hi' (by omega)
  ·rw[if_neg hij]at hq;obtain⟨f1,f4⟩:=h.far i hi q hq;refine⟨f1,fun i' hi' hne=> ?_⟩
   by_cases hij':i'=j
   ·rw[if_pos hij'];intro e;obtain rfl:gg=q:=by simpa[Value.ownBlock]using e
    exact hgg.2 i hi hij hq
   ·rw[if_neg hij'];exact f4 i' hi' hne
 ·exact hg.os.trans hW.os
 ·exact hg.tape.trans hW.tape
 ·exact hg.output.trans hW.output
 ·have:=hg.size;have:=hW.size;simp;omega
 ·intro q hq;refine key2 q (by omega) (fun e=> ?_) (by have:=h.lo.1;omega);have:=(hlt j hj q e).1;omega
theorem PB.after {w W w1:World} {base kb:Nat} {v1 v2 v3:Value} {A:Nat->List Int} {s:Int} (h:PB w base kb (V3 v1 v2 v3) A s) (hW:Below w.heap.size w W) (j:Nat) (hj:j<3) (hg:W.grownBy w1 (V3 v1 v2 v3 j).ownBlock):
  w1.cell? ⟨kb,0,none⟩=some v1/\w1.cell? ⟨kb,1,none⟩=some v2/\w1.cell? ⟨kb,2,none⟩=some v3/\w1.cell? ⟨kb,3,none⟩=some (.int .i64 s)/\∀o,w1.frozen? ⟨kb,o,none⟩=false:=by
 have hkb:=(Array.getElem?_eq_some_iff.1 h.box).1;have hb:=(hg.block kb (Nat.lt_of_lt_of_le hkb hW.size) (fun e=>(h.far j hj kb e.symm).1 rfl)).trans ((hW.block kb hkb).trans h.box);simp[World.cell?,World.frozen?,hb,V3]
theorem PB.same {w:World} {base kb:Nat} {v v':Nat->Value} {A A':Nat->List Int} {s:Int} (h:PB w base kb v A s) (hv:∀i,i<3->v' i=v i) (hA:∀i,i<3->A' i=A i):PB w base kb v' A' s:=
 ⟨by rw[hv 0 (by omega),hv 1 (by omega),hv 2 (by omega)];exact h.box,fun j hj=>by rw[hv j hj,hA j hj];exact h.row j hj,h.lo,fun j hj q hq=>by
  rw[hv j hj]at hq;obtain⟨f1,f2⟩:=h.far j hj q hq;exact⟨f1,fun i hi hne=>by rw[hv i hi];exact f2 i hi hne⟩⟩
theorem PB.step0 {w W w1:World} {base kb gg n cap:Nat} {v1 v2 v3:Value} {A1 A2 A3:List Int} {s x:Int} (h:PB w base kb (V3 v1 v2 v3) (V3 A1 A2 A3) s) (hW:Below w.heap.size w W)
  (ho:Own w1 base (.slice (some ⟨gg,0,none⟩) n cap) (A1++ [x])) (hg:W.grownBy w1 v1.ownBlock) (hat:v1.ownBlock=some gg\/gg=W.heap.size):
  PB (w1.setCell ⟨kb,0,none⟩ (.slice (some ⟨gg,0,none⟩) n cap)) base kb (V3 (.slice (some ⟨gg,0,none⟩) n cap) v2 v3) (V3 (A1++ [x]) A2 A3) s/\Below base w (w1.setCell ⟨kb,0,none⟩ (.slice (some ⟨gg,0,none⟩) n cap)):=by
 have:=h.step hW 0 (by omega) ho hg hat;rw[aAM,aAM]at this;exact this
theorem PB.step1 {w W w1:World} {base kb gg n cap:Nat} {v1 v2 v3:Value} {A1 A2 A3:List Int} {s x:Int} (h:PB w base kb (V3 v1 v2 v3) (V3 A1 A2 A3) s) (hW:Below w.heap.size w W)
  (ho:Own w1 base (.slice (some ⟨gg,0,none⟩) n cap) (A2++ [x])) (hg:W.grownBy w1 v2.ownBlock) (hat:v2.ownBlock=some gg\/gg=W.heap.size):
  PB (w1.setCell ⟨kb,1,none⟩ (.slice (some ⟨gg,0,none⟩) n cap)) base kb (V3 v1 (.slice (some ⟨gg,0,none⟩) n cap) v3) (V3 A1 (A2++ [x]) A3) s/\Below base w (w1.setCell ⟨kb,1,none⟩ (.slice (some ⟨gg,0,none⟩) n cap)):=by
 have:=h.step hW 1 (by omega) ho hg hat;rw[aAL,aAL]at this;exact this
theorem PB.step2 {w W w1:World} {base kb gg n cap:Nat} {v1 v2 v3:Value} {A1 A2 A3:List Int} {s x:Int} (h:PB w base kb (V3 v1 v2 v3) (V3 A1 A2 A3) s) (hW:Below w.heap.size w W)
  (ho:Own w1 base (.slice (some ⟨gg,0,none⟩) n cap) (A3++ [x])) (hg:W.grownBy w1 v3.ownBlock) (hat:v3.ownBlock=some gg\/gg=W.heap.size):
  PB (w1.setCell ⟨kb,2,none⟩ (.slice (some ⟨gg,0,none⟩) n cap)) base kb (V3 v1 v2 (.slice (some ⟨gg,0,none⟩) n cap)) (V3 A1 A2 (A3++ [x])) s/\Below base w (w1.setCell ⟨kb,2,none⟩ (.slice (some ⟨gg,0,none⟩) n cap)):=by
 have h1:=h.step hW 2 (by omega) ho hg hat;refine⟨h1.1.same (fun i hi=> ?_) (fun i hi=> ?_),h1.2⟩
 ·rcases(by omega:i=0\/i=1\/i=2)with rfl | rfl | rfl<;>rfl
 ·rcases(by omega:i=0\/i=1\/i=2)with rfl | rfl | rfl<;>rfl
theorem aCP {t:List Rg} {p:Int} {k:Nat} (hk:k<t.length) (h:(rg t k).lo<=p/\p<=(rg t k).hi) (hno:∀j,j<k->¬((rg t j).lo<=p/\p<=(rg t j).hi)):zC t p=(rg t k).cls:=by
 have hg:∀j (hj:j<t.length),t[j]=rg t j:=fun j hj=>by simp[rg,List.getD,hj]
 have:t.find? (fun r=>decide (r.lo<=p) && decide (p<=r.hi))=some (rg t k):=by
  rw[List.find?_eq_some_iff_getElem];exact⟨by simpa using h,k,hk,hg k hk,fun j hj=>by
   rw[hg j (by omega)];have:=hno j hj;simp;omega⟩
 unfold zC;rw[this]
theorem aAu {t:List Rg} {p:Int} (hno:∀j,j<t.length->¬((rg t j).lo<=p/\p<=(rg t j).hi)):zC t p=0:=by
 have hg:∀j (hj:j<t.length),t[j]=rg t j:=fun j hj=>by simp[rg,List.getD,hj]
 have:t.find? (fun r=>decide (r.lo<=p) && decide (p<=r.hi))=none:=by
  rw[List.find?_eq_none];intro x hx;obtain⟨j,hj,rfl⟩:=List.getElem_of_mem hx;rw[hg j hj];have:=hno j hj;simp;omega
 unfold zC;rw[this]
theorem Q7 {T:List Rg} {to_:Option Addr} {tn tc:Nat} (p:Int) (w:World) (hT:SlF 3 w to_ tn tc (flat Rg.enc T)) (hn:tn<=1048576):
  Calls Tryz.prog 135 #[.slice to_ tn tc, .int .i64 p] w fun e w'=>e= .returned (.int .i64 (zC T p))/\w'=w:=by
 have HT:=hW_ hT;have HTL:=hW_ (hT.count Rg.enc_len (by omega));clear hT;go_enter Tryz.func135,Tryz.ntmps135;go_wp2_with (fail);go_loopw [5,8] (fun _ i wr=>∃k:Nat,k<=tn/\i= .int .i64 k/\Hid (∀j,j<k->¬((rg T j).lo<=p/\p<=(rg T j).hi))/\wr=w) (fun _ i _=>tn-(intOf i).toNat)
 case atStart=>exact⟨0,Nat.zero_le _,rfl,hW_ (fun j h=>by omega),rfl⟩
 case round=>
  obtain⟨k,hk,rfl,HK,rfl⟩:=hrel
  by_cases hlt:k<tn
  ·have hkT:k<T.length:=by have:=HTL.out;omega
   obtain⟨b,of,hao,hce⟩:=HT.out.elem Rg.enc_len (by omega) (gH hkT);subst hao;have HHIT:=hW_ (fun h=>aCP (p:=p) hkT h HK.out);obtain⟨⟨lo,hi,cl⟩,hr⟩:∃m,rg T k=m:=⟨_,rfl⟩;rw[hr]at hce HHIT;have d0:=hce 0 _ rfl;have d1:=hce 1 _ rfl;have d2:=hce 2 _ rfl;rw[Nat.add_zero]at d0;simp only at d0 d1 d2;have gk:(k:Int)<(tn:Int):=by omega
   have HNX:Hid (¬(lo<=p/\p<=hi)->∀j,j<k+1->¬((rg T j).lo<=p/\p<=(rg T j).hi)):=hW_ (fun h j hj=>by
    by_cases e:j=k
    ·subst e;rw[hr];exact h
    ·exact HK.out j (by omega))
   clear hce hr
   by_cases h1:lo<=p
   ·have g1:decide (lo<=p)=true:=by simpa using h1
    by_cases h2:p<=hi
    ·have g2:decide (p<=hi)=true:=by simpa using h2
     have HE:Hid (zC T p=cl):=hW_ (HHIT.out ⟨h1,h2⟩);go_wp2_with (fail);refine bodyPost_ret (results_tmp rfl _ _ _) rfl ⟨by rw[HE.out];rfl,rfl⟩
    ·have g2:decide (p<=hi)=false:=by simpa using h2
     have HK2:=hW_ (HNX.out (fun h=>h2 h.2));go_wp2_with (fail);go_roundw
     case rel=>exact⟨k+1,by omega,by go_num,HK2,by first | rfl | trivial⟩
     case measure=>simp[intOf];omega
   ·have g1:decide (lo<=p)=false:=by simpa using h1
    have HK2:=hW_ (HNX.out (fun h=>h1 h.1));go_wp2_with (fail);go_roundw
    case rel=>exact⟨k+1,by omega,by go_num,HK2,by first | rfl | trivial⟩
    case measure=>simp[intOf];omega
  ·obtain rfl:k=tn:=by omega
   have HE:Hid (zC T p=0):=hW_ (aAu (fun j hj=>HK.out j (by have:=HTL.out;omega)));go_wp2_with (fail);go_ret;exact⟨by rw[HE.out];rfl,rfl⟩
theorem isC_at {L:List Pt} {i:Nat} {c y:Int} (h:(L.map Pt.cls)[i]?=some y):isC L i c=decide (y=c):=by
 rw[List.getElem?_map]at h;unfold isC
 cases hp:L[i]? with
 | none=>rw[hp]at h;simp at h
 | some p=>rw[hp]at h;simp at h;simp[h]
theorem spC_at {L:List Pt} {i:Nat} {y:Int} (h:(L.map Pt.cls)[i]?=some y):spC L i=(decide (y=3) || decide (y=4)):=by
 rw[List.getElem?_map]at h;unfold spC X5
 cases hp:L[i]? with
 | none=>rw[hp]at h;simp at h
 | some p=>rw[hp]at h;simp at h;simp[h]
theorem rowN_end {L:List Pt} {i:Nat} {c:Int} (h:L.length<=i):A5 L i c=0:=by
 unfold A5;rw[List.drop_eq_nil_of_le h];rfl
theorem spN_end {L:List Pt} {i:Nat} (h:L.length<=i):spN L i=0:=by
 unfold spN;rw[List.drop_eq_nil_of_le h];rfl
structure PsR (w:World) (po co no:Option Addr) (pc cc nc m:Nat) (L:List Pt):Prop where
 len:L.length=m
 p:SlI w po m pc (L.map Pt.code)
 c:SlI w co m cc (L.map Pt.cls)
 n:SlI w no m nc (L.map Pt.n)
theorem PsR.below {w w':World} {po co no:Option Addr} {pc cc nc m:Nat} {L:List Pt} (h:PsR w po co no pc cc nc m L) (hb:Below w.heap.size w w'):PsR w' po co no pc cc nc m L:=⟨h.len,Sl.below h.p hb,Sl.below h.c hb,Sl.below h.n hb⟩
def gB (r:Nat×Nat):Value:= .agg #[.int .i64 (r.1:Nat), .int .i64 (r.2:Nat)]
theorem xA {B:Nat} {a w:World} {g:Nat} (h:Below B a w) (hg:B<=g) (x y:Value):Below B a ((w.setCell ⟨g,0,none⟩ x).setCell ⟨g,1,none⟩ y):=
 (h.setCell (p:=⟨g,0,none⟩) hg x).setCell (p:=⟨g,1,none⟩) hg y
theorem zE {L:List Pt} {po co no:Option Addr} {pc cc nc m:Nat} {sn:Int} (i:Nat) (c:Int) (w:World) (hP:PsR w po co no pc cc nc m L) (hi:i<=m) (hl:m<=1000000):
  Calls Tryz.prog 141 #[.agg #[.slice po m pc, .slice co m cc, .slice no m nc, .int .i64 sn], .int .i64 i, .int .i64 c] w fun e w'=>e= .returned (.int .i64 ((A5 L i c:Nat):Int))/\Below w.heap.size w w':=by
 have HM:=hW_ hP.len;obtain⟨w0,hw0⟩:∃w0,w.alloc (.cells #[.slice po m pc, .slice co m cc, .slice no m nc, .int .i64 sn] 156)=w0:=⟨_,rfl⟩;have hb0:Below w.heap.size w w0:=hw0▸aA w _;have hx0:w0.heap[w.heap.size]?=some (.cells #[.slice po m pc, .slice co m cc, .slice no m nc, .int .i64 sn] 156):=by rw[<-hw0];exact heap_alloc_new w _
 have HSZ0:=hW_ (show w.heap.size<w0.heap.size by rw[<-hw0];simp);obtain⟨b0,b1,b2,b3⟩:=A0 hx0;have HP:=hW_ (hP.below hb0);have HB0:=hW_ hb0;have HX0:=hW_ hx0;have HW0:=hW_ hw0;clear hP hb0 hx0 hw0;go_enter Tryz.func141,Tryz.ntmps141;go_wp2_with (fail);rw[HW0.out];go_wp2_with (fail);go_loopw [7] (fun a wr=>∃k:Nat,a= .int .i64 k/\i+k<=m/\Hid (A5 L i c=k+A5 L (i+k) c)/\wr=w0) (fun a _=>m-(intOf a).toNat)
 case atStart=>exact⟨0,rfl,by omega,hW_ (by simp),rfl⟩
 case round=>
  obtain⟨k,rfl,hk,HK,rfl⟩:=hrel;have hw1:IntKind.i64.wrap ((i:Int)+(k:Int))=((i+k:Nat):Int):=by rw[IntKind.wrap_i64];omega
  by_cases hlt:i+k<m
  ·obtain⟨b,of,hao,hc⟩:=SlI.at_ HP.out.c hlt;subst hao;have hy0:(L.map Pt.cls)[i+k]?=some (ix (L.map Pt.cls) (i+k)):=qF (by rw[List.length_map,HM.out];exact hlt)
   obtain⟨y,hy⟩:∃y,ix (L.map Pt.cls) (i+k)=y:=⟨_,rfl⟩;rw[hy]at hc hy0;have HI:=hW_ (isC_at (c:=c) hy0);have gk:decide (((i+k:Nat):Int)<(m:Int))=true:=by simp;omega
   clear hy hy0
   by_cases hyc:y=c
   ·have g2:(y==c)=true:=by simpa using hyc
    have HR:=hW_ (eH (by rw[HI.out];simpa using hyc)).1;have hw2:IntKind.i64.wrap ((k:Int)+1)=((k+1:Nat):Int):=by rw[IntKind.wrap_i64];omega
    clear hyc;go_wp2_with (fail);go_roundw
    case rel=>exact⟨k+1,by go_num,by omega,hW_ (by have h1:=HK.out;have h2:=HR.out;rw[show i+(k+1)=i+k+1 by omega];omega),by first | rfl | trivial⟩
    case measure=>simp[intOf];omega
   ·have g2:(y==c)=false:=by simpa using hyc
    have HR:=hW_ (hQ (L:=L) (i:=i+k) (c:=c) (by rw[HI.out];simpa using hyc));clear hyc;go_wp2_with (fail);go_ret;exact⟨by have h1:=HK.out;have h2:=HR.out;rw[h1,h2];rfl,HB0.out⟩
  ·have gk:decide (((i+k:Nat):Int)<(m:Int))=false:=by simp;omega
   have HR:=hW_ (rowN_end (L:=L) (i:=i+k) (c:=c) (by rw[HM.out];omega));go_wp2_with (fail);go_ret;exact⟨by have h1:=HK.out;have h2:=HR.out;rw[h1,h2];rfl,HB0.out⟩
theorem bH {L:List Pt} {po co no:Option Addr} {pc cc nc m:Nat} {sn:Int} (i:Nat) (w:World) (hP:PsR w po co no pc cc nc m L) (hi:i<=m) (hl:m<=1000000):
  Calls Tryz.prog 136 #[.agg #[.slice po m pc, .slice co m cc, .slice no m nc, .int .i64 sn], .int .i64 i] w fun e w'=>e= .returned (.int .i64 ((spN L i:Nat):Int))/\Below w.heap.size w w':=by
 have HM:=hW_ hP.len;obtain⟨w0,hw0⟩:∃w0,w.alloc (.cells #[.slice po m pc, .slice co m cc, .slice no m nc, .int .i64 sn] 156)=w0:=⟨_,rfl⟩;have hb0:Below w.heap.size w w0:=hw0▸aA w _;have hx0:w0.heap[w.heap.size]?=some (.cells #[.slice po m pc, .slice co m cc, .slice no m nc, .int .i64 sn] 156):=by rw[<-hw0];exact heap_alloc_new w _
 have HSZ0:=hW_ (show w.heap.size<w0.heap.size by rw[<-hw0];simp);obtain⟨b0,b1,b2,b3⟩:=A0 hx0;have HP:=hW_ (hP.below hb0);have HB0:=hW_ hb0;have HX0:=hW_ hx0;have HW0:=hW_ hw0;clear hP hb0 hx0 hw0;go_enter Tryz.func136,Tryz.ntmps136;go_wp2_with (fail);rw[HW0.out];go_wp2_with (fail);go_loopw [5] (fun a wr=>∃k:Nat,a= .int .i64 k/\i+k<=m/\Hid (spN L i=k+spN L (i+k))/\wr=w0) (fun a _=>m-(intOf a).toNat)
 case atStart=>exact⟨0,rfl,by omega,hW_ (by simp),rfl⟩
 case round=>
  obtain⟨k,rfl,hk,HK,rfl⟩:=hrel;have hw1:IntKind.i64.wrap ((i:Int)+(k:Int))=((i+k:Nat):Int):=by rw[IntKind.wrap_i64];omega
  by_cases hlt:i+k<m
  ·obtain⟨b,of,hao,hc⟩:=SlI.at_ HP.out.c hlt;subst hao;have hy0:(L.map Pt.cls)[i+k]?=some (ix (L.map Pt.cls) (i+k)):=qF (by rw[List.length_map,HM.out];exact hlt)
   obtain⟨y,hy⟩:∃y,ix (L.map Pt.cls) (i+k)=y:=⟨_,rfl⟩;rw[hy]at hc hy0;have HI:=hW_ (spC_at hy0);have gk:decide (((i+k:Nat):Int)<(m:Int))=true:=by simp;omega
   clear hy hy0
   by_cases h3:y=3
   ·have g2:(y==3)=true:=by simpa using h3
    have HY:=hW_ h3;clear h3;have HR:=hW_ (aN (by rw[HI.out];simp[HY.out])).1;have hw2:IntKind.i64.wrap ((k:Int)+1)=((k+1:Nat):Int):=by rw[IntKind.wrap_i64];omega
    go_wp2_with (fail);go_roundw
    case rel=>exact⟨k+1,by go_num,by omega,hW_ (by have h1:=HK.out;have h2:=HR.out;rw[show i+(k+1)=i+k+1 by omega];omega),by first | rfl | trivial⟩
    case measure=>simp[intOf];omega
   ·have g2:(y==3)=false:=by simpa using h3
    have HY:=hW_ h3;clear h3
    by_cases h4:y=4
    ·have g4:(y==4)=true:=by simpa using h4
     have HZ:=hW_ h4;clear h4;have HR:=hW_ (aN (by rw[HI.out];simp[HZ.out])).1;have hw2:IntKind.i64.wrap ((k:Int)+1)=((k+1:Nat):Int):=by rw[IntKind.wrap_i64];omega
     go_wp2_with (fail);go_roundw
     case rel=>exact⟨k+1,by go_num,by omega,hW_ (by have h1:=HK.out;have h2:=HR.out;rw[show i+(k+1)=i+k+1 by omega];omega),by first | rfl | trivial⟩
     case measure=>simp[intOf];omega
    ·have g4:(y==4)=false:=by simpa using h4
     have HR:=hW_ (oZ (L:=L) (i:=i+k) (by rw[HI.out];simp[HY.out,h4]));clear h4;go_wp2_with (fail);go_ret;exact⟨by have h1:=HK.out;have h2:=HR.out;rw[h1,h2];rfl,HB0.out⟩
  ·have gk:decide (((i+k:Nat):Int)<(m:Int))=false:=by simp;omega
   have HR:=hW_ (spN_end (L:=L) (i:=i+k) (by rw[HM.out];omega));go_wp2_with (fail);go_ret;exact⟨by have h1:=HK.out;have h2:=HR.out;rw[h1,h2];rfl,HB0.out⟩
theorem vC (n:Nat) (w:World) (hn:n<=10000000):Calls Tryz.prog 137 #[.int .i64 n] w fun e w'=>e= .returned (gB (n,n+1))/\Below w.heap.size w w':=by
 have hw1:IntKind.i64.wrap ((n:Int)+1)=((n+1:Nat):Int):=by rw[IntKind.wrap_i64];omega
 go_enter Tryz.func137,Tryz.ntmps137;go_wp2_with (fail);refine bodyPost_ret (v:=gB (n,n+1)) ?_ rfl ⟨rfl,by first | exact aA w _ | exact xA (aA w _) (Nat.le_refl _) _ _⟩
 simp[results,Tryz.results137,go_sem,gB]
theorem ix_pt {L:List Pt} {i:Nat} (h:i<L.length):ix (L.map Pt.code) i=(ptC L i).code:=by
 simp[ix,List.getD,ptC,h]
theorem jQ {L:List Pt} {i:Nat} {c:Int}:(isC L i c=true↔0<A5 L i c):=by
 constructor
 ·intro h;have:=(eH h).1;omega
 ·intro h
  cases hc:isC L i c with
  | true=>rfl
  | false=>have:=hQ hc;omega
theorem H5 {L:List Pt} {po co no:Option Addr} {pc cc nc m:Nat} {sn:Int} (c:Int) (w:World) (hP:PsR w po co no pc cc nc m L) (h0:0<m) (hl:m<=1000000):
  Calls Tryz.prog 139 #[.agg #[.slice po m pc, .slice co m cc, .slice no m nc, .int .i64 sn], .int .i64 c] w fun e w'=>e= .returned (.int .i64 ((A7 L c:Nat):Int))/\Below w.heap.size w w':=by
 have HM:=hW_ hP.len;obtain⟨w0,hw0⟩:∃w0,w.alloc (.cells #[.slice po m pc, .slice co m cc, .slice no m nc, .int .i64 sn] 156)=w0:=⟨_,rfl⟩;have hb0:Below w.heap.size w w0:=hw0▸aA w _;have hx0:w0.heap[w.heap.size]?=some (.cells #[.slice po m pc, .slice co m cc, .slice no m nc, .int .i64 sn] 156):=by rw[<-hw0];exact heap_alloc_new w _
 have HSZ0:=hW_ (show w.heap.size<w0.heap.size by rw[<-hw0];simp);obtain⟨b0,b1,b2,b3⟩:=A0 hx0;have HP:=hW_ (hP.below hb0);have HB0:=hW_ hb0;have HX0:=hW_ hx0;have HW0:=hW_ hw0;have HR1:=hW_ (fun(w':World) (h:Below w0.heap.size w0 w')=>zE (sn:=sn) 1 c w' (HP.out.below h) (by omega) hl);have HR0:=hW_ (fun(w':World) (h:Below w0.heap.size w0 w')=>zE (sn:=sn) 0 c w' (HP.out.below h) (by omega) hl);obtain⟨b,of,hao,hc0⟩:=SlI.at_ HP.out.p h0;rw[ix_pt (by rw[HM.out];exact h0),Nat.add_zero]at hc0;subst hao;obtain⟨y,hy⟩:∃y,(ptC L 0).code=y:=⟨_,rfl⟩;rw[hy]at hc0;have hL:A7 L c=if y=32/\isC L 1 c=true then 1+A5 L 1 c else A5 L 0 c:=by unfold A7;rw[hy]
 simp only[jQ]at hL;have hle:=B0 L 1 c;rw[HM.out]at hle;obtain⟨r,hr⟩:∃r,A5 L 1 c=r:=⟨_,rfl⟩;rw[hr]at hL hle;rw[hr]at HR1;have hw1:IntKind.i64.wrap (1+(r:Int))=((1+r:Nat):Int):=by rw[IntKind.wrap_i64];omega
 have hc9:=hc0;rw[<-hw0]at hc9;clear hP hb0 hx0 hw0 hy hr
 by_cases y32:y=32
 ·have gy:(y==32)=true:=by simpa using y32
  by_cases hr0:0<r
  ·have gr:decide ((0:Int)<(r:Int))=true:=by simp;omega
   rw[if_pos ⟨y32,hr0⟩]at hL;have HL:=hW_ hL;clear hL y32;go_enter Tryz.func139,Tryz.ntmps139;go_wp2_with (fail);rw[HW0.out];go_wp2_with (fail);go_at_call 141;refine(HR1.out _ (Below.refl _ _)).mono ?_
   rintro e w1 ⟨rfl,hb1⟩;have HB1:=hW_ hb1;obtain⟨c0,c1,c2,c3⟩:=A0 ((hb1.block _ HSZ0.out).trans HX0.out);clear hb1 b0 b1 b2 b3 hc0 hc9;go_wp2_with (fail);go_at_call 141;refine(HR1.out _ HB1.out).mono ?_
   rintro e w2 ⟨rfl,hb2⟩;have HB2:=hW_ (HB1.out.trans (hb2.mono HB1.out.size));clear hb2;go_wp2_with (fail);go_ret;exact⟨by rw[HL.out];rfl,HB0.out.trans (HB2.out.mono HB0.out.size)⟩
  ·have gr:decide ((0:Int)<(r:Int))=false:=by simp;omega
   rw[if_neg (fun h=>hr0 h.2)]at hL;have HL:=hW_ hL;clear hL y32;go_enter Tryz.func139,Tryz.ntmps139;go_wp2_with (fail);rw[HW0.out];go_wp2_with (fail);go_at_call 141;refine(HR1.out _ (Below.refl _ _)).mono ?_
   rintro e w1 ⟨rfl,hb1⟩;have HB1:=hW_ hb1;obtain⟨c0,c1,c2,c3⟩:=A0 ((hb1.block _ HSZ0.out).trans HX0.out);clear hb1 b0 b1 b2 b3 hc0 hc9;go_wp2_with (fail);go_at_call 141;refine(HR0.out _ HB1.out).mono ?_
   rintro e w2 ⟨rfl,hb2⟩;have HB2:=hW_ (HB1.out.trans (hb2.mono HB1.out.size));clear hb2;go_wp2_with (fail);go_ret;exact⟨by rw[HL.out];rfl,HB0.out.trans (HB2.out.mono HB0.out.size)⟩
 ·have gy:(y==32)=false:=by simpa using y32
  rw[if_neg (fun h=>y32 h.1)]at hL;have HL:=hW_ hL;clear hL y32;go_enter Tryz.func139,Tryz.ntmps139;go_wp2_with (fail);rw[HW0.out];go_wp2_with (fail);go_at_call 141;refine(HR0.out _ (Below.refl _ _)).mono ?_
  rintro e w2 ⟨rfl,hb2⟩;have HB2:=hW_ hb2;clear hb2;go_wp2_with (fail);go_ret;exact⟨by rw[HL.out];rfl,HB0.out.trans (HB2.out.mono HB0.out.size)⟩
theorem yA {w:World} {g:Nat} {x y:Value} {t:TypeId} (h:w.heap[g]?=some (.cells #[x,y] t)):w.cell? ⟨g,0,none⟩=some x/\w.cell? ⟨g,1,none⟩=some y/\∀o,w.frozen? ⟨g,o,none⟩=false:=by
 simp[World.cell?,World.frozen?,h]
theorem yK {L:List Pt} {po co no:Option Addr} {pc cc nc m:Nat} {sn:Int} (w:World) (hP:PsR w po co no pc cc nc m L) (hl:m<=1000000):
  Calls Tryz.prog 140 #[.agg #[.slice po m pc, .slice co m cc, .slice no m nc, .int .i64 sn]] w fun e w'=>e= .returned (gB (mA L))/\Below w.heap.size w w':=by
 have HM:=hW_ hP.len;obtain⟨w0,hw0⟩:∃w0,(w.alloc (.cells #[.slice po m pc, .slice co m cc, .slice no m nc, .int .i64 sn] 156)).alloc (.cells #[.int .i64 0, .int .i64 0] 159)=w0:=⟨_,rfl⟩;have hb0:Below w.heap.size w w0:=hw0▸(aA w _).alloc (by simp) _;have hx0:w0.heap[w.heap.size]?=some (.cells #[.slice po m pc, .slice co m cc, .slice no m nc, .int .i64 sn] 156):=by rw[<-hw0];exact(Below.heap_alloc _ _ _ (by simp)).trans (heap_alloc_new w _)
 have hx1:w0.heap[w.heap.size+1]?=some (.cells #[.int .i64 0, .int .i64 0] 159):=by
  rw[<-hw0];have:=heap_alloc_new (w.alloc (.cells #[.slice po m pc, .slice co m cc, .slice no m nc, .int .i64 sn] 156)) (.cells #[.int .i64 0, .int .i64 0] 159);simpa using this
 have HSZ0:=hW_ (show w.heap.size<w0.heap.size by rw[<-hw0];simp;omega);have HSZ1:=hW_ (show w.heap.size+1<w0.heap.size by rw[<-hw0];simp);obtain⟨b0,b1,b2,b3⟩:=A0 hx0;obtain⟨a0,a1,af⟩:=yA hx1;have HP:=hW_ (hP.below hb0);have HB0:=hW_ hb0;have HX0:=hW_ hx0;have HX1:=hW_ hx1;have HW0:=hW_ hw0;have HS:=hW_ (fun(w':World) (h:Below w0.heap.size w0 w')=>bH (sn:=sn) 0 w' (HP.out.below h) (by omega) hl);have hle:=gG L 0;have hF:mA L=if spN L 0<m/\1<spN L 0 then(spN L 0-1,spN L 0+1)else(spN L 0,spN L 0+1):=by rw[<-HM.out];rfl
 rw[HM.out]at hle;obtain⟨r,hr⟩:∃r,spN L 0=r:=⟨_,rfl⟩;rw[hr]at hF hle HS;have hr6:r<=1000000:=by omega
 have HM12:=hW_ (fun(w':World)=>vC r w' (by omega));clear hP hb0 hx0 hx1 hw0 hr hle
 by_cases h1:r<m
 ·have g1:decide ((r:Int)<(m:Int))=true:=by simp;omega
  by_cases h2:1<r
  ·have g2:decide ((2:Int)<=(r:Int))=true:=by simp;omega
   have hw1:IntKind.i64.wrap ((r:Int)-1)=((r-1:Nat):Int):=by rw[IntKind.wrap_i64];omega
   have hw2:IntKind.i64.wrap ((r:Int)+1)=((r+1:Nat):Int):=by rw[IntKind.wrap_i64];omega
   rw[if_pos ⟨h1,h2⟩]at hF;have HF:=hW_ hF;clear hF;go_enter Tryz.func140,Tryz.ntmps140;go_wp2_with (fail);rw[HW0.out];go_wp2_with (fail);go_at_call 136;refine(HS.out _ (Below.refl _ _)).mono ?_
   rintro e w1 ⟨rfl,hb1⟩;have HB1:=hW_ (show Below w0.heap.size w0 w1 from hb1);clear hb1 b0 b1 b2 b3 a0 a1 af;obtain⟨b0,b1,b2,b3⟩:=A0 ((HB1.out.block _ HSZ0.out).trans HX0.out);obtain⟨a0,a1,af⟩:=yA ((HB1.out.block _ HSZ1.out).trans HX1.out);go_wp2_with (fail);refine bodyPost_ret (v:=gB (r-1,r+1)) ?_ rfl ⟨by rw[HF.out],xA (HB0.out.trans (HB1.out.mono HB0.out.size)) (by omega) _ _⟩
   simp[results,Tryz.results140,go_sem,gB,a0,a1]
  ·have g2:decide ((2:Int)<=(r:Int))=false:=by simp;omega
   rw[if_neg (fun h=>h2 h.2)]at hF;have HF:=hW_ hF;clear hF;go_enter Tryz.func140,Tryz.ntmps140;go_wp2_with (fail);rw[HW0.out];go_wp2_with (fail);go_at_call 136;refine(HS.out _ (Below.refl _ _)).mono ?_
   rintro e w1 ⟨rfl,hb1⟩;have HB1:=hW_ (show Below w0.heap.size w0 w1 from hb1);clear hb1 b0 b1 b2 b3 a0 a1 af;obtain⟨b0,b1,b2,b3⟩:=A0 ((HB1.out.block _ HSZ0.out).trans HX0.out);obtain⟨a0,a1,af⟩:=yA ((HB1.out.block _ HSZ1.out).trans HX1.out);go_wp2_with (fail);go_at_call 137;refine(HM12.out _).mono ?_
   rintro e w2 ⟨rfl,hb2⟩;unfold gB;have HB2:=hW_ (show Below w0.heap.size w0 w2 from HB1.out.trans (hb2.mono HB1.out.size));clear hb2 b0 b1 b2 b3 a0 a1 af;obtain⟨b0,b1,b2,b3⟩:=A0 ((HB2.out.block _ HSZ0.out).trans HX0.out);obtain⟨a0,a1,af⟩:=yA ((HB2.out.block _ HSZ1.out).trans HX1.out);go_wp2_with (fail);refine bodyPost_ret (v:=gB (r,r+1)) ?_ rfl ⟨by rw[HF.out],xA (HB0.out.trans (HB2.out.mono HB0.out.size)) (by omega) _ _⟩
   simp[results,Tryz.results140,go_sem,gB,a0,a1]
 ·have g1:decide ((r:Int)<(m:Int))=false:=by simp;omega
  rw[if_neg (fun h=>h1 h.1)]at hF;have HF:=hW_ hF;clear hF;go_enter Tryz.func140,Tryz.ntmps140;go_wp2_with (fail);rw[HW0.out];go_wp2_with (fail);go_at_call 136;refine(HS.out _ (Below.refl _ _)).mono ?_
  rintro e w1 ⟨rfl,hb1⟩;have HB1:=hW_ (show Below w0.heap.size w0 w1 from hb1);clear hb1 b0 b1 b2 b3 a0 a1 af;obtain⟨b0,b1,b2,b3⟩:=A0 ((HB1.out.block _ HSZ0.out).trans HX0.out);obtain⟨a0,a1,af⟩:=yA ((HB1.out.block _ HSZ1.out).trans HX1.out);go_wp2_with (fail);go_at_call 137;refine(HM12.out _).mono ?_
  rintro e w2 ⟨rfl,hb2⟩;unfold gB;have HB2:=hW_ (show Below w0.heap.size w0 w2 from HB1.out.trans (hb2.mono HB1.out.size));clear hb2 b0 b1 b2 b3 a0 a1 af;obtain⟨b0,b1,b2,b3⟩:=A0 ((HB2.out.block _ HSZ0.out).trans HX0.out);obtain⟨a0,a1,af⟩:=yA ((HB2.out.block _ HSZ1.out).trans HX1.out);go_wp2_with (fail);refine bodyPost_ret (v:=gB (r,r+1)) ?_ rfl ⟨by rw[HF.out],xA (HB0.out.trans (HB2.out.mono HB0.out.size)) (by omega) _ _⟩
  simp[results,Tryz.results140,go_sem,gB,a0,a1]
end Go.Proofs.YtimkkkdabmhedaaGreatDoor
