/- Walk: may merges be, by the program? (Printed by gMrg.py.) -/
import Derived.Test.YtahiballegpbgaaGreatDoorR1
import Derived.Deep.DeepCutAuto
set_option linter.unusedVariables false
set_option maxHeartbeats 4000000
set_option maxRecDepth 100000
namespace Go.Proofs.YtahiballegpbgaaGreatDoor
open Go.RowKit
theorem zH {w:World} {g:Nat} {x y:Value} {t:TypeId} (h:w.heap[g]?=some (.cells #[x,y] t)):w.cell? ⟨g,0,none⟩=some x/\w.cell? ⟨g,1,none⟩=some y:=by
 simp[World.cell?,h]
theorem sQ {T:List ByteArray} {M:List Mg} {ao mo:Option Addr} {n c mn mc:Nat} (w:World) (hT:SlS w ao n c T) (hM:SlF 4 w mo mn mc (flat Mg.enc M)) (hmay:sD T):
  Calls Tryz.prog 181 #[.slice ao n c, .slice mo mn mc] w (oV T M w):=by
 have hm:=Nat.le_trans (Sl.le hT) (Sl.max hT);have hmm:=Nat.le_trans hM.le hM.max;unfold maxLen at hm hmm;have hlen:=hW_ hT.count;have hlenM:=hW_ (hM.count Mg.enc_len (by omega));have hmk:=@run_makeMap Tryz.prog;have HT:=hW_ hT;have HM:=hW_ hM;have HMay:=hW_ hmay;have H0:=hW_ (A0.new M8 3 w);have HB0:=hW_ (aA w (.map #[] 0));clear hT hM hmay
 by_cases hl:(16384:Int)<mn
 ·have HF:=hW_ (L6 (T:=T) (M:=M) (by have:=hlenM.out;omega));go_enter Tryz.func181,Tryz.ntmps181;go_wp2_with (fail);go_ret;exact⟨⟨_,rfl,HF.out⟩,Below.refl _ _⟩
 ·go_enter Tryz.func181,Tryz.ntmps181;go_wp2_with (fail);go_loopw [6,7,8,15] (fun _ _ _ i wr=>∃(k sz:Nat) (f:Int×Int->Option Int),k<=mn/\i= .int .i64 k/\sz<=k/\A0 M8 3 wr w.heap.size sz f/\Hid (zJ M k f)/\Hid (fM T M k)/\Below w.heap.size w wr) (fun _ _ _ i _=>mn-(intOf i).toNat)
  case atStart=>exact⟨0,0,_,Nat.zero_le _,rfl,Nat.le_refl _,H0.out,hW_ (zJ.zero M),hW_ (fM.zero T M),HB0.out⟩
  case round=>
   obtain⟨k,sz,f,hk,rfl,hszk,hmap,HS,HG,hb⟩:=hrel;have HMp:=hW_ hmap;have HB:=hW_ hb;clear hmap hb
   by_cases hlt:k<mn
   ·have hkM:k<M.length:=by have:=hlenM.out;omega
    obtain⟨b,of,rfl,hce⟩:=(HM.out.below HB.out).elem Mg.enc_len (by omega) (F2 hkM);obtain⟨⟨l,r,o,d⟩,hmeq⟩:∃m,mg M k=m:=⟨_,rfl⟩;rw[hmeq]at hce;have d0:=hce 0 _ rfl;have d1:=hce 1 _ rfl;have d2:=hce 2 _ rfl;have d3:=hce 3 _ rfl;rw[Nat.add_zero]at d0;simp only at d0 d1 d2 d3;have HMK:=hW_ hmeq;have hwb:=aA wr (.cells #[.int .i64 l, .int .i64 r, .int .i64 o, .int .i64 d] 170);have HB1:=hW_ (HB.out.trans (hwb.mono HB.out.size));have HT1:=hW_ (Sl.below HT.out HB1.out);clear hce hmeq hwb
    cases hl1:wD T l with
    | false=>
     have HF:=hW_ (tB (T:=T) hkM (fun h=>by rw[HMK.out]at h;have:=h.1;rw[hl1]at this;cases this));go_wp2_with (fail);go_quiet ((first | (go_at_call_of 193 (Value.int .i64 l);exact Calls.quiet_of_same (kI l HT1.out _)) | (go_at_call_of 193 (Value.int .i64 r);exact Calls.quiet_of_same (kI r HT1.out _)) | (go_at_call 193;exact Calls.quiet_of_same (kI o HT1.out _))));go_wp2_with (fail);go_ret;exact⟨⟨_,rfl,HF.out⟩,bA HB1.out _⟩
    | true=>
     cases hr1:wD T r with
     | false=>
      have HF:=hW_ (tB (T:=T) hkM (fun h=>by rw[HMK.out]at h;have:=h.2.1;rw[hr1]at this;cases this));go_wp2_with (fail);go_quiet ((first | (go_at_call_of 193 (Value.int .i64 l);exact Calls.quiet_of_same (kI l HT1.out _)) | (go_at_call_of 193 (Value.int .i64 r);exact Calls.quiet_of_same (kI r HT1.out _)) | (go_at_call 193;exact Calls.quiet_of_same (kI o HT1.out _))));go_wp2_with (fail);go_ret;exact⟨⟨_,rfl,HF.out⟩,bA HB1.out _⟩
     | true=>
      cases ho1:wD T o with
      | false=>
       have HF:=hW_ (tB (T:=T) hkM (fun h=>by rw[HMK.out]at h;have:=h.2.2.1;rw[ho1]at this;cases this));go_wp2_with (fail);go_quiet ((first | (go_at_call_of 193 (Value.int .i64 l);exact Calls.quiet_of_same (kI l HT1.out _)) | (go_at_call_of 193 (Value.int .i64 r);exact Calls.quiet_of_same (kI r HT1.out _)) | (go_at_call 193;exact Calls.quiet_of_same (kI o HT1.out _))));go_wp2_with (fail);go_ret;exact⟨⟨_,rfl,HF.out⟩,bA HB1.out _⟩
      | true=>
       have hil:=vB.1 hl1;have hir:=vB.1 hr1;have hio:=vB.1 ho1;obtain⟨ln,rfl⟩:=Int.eq_ofNat_of_zero_le hil.1;obtain⟨rn,rfl⟩:=Int.eq_ofNat_of_zero_le hir.1;obtain⟨on,rfl⟩:=Int.eq_ofNat_of_zero_le hio.1;have il:ln<T.length:=by omega
       have ir:rn<T.length:=by omega
       have io:on<T.length:=by omega
       obtain⟨bt,ot,hao,cl⟩:=SlS.cell HT1.out (sB il);obtain⟨bt2,ot2,hao2,cr⟩:=SlS.cell HT1.out (sB ir);obtain⟨bt3,ot3,hao3,co⟩:=SlS.cell HT1.out (sB io);rw[hao]at hao2 hao3;simp at hao2 hao3;obtain⟨rfl,rfl⟩:=hao2;obtain⟨rfl,rfl⟩:=hao3;subst hao;have s1:=HMay.out.2.1 _ (qB il);have s2:=HMay.out.2.1 _ (qB ir);have s3:=HMay.out.2.1 _ (qB io);have gl:(ln:Int)<n:=by have:=hlen.out;omega
       have gr:(rn:Int)<n:=by have:=hlen.out;omega
       have go:(on:Int)<n:=by have:=hlen.out;omega
       clear hil hir hio
       by_cases hcat:tk T on=tk T ln++tk T rn
       ·have hq1:=aAb hcat;have hq2:=gH hcat;have HC:=hW_ hcat;clear hcat
        by_cases hd0:d<0
        ·have hdd:decide (d<0)=true:=by simpa using hd0
         have HF:=hW_ (tB (T:=T) hkM (fun h=>by rw[HMK.out]at h;have:=h.2.2.2.2.1;simp only at this;omega));go_wp2_with (fail);go_quiet ((first | (go_at_call_of 193 (Value.int .i64 (ln:Int));exact Calls.quiet_of_same (kI (ln:Int) HT1.out _)) | (go_at_call_of 193 (Value.int .i64 (rn:Int));exact Calls.quiet_of_same (kI (rn:Int) HT1.out _)) | (go_at_call 193;exact Calls.quiet_of_same (kI (on:Int) HT1.out _))));go_wp2_with (fail);go_ret;exact⟨⟨_,rfl,HF.out⟩,bA HB1.out _⟩
        have hdd0:decide (d<0)=false:=by simpa using hd0
        by_cases hd1:1048576<d
        ·have hdd:decide (1048576<d)=true:=by simpa using hd1
         have HF:=hW_ (tB (T:=T) hkM (fun h=>by rw[HMK.out]at h;have:=h.2.2.2.2.2;simp only at this;omega));go_wp2_with (fail);go_quiet ((first | (go_at_call_of 193 (Value.int .i64 (ln:Int));exact Calls.quiet_of_same (kI (ln:Int) HT1.out _)) | (go_at_call_of 193 (Value.int .i64 (rn:Int));exact Calls.quiet_of_same (kI (rn:Int) HT1.out _)) | (go_at_call 193;exact Calls.quiet_of_same (kI (on:Int) HT1.out _))));go_wp2_with (fail);go_ret;exact⟨⟨_,rfl,HF.out⟩,bA HB1.out _⟩
        have hdd1:decide (1048576<d)=false:=by simpa using hd1
        have HOK:Hid (gX T (mg M k)):=hW_ (by rw[HMK.out];exact⟨hl1,hr1,ho1,HC.out,by simp only;omega,by simp only;omega⟩);have hbx:=heap_alloc_new wr (.cells #[.int .i64 (ln:Int), .int .i64 (rn:Int), .int .i64 (on:Int), .int .i64 d] 170);obtain⟨b0,b1,b2,b3⟩:=fH hbx;have HM1:=hW_ (HMp.out.alloc (.cells #[.int .i64 (ln:Int), .int .i64 (rn:Int), .int .i64 (on:Int), .int .i64 d] 170));clear hbx;go_wp2_with (fail);go_quiet ((first | (go_at_call_of 193 (Value.int .i64 (ln:Int));exact Calls.quiet_of_same (kI (ln:Int) HT1.out _)) | (go_at_call_of 193 (Value.int .i64 (rn:Int));exact Calls.quiet_of_same (kI (rn:Int) HT1.out _)) | (go_at_call 193;exact Calls.quiet_of_same (kI (on:Int) HT1.out _))));go_wp2_with (fail);clear hq1 hq2 cl cr co;obtain⟨w1,hw1⟩:∃w1,(wr.alloc (.cells #[.int .i64 (ln:Int), .int .i64 (rn:Int), .int .i64 (on:Int), .int .i64 d] 170)).drewN nq=w1:=⟨_,rfl⟩;have hs1:w1.heap.size=wr.heap.size+1:=by rw[<-hw1];simp
        have hb01:Below wr.heap.size wr w1:=hw1▸bA (aA wr _) nq;have HS1:=hW_ hs1;have HB1':=hW_ (HB.out.trans (hb01.mono HB.out.size));have HM1':Hid (A0 M8 3 w1 w.heap.size sz f):=hW_ (hw1▸HM1.out.drewN nq);have hbx':w1.heap[wr.heap.size]?=some (.cells #[.int .i64 (ln:Int), .int .i64 (rn:Int), .int .i64 (on:Int), .int .i64 d] 170):=by rw[<-hw1];exact heap_alloc_new wr _
        clear b0 b1 b2 b3;obtain⟨b0,b1,b2,b3⟩:=fH hbx';have HBX:=hW_ hbx';rw[hw1];clear hw1 hs1 hbx' HB1 HM1 HT1 d0 d1 d2 d3
        by_cases hrise:k=0\/rL (mg M (k-1)) (mg M k)
        ·have HRISE:=hW_ hrise;clear hrise;go_cut [101] (fun s wx=>s= .bool false/\Below w1.heap.size w1 wx)
         case first=>
          by_cases hk0:k=0
          ·have hg0:decide ((0:Int)<(k:Int))=false:=by simp;omega
           go_quiet (fail);go_wp2_with (fail);go_meet;exact⟨rfl,bA (Below.refl _ _) _⟩
          ·have hR:rL (mg M (k-1)) (mg M k):=HRISE.out.resolve_left hk0;obtain⟨⟨pl,pr,po,pd⟩,hpeq⟩:∃m,mg M (k-1)=m:=⟨_,rfl⟩;obtain⟨bp,op,hao,hcp⟩:=((HM.out.below HB.out).below hb01).elem Mg.enc_len (by omega) (F2 (M:=M) (i:=k-1) (by omega));simp at hao;obtain⟨rfl,rfl⟩:=hao;rw[hpeq]at hcp;have p0:=hcp 0 _ rfl;have p1:=hcp 1 _ rfl;have p2:=hcp 2 _ rfl;have p3:=hcp 3 _ rfl;rw[Nat.add_zero]at p0;simp only at p0 p1 p2 p3;have HPEQ:=hW_ hpeq;have hg0:decide ((0:Int)<(k:Int))=true:=by simp;omega
           have hg1:0<k:=by omega
           have hg2:decide (0<k)=true:=by simpa using hg1
           have e1:IntKind.i64.wrap ((k:Int)-1)=(k:Int)-1:=by rw[IntKind.wrap_i64];omega
           have e2:(0:Int)<=(k:Int)-1:=by omega
           have e4:(k:Int)-1<(mn:Int):=by omega
           have e3:(1:Int)<=(k:Int):=by omega
           have hkm:((k:Int)-1).toNat=k-1:=by omega
           clear hcp hpeq;rw[HPEQ.out,HMK.out]at hR;have hcl:yZ ⟨pl,pr,po,pd⟩ ⟨(ln:Int),(rn:Int),(on:Int),d⟩<0:=yW.2 hR.1;have hcl2:decide (0<=yZ ⟨pl,pr,po,pd⟩ ⟨(ln:Int),(rn:Int),(on:Int),d⟩)=false:=by simp;omega
           by_cases hod:pd=d
           ·have ho:=hR.2 hod;simp only at ho;have q1:(pd==d)=true:=by simpa using hod
            have q2:(po != (on:Int))=false:=by simpa using ho
            clear hod ho hR;have hmix:=oD;have hlt1:b<w1.heap.size:=World.block_lt_of_cell? w1 _ p0;have hlt2:wr.heap.size<w1.heap.size:=World.block_lt_of_cell? w1 _ b0;have r0:=cell_grown (w:=w1) hlt1 p0;have r1:=cell_grown (w:=w1) hlt1 p1;have r2:=cell_grown (w:=w1) hlt1 p2;have r3:=cell_grown (w:=w1) hlt1 p3;have t0:=cell_grown (w:=w1) hlt2 b0;have t1:=cell_grown (w:=w1) hlt2 b1;have t2:=cell_grown (w:=w1) hlt2 b2;have t3:=cell_grown (w:=w1) hlt2 b3;have l1:=fun n os=>ld4 (P:=Tryz.prog) (r0 n os) (r1 n os) (r2 n os) (r3 n os)
            have l2:=fun n os=>ld4 (P:=Tryz.prog) (t0 n os) (t1 n os) (t2 n os) (t3 n os)
            refine wp_region_quiet_grown (by assumption) (by kernel_rfl) ?_
            repeat (any_goals (first | go_big_quiet_step ((go_at_call 212;exact Calls.grown_of (tH ⟨pl,pr,po,pd⟩ ⟨(ln:Int),(rn:Int),(on:Int),d⟩ _))) | quiet_step ((go_at_call 212;exact Calls.grown_of (tH ⟨pl,pr,po,pd⟩ ⟨(ln:Int),(rn:Int),(on:Int),d⟩ _)))))
            refine wpQuiet_nil ?_
            intro _ hw';obtain⟨⟨nq2,osq2⟩,hw''⟩:=hw';subst hw'';go_wp2_with (fail);go_meet;exact⟨rfl,oE _ _ _⟩
           ·have q1:(pd==d)=false:=by simpa using hod
            have hmix:=oD;clear hod hR;have hlt1:b<w1.heap.size:=World.block_lt_of_cell? w1 _ p0;have hlt2:wr.heap.size<w1.heap.size:=World.block_lt_of_cell? w1 _ b0;have r0:=cell_grown (w:=w1) hlt1 p0;have r1:=cell_grown (w:=w1) hlt1 p1;have r2:=cell_grown (w:=w1) hlt1 p2;have r3:=cell_grown (w:=w1) hlt1 p3;have t0:=cell_grown (w:=w1) hlt2 b0;have t1:=cell_grown (w:=w1) hlt2 b1;have t2:=cell_grown (w:=w1) hlt2 b2;have t3:=cell_grown (w:=w1) hlt2 b3;have l1:=fun n os=>ld4 (P:=Tryz.prog) (r0 n os) (r1 n os) (r2 n os) (r3 n os)
            have l2:=fun n os=>ld4 (P:=Tryz.prog) (t0 n os) (t1 n os) (t2 n os) (t3 n os)
            refine wp_region_quiet_grown (by assumption) (by kernel_rfl) ?_
            repeat (any_goals (first | go_big_quiet_step ((go_at_call 212;exact Calls.grown_of (tH ⟨pl,pr,po,pd⟩ ⟨(ln:Int),(rn:Int),(on:Int),d⟩ _))) | quiet_step ((go_at_call 212;exact Calls.grown_of (tH ⟨pl,pr,po,pd⟩ ⟨(ln:Int),(rn:Int),(on:Int),d⟩ _)))))
            refine wpQuiet_nil ?_
            intro _ hw';obtain⟨⟨nq2,osq2⟩,hw''⟩:=hw';subst hw'';go_wp2_with (fail);go_meet;exact⟨rfl,oE _ _ _⟩
         case rest=>
          obtain⟨rfl,hbx⟩:=hcut;have HBXc:=(hbx.block wr.heap.size (by have:=HS1.out;omega)).trans HBX.out;clear b0 b1 b2 b3;obtain⟨b0,b1,b2,b3⟩:=fH HBXc;have HBc:=hW_ (HB1'.out.trans (hbx.mono HB1'.out.size));have HMc:=hW_ (HM1'.out.below hbx);have hwl:(Lit.int .i64 (ln:Int)).wf=true/\(Lit.int .i64 (rn:Int)).wf=true:=by
           have:=HMay.out.1;exact⟨by rw[gC];omega,by rw[gC];omega⟩
          have HWF:=hW_ hwl;have hb2:=aA wc (.cells #[.int .i64 (ln:Int), .int .i64 (rn:Int)] 280);have HM2:=hW_ (HMc.out.below hb2);have HB2:=hW_ (HBc.out.trans (hb2.mono HBc.out.size));have hlk:(Instr.lookup 277 (.map (some w.heap.size)) (.agg #[.int .i64 (ln:Int), .int .i64 (rn:Int)]) false).run Tryz.prog (wc.alloc (.cells #[.int .i64 (ln:Int), .int .i64 (rn:Int)] 280))= .ok (.int .i64 ((f ((ln:Int),(rn:Int))).getD 0)) (wc.alloc (.cells #[.int .i64 (ln:Int), .int .i64 (rn:Int)] 280)):=
           A0.get (V:=M8) (s:=((ln:Int),(rn:Int))) Tryz.underlying277 Tryz.underlying3 zE HM2.out HWF.out
          clear HBXc hbx hwl hb2
          cases hf:f ((ln:Int),(rn:Int))with
          | some cc=>
           obtain⟨hcc,i,hi,hnp⟩:=HS.out.yes (c:=cc) (by rw[HMK.out];exact hf);subst hcc;have HF:=hW_ (lK (T:=T) hi hkM hnp);rw[hf]at hlk;clear hnp hf;go_wp2_with (fail);go_ret;exact⟨⟨_,rfl,HF.out⟩,HB2.out⟩
          | none=>
           have hno:=HS.out.no (by rw[HMK.out];exact hf);obtain⟨o0,o1,v,stamp,o2,hb0,hE⟩:=A0.entry (V:=M8) (s:=((ln:Int),(rn:Int))) Tryz.underlying277 Tryz.underlying3 zE HM2.out HWF.out (by unfold maxLen;omega);have HNO:=hW_ hno;have HE:=hW_ hE;have HB0':=hW_ hb0;have hx2:=heap_alloc_new wc (.cells #[.int .i64 (ln:Int), .int .i64 (rn:Int)] 280);rw[hf]at hlk;have HFN:=hW_ hf;clear hno hE hb0 hf;go_wp2_with (fail);clear hlk;obtain⟨w2,hw2⟩:∃w2,wc.alloc (.cells #[.int .i64 (ln:Int), .int .i64 (rn:Int)] 280)=w2:=⟨_,rfl⟩;rw[hw2]at hx2 HB0' HB2 |-;obtain⟨x0,x1⟩:=zH hx2;have hb0:=HB0'.out;have q0:∀W:World,W.heap[w.heap.size]?=some o0->(Instr.lookup 277 (.map (some w.heap.size)) (.agg #[.int .i64 (ln:Int), .int .i64 (rn:Int)]) false).run Tryz.prog W= .ok (.int .i64 0) W:=fun W hW=>by have:=HE.out.look0 W hW;rw[HFN.out]at this;exact this
           have q1:∀W:World,W.heap[w.heap.size]?=some o0->(Instr.mapEntry 277 (.map (some w.heap.size)) (.agg #[.int .i64 (ln:Int), .int .i64 (rn:Int)])).run Tryz.prog W= .ok (.tuple #[v,stamp]) (ChangeMaps.setBlock W w.heap.size o1):=HE.out.entry
           have q2:∀W:World,W.heap[w.heap.size]?=some o0->(ChangeMaps.setBlock W w.heap.size o1).heap[w.heap.size]?=some o1:=HE.out.at1
           have q3:∀W:World,W.heap[w.heap.size]?=some o1->(Instr.lookup 277 (.map (some w.heap.size)) (.agg #[.int .i64 (ln:Int), .int .i64 (rn:Int)]) false).run Tryz.prog W= .ok (.int .i64 0) W:=fun W hW=>by have:=HE.out.look1 W hW;rw[HFN.out]at this;exact this
           have q4:∀(W:World) (c:Int),W.heap[w.heap.size]?=some o1->(Instr.entryStore 277 (.map (some w.heap.size)) stamp (.int .i64 c)).run Tryz.prog W= .ok () (ChangeMaps.setBlock W w.heap.size (o2 c)):=HE.out.store
           have i0:=q0 w2.drew hb0;have i1:=q1 w2.drew hb0;have hat:=q2 w2.drew hb0;have hbk:Below w.heap.size w (ChangeMaps.setBlock w2.drew w.heap.size o1):=yK HB2.out.drew (Nat.le_refl _);obtain⟨W1,hW1⟩:∃W1,ChangeMaps.setBlock w2.drew w.heap.size o1=W1:=⟨_,rfl⟩;rw[hW1]at i1 hat hbk;have i3:=q3 W1 hat;have i4:=q4 W1 1 hat;have hbk2:Below w.heap.size w (ChangeMaps.setBlock W1 w.heap.size (o2 1)):=yK hbk (Nat.le_refl _);have hat2:(ChangeMaps.setBlock W1 w.heap.size (o2 1)).heap[w.heap.size]?=some (o2 1):=by
            have hlt:=(Array.getElem?_eq_some_iff.1 hat).1;simp[ChangeMaps.setBlock,hlt]
           obtain⟨W2,hW2⟩:∃W2,ChangeMaps.setBlock W1 w.heap.size (o2 1)=W2:=⟨_,rfl⟩;rw[hW2]at i4 hbk2 hat2;obtain⟨sz',g,hsz',hMg,hg1,hg2⟩:=HE.out.fin W2 1 (by decide) hat2;have HMg:=hW_ hMg;have HSn:Hid (zJ M (k+1) g):=hW_ (HS.out.next (by rw[HMK.out];exact hg1) (fun t ht=>hg2 t (by rw[HMK.out]at ht;exact ht)));have HGn:Hid (fM T M (k+1)):=hW_ (HG.out.next HOK.out (fun h0=>HRISE.out.resolve_left (by omega)) HNO.out);have HBk:=hW_ hbk2;clear hw2 hx2 q0 q1 q2 q3 q4 hat hbk hW1 hat2 hbk2 hW2 hMg hg1 hg2;go_region
           all_goals(go_wp2_with (fail))
           all_goals go_roundw
           case rel=>exact⟨k+1,sz',g,by omega,by go_num,by omega,HMg.out,HSn,HGn,HBk.out⟩
           case measure=>simp[intOf];omega
        ·have hk0:¬k=0:=fun h=>hrise (.inl h)
         have hR:¬rL (mg M (k-1)) (mg M k):=fun h=>hrise (.inr h)
         have HF:=hW_ (yF (T:=T) (i:=k-1) (by omega) hkM hR);clear hrise;obtain⟨⟨pl,pr,po,pd⟩,hpeq⟩:∃m,mg M (k-1)=m:=⟨_,rfl⟩;obtain⟨bp,op,hao,hcp⟩:=((HM.out.below HB.out).below hb01).elem Mg.enc_len (by omega) (F2 (M:=M) (i:=k-1) (by omega));simp at hao;obtain⟨rfl,rfl⟩:=hao;rw[hpeq]at hcp;have p0:=hcp 0 _ rfl;have p1:=hcp 1 _ rfl;have p2:=hcp 2 _ rfl;have p3:=hcp 3 _ rfl;rw[Nat.add_zero]at p0;simp only at p0 p1 p2 p3;have HPEQ:=hW_ hpeq;have hg0:decide ((0:Int)<(k:Int))=true:=by simp;omega
         have hg1:0<k:=by omega
         have hg2:decide (0<k)=true:=by simpa using hg1
         have e1:IntKind.i64.wrap ((k:Int)-1)=(k:Int)-1:=by rw[IntKind.wrap_i64];omega
         have e2:(0:Int)<=(k:Int)-1:=by omega
         have e4:(k:Int)-1<(mn:Int):=by omega
         have e3:(1:Int)<=(k:Int):=by omega
         have hkm:((k:Int)-1).toNat=k-1:=by omega
         clear hcp hpeq;rw[HPEQ.out,HMK.out]at hR
         by_cases hal:iB ⟨pl,pr,po,pd⟩ ⟨(ln:Int),(rn:Int),(on:Int),d⟩=true
         ·have hcl:=yW.2 hal;have hcl2:decide (0<=yZ ⟨pl,pr,po,pd⟩ ⟨(ln:Int),(rn:Int),(on:Int),d⟩)=false:=by simp;omega
          have hodo:pd=d/\po≠(on:Int):=Classical.byContradiction fun h=>hR ⟨hal,fun e=>Classical.byContradiction fun h2=>h ⟨e,h2⟩⟩
          have q1:(pd==d)=true:=by simpa using hodo.1
          have q2:(po != (on:Int))=true:=by simpa using hodo.2
          clear hal hodo hR;have hmix:=oD;have hlt1:b<w1.heap.size:=World.block_lt_of_cell? w1 _ p0;have hlt2:wr.heap.size<w1.heap.size:=World.block_lt_of_cell? w1 _ b0;have r0:=cell_grown (w:=w1) hlt1 p0;have r1:=cell_grown (w:=w1) hlt1 p1;have r2:=cell_grown (w:=w1) hlt1 p2;have r3:=cell_grown (w:=w1) hlt1 p3;have t0:=cell_grown (w:=w1) hlt2 b0;have t1:=cell_grown (w:=w1) hlt2 b1;have t2:=cell_grown (w:=w1) hlt2 b2;have t3:=cell_grown (w:=w1) hlt2 b3;have l1:=fun n os=>ld4 (P:=Tryz.prog) (r0 n os) (r1 n os) (r2 n os) (r3 n os)
          have l2:=fun n os=>ld4 (P:=Tryz.prog) (t0 n os) (t1 n os) (t2 n os) (t3 n os)
          refine wp_region_quiet_grown (by assumption) (by kernel_rfl) ?_
          repeat (any_goals (first | go_big_quiet_step ((go_at_call 212;exact Calls.grown_of (tH ⟨pl,pr,po,pd⟩ ⟨(ln:Int),(rn:Int),(on:Int),d⟩ _))) | quiet_step ((go_at_call 212;exact Calls.grown_of (tH ⟨pl,pr,po,pd⟩ ⟨(ln:Int),(rn:Int),(on:Int),d⟩ _)))))
          refine wpQuiet_nil ?_
          intro _ hw';obtain⟨⟨nq2,osq2⟩,hw''⟩:=hw';subst hw'';go_wp2_with (fail);go_ret;exact⟨⟨_,rfl,HF.out⟩,HB1'.out.trans ((oE _ _ _).mono HB1'.out.size)⟩
         ·have hcl:¬yZ ⟨pl,pr,po,pd⟩ ⟨(ln:Int),(rn:Int),(on:Int),d⟩<0:=fun h=>hal (yW.1 h)
          have hcl2:decide (0<=yZ ⟨pl,pr,po,pd⟩ ⟨(ln:Int),(rn:Int),(on:Int),d⟩)=true:=by simp;omega
          clear hal hR;have hmix:=oD;have hlt1:b<w1.heap.size:=World.block_lt_of_cell? w1 _ p0;have hlt2:wr.heap.size<w1.heap.size:=World.block_lt_of_cell? w1 _ b0;have r0:=cell_grown (w:=w1) hlt1 p0;have r1:=cell_grown (w:=w1) hlt1 p1;have r2:=cell_grown (w:=w1) hlt1 p2;have r3:=cell_grown (w:=w1) hlt1 p3;have t0:=cell_grown (w:=w1) hlt2 b0;have t1:=cell_grown (w:=w1) hlt2 b1;have t2:=cell_grown (w:=w1) hlt2 b2;have t3:=cell_grown (w:=w1) hlt2 b3;have l1:=fun n os=>ld4 (P:=Tryz.prog) (r0 n os) (r1 n os) (r2 n os) (r3 n os)
          have l2:=fun n os=>ld4 (P:=Tryz.prog) (t0 n os) (t1 n os) (t2 n os) (t3 n os)
          refine wp_region_quiet_grown (by assumption) (by kernel_rfl) ?_
          repeat (any_goals (first | go_big_quiet_step ((go_at_call 212;exact Calls.grown_of (tH ⟨pl,pr,po,pd⟩ ⟨(ln:Int),(rn:Int),(on:Int),d⟩ _))) | quiet_step ((go_at_call 212;exact Calls.grown_of (tH ⟨pl,pr,po,pd⟩ ⟨(ln:Int),(rn:Int),(on:Int),d⟩ _)))))
          refine wpQuiet_nil ?_
          intro _ hw';obtain⟨⟨nq2,osq2⟩,hw''⟩:=hw';subst hw'';go_wp2_with (fail);go_ret;exact⟨⟨_,rfl,HF.out⟩,HB1'.out.trans ((oE _ _ _).mono HB1'.out.size)⟩
       ·have hq1:=aCE hcat;have hq2:=oJ hcat;have HF:=hW_ (tB (T:=T) hkM (fun h=>by rw[HMK.out]at h;exact hcat h.2.2.2.1));clear hcat;go_wp2_with (fail);go_quiet ((first | (go_at_call_of 193 (Value.int .i64 (ln:Int));exact Calls.quiet_of_same (kI (ln:Int) HT1.out _)) | (go_at_call_of 193 (Value.int .i64 (rn:Int));exact Calls.quiet_of_same (kI (rn:Int) HT1.out _)) | (go_at_call 193;exact Calls.quiet_of_same (kI (on:Int) HT1.out _))));go_wp2_with (fail);go_ret;exact⟨⟨_,rfl,HF.out⟩,bA HB1.out _⟩
   ·have HF:=hW_ (HG.out.all hlenM.out hk hlt (by omega));go_wp2_with (fail);go_ret;exact⟨⟨_,rfl,(fun _=>HF.out),(fun _=>rfl)⟩,HB.out⟩
end Go.Proofs.YtahiballegpbgaaGreatDoor
