/- Walks: the functions of package edit, and their references. -/
import Derived.Test.YtahiballegpbgaaGreatDoorR33
set_option linter.unusedVariables false
set_option maxHeartbeats 400000
set_option maxRecDepth 100000
namespace Go.Proofs.YtahiballegpbgaaGreatDoor
open Go.RowKit
theorem bcell {W w1:World} (hb:Below W.heap.size W w1):(∀b o,b<W.heap.size->w1.cell? ⟨b,o,none⟩=W.cell? ⟨b,o,none⟩)/\(∀b o,b<W.heap.size->w1.frozen? ⟨b,o,none⟩=W.frozen? ⟨b,o,none⟩):=
 ⟨fun b o h=>hb.cell (p:=⟨b,o,none⟩) h,fun b o h=>hb.frozen (p:=⟨b,o,none⟩) h⟩
abbrev edV (r:Int) (v:Value):Value:= .agg #[.int .i64 r,v]
theorem aDX {A B:List Int} {ao bo:Option Addr} {n m c d:Nat} (w:World) (hA:SlI w ao n c A) (hB:SlI w bo m d B) (hreach:m*8<=140737488355328):
  Calls Tryz.prog 119 #[.slice ao n c, .slice bo m d] w fun e w'=>∃vo vc,e= .returned (edV (n-wA A B:Nat) (.slice vo (m-wA A B) vc))/\Own w' w.heap.size (.slice vo (m-wA A B) vc) (B.drop (wA A B))/\Below w.heap.size w w':=by
 have hmA:=Nat.le_trans hA.le hA.max;have hmB:=Nat.le_trans hB.le hB.max;have hmd:=hB.max;have hld:=hB.le;have hcA:=(mG A B).1;have hcB:=(mG A B).2;rw[hA.len]at hcA;rw[hB.len]at hcB;unfold maxLen at hmA hmB hmd;have hal:=hA.alloc (.cells #[.int .i64 0, .slice none 0 0] 44);have hbl:=hB.alloc (.cells #[.int .i64 0, .slice none 0 0] 44);have hk:=xW (w.alloc (.cells #[.int .i64 0, .slice none 0 0] 44)) hal hbl;obtain⟨i0,hi,hz0,hz1,hz2⟩:=info_parts Q3;go_enter Tryz.func119,Tryz.ntmps119;go_wp2_with (first
  | (go_at_call 154;refine hk.mono ?_;rintro e w' ⟨k,rfl,rfl⟩)
  | (with_reducible show wpList _ _ _ (⟨_, .slice _ _ (some _) none none,_,_,_,_⟩::_) _ _;refine Q9 rfl 34 (.tmp 13) (.tmp 14) rfl 3 i0 Tryz.underlying34 hi hz1 rfl (SlI.drewN hbl _) rfl rfl hcB ?_;intro bo' hb')
  | (go_at_call 54;refine(uE _ hb' (by omega)).mono ?_;rintro e w' ⟨vo,vc,rfl,ho,hb⟩;obtain⟨hcl,hfr⟩:=bcell hb))
 refine bodyPost_ret (v:=edV (n-wA A B:Nat) (.slice vo (m-wA A B) vc)) ?_ rfl ⟨vo,vc,rfl,?_,?_⟩
 ·simp[results,Tryz.results119,go_sem,hcl];omega
 ·exact Own.mono (ownsRow_setCell_below (ownsRow_setCell_below ho (by simp) _) (by simp) _) (by simp)
 ·exact(((bA (aA w _) k).trans (hb.mono (by simp))).setCell (Nat.le_refl _) _).setCell (Nat.le_refl _) _
def aEv (P:Program) (md:Region.Mode) (ops:Array Oper) (Q:Exit->Act->World->Prop) (F:World->Prop) (e:Nat):Nat->Array Bool->Act->World->Prop
 | 0,listed,a,w=>Region.ready md ops listed= []/\Q .normal a w
 | fuel+1,listed,a,w=>(Region.ready md ops listed= []->Q .normal a w)/\
  ∀i∈Region.ready md ops listed,wpOp P ops Q i (fun a' w'=>(i≠e->F w')/\aEv P md ops Q F e fuel (listed.setIfInBounds i true) a' w') a w
section
variable {P:Program} {md:Region.Mode} {ops:Array Oper} {Q:Exit->Act->World->Prop} {F:World->Prop} {e:Nat}
theorem aEx:∀(fuel:Nat) (listed:Array Bool) (a:Act) (w:World),aEv P md ops Q F e fuel listed a w->wpAny P md ops Q fuel listed a w
 | 0,_,_,_,h=>h
 | fuel+1,_,_,_,h=>⟨h.1,fun i hi=>wpOp_mono (fun a' w' h'=>aEx fuel _ a' w' h'.2) (h.2 i hi)⟩
theorem aEy {i:Nat} {oi:Oper} {v:Value} (hi:ops[i]?=some oi) (hsel:∀(j:Nat) (o:Oper) cs b,ops[j]?=some o->o.op≠ .select cs b)
  (hQ:∀c a w,Q (.panic c) (a.put oi.dst v) w->Q (.panic c) a w) (hE:∀oj,ops[e]?=some oj->∃x∈oj.after,Region.binds md x=true/\x.on=i):
  ∀(fuel:Nat) (listed:Array Bool) (a:Act) (w:World),
   (∀j oj,ops[j]?=some oj->j≠i->listed.getD j true=false->(∀e∈oj.after,Region.binds md e=true->e.on≠i)->oi.apart ops oj=true)->
   i∈Region.ready md ops listed->YieldsIf P ops F oi v a->F w->
   aEv P md ops Q F e fuel (listed.setIfInBounds i true) (a.put oi.dst v) w->aEv P md ops Q F e (fuel+1) listed a w:=by
 intro fuel
 induction fuel with
 | zero=>
  intro listed a w _ hr hy hS H;refine⟨fun h=>(by rw[h]at hr;cases hr),fun j hj=> ?_⟩
  by_cases hji:j=i
  ·subst hji;exact hy.wpOp hi hS ⟨fun _=>hS,H⟩
  ·have:=ready_mono hj hji;rw[H.1]at this
   cases this
 | succ fuel ih=>
  intro listed a w hfree hr hy hS H;refine⟨fun h=>(by rw[h]at hr;cases hr),fun j hj=> ?_⟩
  by_cases hji:j=i
  ·subst hji;exact hy.wpOp hi hS ⟨fun _=>hS,H⟩
  ·have h1:=H.2 j (ready_mono hj hji);obtain⟨hjun,oj,hoj,hall⟩:=mem_ready.1 hj;have hnot:∀e∈oj.after,Region.binds md e=true->e.on≠i:=fun e he hb heq=>by
    have h1:=hall e he hb;have h0:=(mem_ready.1 hr).1;rw[heq]at h1;rcases Nat.lt_or_ge i listed.size with h' | h'
    ·simp[h']at h0 h1;rw[h0]at h1;cases h1
    ·simp[Array.getElem?_eq_none h']at h1
   have hje:j≠e:=fun h=>by
    subst h;obtain⟨x,h3,h4,h5⟩:=hE oj hoj;exact hnot x h3 h4 h5
   have h2:=wpOp_putIf hoj (hfree j oj hoj hji hjun hnot) (fun cs b=>hsel i oi cs b hi) (fun cs b=>hsel j oj cs b hoj) hQ hy h1;have hfree':∀k ok,ops[k]?=some ok->k≠i->(listed.setIfInBounds j true).getD k true=false->
     (∀e∈ok.after,Region.binds md e=true->e.on≠i)->oi.apart ops ok=true:=fun k ok hk hki hun hno=>by
    refine hfree k ok hk hki ?_ hno
    by_cases hjk:j=k
    ·subst hjk;exact hjun
    ·rw[getD_set_ne true hjk]at hun;exact hun
   refine wpOp_mono (fun a' w' h3=>⟨h3.2.1,ih (listed.setIfInBounds j true) a' w' hfree' (ready_mono hr (Ne.symm hji)) h3.1 (h3.2.1 hje) ?_⟩) h2;rw[Array.setIfInBounds_comm _ _ hji];exact h3.2.2
theorem aEs (i:Nat) {oi:Oper} (d:Tmp) (v:Value) {fuel:Nat} {listed:Array Bool} {a:Act} {w:World} (h:aEv P md ops Q F e fuel (listed.setIfInBounds i true) (a.put (some d) v) w) (hi:ops[i]?=some oi:=by rfl) (hd:oi.dst=some d:=by rfl)
  (hs:Region.noSelect ops=true:=by kernel_rfl) (hf:Region.free md ops listed i=true:=by kernel_rfl) (hr:(Region.ready md ops listed).contains i=true:=by kernel_rfl)
  (hE:((ops[e]?.map fun oj=>oj.after.any fun x=>Region.binds md x && x.on==i).getD true)=true:=by kernel_rfl)
  (hQ:∀c a w,Q (.panic c) (a.put (some d) v) w->Q (.panic c) a w:=by exact fun _ _ _ h=>h) (hy:YieldsIf P ops F oi v a:=by exact Or.inl ⟨by rfl,fun w hSw=>by go_simp⟩) (hS:F w:=by assumption):aEv P md ops Q F e (fuel+1) listed a w:=by
 rw[<-hd]at h hQ;refine aEy hi (Region.noSelect_spec hs) hQ (fun oj hoj=> ?_) fuel listed a w (Region.free_spec hi hf) (by simpa using hr) hy hS h;rw[hoj]at hE;obtain⟨k,hk,h2⟩:=Array.any_eq_true.1 (show oj.after.any (fun x=>Region.binds md x && x.on==i)=true from hE);simp only[Bool.and_eq_true,beq_iff_eq]at h2;exact⟨_,Array.getElem_mem hk,h2⟩
theorem aEt {i:Nat} {o:Oper} {fuel:Nat} {listed:Array Bool} {a:Act} {w:World} (hr:Region.ready md ops listed= [i]) (ho:ops[i]?=some o)
  (h:∀K':Act->World->Prop,Shut (∀a w,(i≠e->F w)->aEv P md ops Q F e fuel (listed.setIfInBounds i true) a w->K' a w)->if Region.wanted o (yielded ops a.tmps)=true then Oper.wp P o a w K' Q else K' (a.put o.dst undef) w):
  aEv P md ops Q F e (fuel+1) listed a w:=
 ⟨fun h0=>(by rw[hr]at h0;cases h0),fun j hj=>by
  rw[hr]at hj;obtain rfl:=List.mem_singleton.1 hj;exact wpOp_step ho (fun K' hK=>h K' (fun a w hS hW=>hK a w ⟨hS,hW⟩))⟩
theorem aEu {listed:Array Bool} {a:Act} {w:World} (hr:Region.ready md ops listed= []) (h:Q .normal a w):∀fuel,aEv P md ops Q F e fuel listed a w
 | 0=>⟨hr,h⟩
 | _+1=>⟨fun _=>h,by rw[hr];simp⟩
theorem aEw {id:Nat} {a:Act} {w:World} (hm:P.follows .mixedOrders=true) (hF:F w.drew)
  (h:F w.drew->aEv P .any ops Q F e ops.size (Array.replicate ops.size false) a w.drew):(Code.region id ops true).wp P Q a w:=
 wp_region_any hm (aEx _ _ _ _ (h hF))
end
def Hd4 (p q r s:Addr) (t u v x:Value) (w:World):Prop:=w.cell? p=some t/\w.cell? q=some u/\w.cell? r=some v/\w.cell? s=some x
theorem hd4 (p q r s:Addr) (t u v x:Value):(∀w,Hd4 p q r s t u v x w->w.cell? p=some t)/\(∀w,Hd4 p q r s t u v x w->w.cell? q=some u)/\(∀w,Hd4 p q r s t u v x w->w.cell? r=some v)/\(∀w,Hd4 p q r s t u v x w->w.cell? s=some x):=
 ⟨fun w h=>h.1,fun w h=>h.2.1,fun w h=>h.2.2.1,fun w h=>h.2.2.2⟩
end Go.Proofs.YtahiballegpbgaaGreatDoor
