/- Lemmas. -/
import Derived.Test.YtknfcamdfdfoeaaGreatDoorMac
import Derived.Test.YtknfcamdfdfoeaaGreatDoorZ05
import Derived.OrdersHeld
import Derived.StillTail
set_option linter.unusedVariables false
set_option linter.unusedSimpArgs false
set_option maxRecDepth 100000
set_option maxHeartbeats 64000000
namespace Go.Proofs.YtknfcamdfdfoeaaGreatDoor
open Go.RowKit Go.Sort
structure J6 (S:Nat->Prop) (W W':World):Prop where
 os:W'.os=W.os
 tape:W'.tape=W.tape
 output:W'.output=W.output
 size:W.heap.size<=W'.heap.size
 block:∀k,k<W.heap.size->¬S k->W'.heap[k]?=W.heap[k]?
theorem J6.refl {S:Nat->Prop} (W:World):J6 S W W:=⟨rfl,rfl,rfl,Ns _,fun _ _ _=>rfl⟩
theorem J6.bel {S:Nat->Prop} {W W':World} (h:Below W.heap.size W W'):J6 S W W':=⟨h.os,h.tape,h.output,h.size,fun k hk _=>h.block k hk⟩
theorem J6.grown {S:Nat->Prop} {W W':World} {r:Option Nat} (h:W.grownBy W' r) (hr:∀k,r=some k->S k):J6 S W W':=
 ⟨h.os,h.tape,h.output,h.size,fun k hk hs=>h.block k hk fun he=>hs (hr k he.symm)⟩
theorem J6.trans {S T:Nat->Prop} {a b c:World} (h1:J6 S a b) (h2:J6 T b c) (hT:∀k,k<a.heap.size->T k->S k):J6 S a c:=
 ⟨h2.os.trans h1.os,h2.tape.trans h1.tape,h2.output.trans h1.output,Nat.le_trans h1.size h2.size,fun k hk hs=>
  (h2.block k (Nr hk h1.size) fun ht=>hs (hT k hk ht)).trans (h1.block k hk hs)⟩
theorem J6.trans' {S:Nat->Prop} {a b c:World} (h1:J6 S a b) (h2:J6 S b c):J6 S a c:=h1.trans h2 fun _ _ h=>h
theorem J6.less {S T:Nat->Prop} {a b:World} (h:J6 T a b) (hT:∀k,k<a.heap.size->T k->S k):J6 S a b:=(J6.refl a).trans h hT
theorem J6.setCell {S:Nat->Prop} {W W':World} (h:J6 S W W') {b:Nat} (hb:S b) (o:Nat) (u:Value):J6 S W (W'.setCell ⟨b,o,none⟩ u):=
 ⟨h.os,h.tape,h.output,by rw [show(W'.setCell ⟨b,o,none⟩ u).heap.size=W'.heap.size from by simp];exact h.size,fun k hk hs=>by
  rw [heap_setCell_other _ _ _ _ (by show k≠b;exact fun he=>hs (he ▸ hb))];exact h.block k hk hs⟩
theorem J6.below {S:Nat->Prop} {w W W':World} (h:Below w.heap.size w W) (hk:J6 S W W') (hs:∀k,k<w.heap.size->¬S k):Below w.heap.size w W':=
 ⟨hk.os.trans h.os,hk.tape.trans h.tape,hk.output.trans h.output,Nat.le_trans h.size hk.size,fun k hk'=>
  (hk.block k (Nr hk' h.size) (hs k hk')).trans (h.block k hk')⟩
theorem J6.cell {S:Nat->Prop} {W W':World} (h:J6 S W W') {b o:Nat} {v:Value} (hs:¬S b) (hc:W.cell? ⟨b,o,none⟩=some v):W'.cell? ⟨b,o,none⟩=some v:=
 Jr (h.block b (Nu hc) hs) hc
theorem J6.own {S:Nat->Prop} {W W':World} (h:J6 S W W') {base n size:Nat} {e:TypeId} {v:Value} {xs:List Value} (hs:∀b,v.ownBlock=some b->¬S b) (ho:W.ownsRow base e size v n xs):W'.ownsRow base e size v n xs:=by
 obtain⟨k,hk⟩:∃k,k=v.ownBlock:=⟨_,rfl⟩
 rcases ho with ⟨h1,h2⟩
 refine⟨h1,?_⟩
 rcases h2 with h2|⟨g,cap,os,hv,hb,hg,h3⟩
 ·exact .inl h2
 ·refine .inr ⟨g,cap,os,hv,hb,?_,h3⟩
  have am:g<W.heap.size:=by
   rcases Nat.lt_or_ge g W.heap.size with h4|h4
   ·exact h4
   ·rw [Array.getElem?_eq_none h4] at hg;cases hg
  rw [h.block g am (hs g (by rw [hv];rfl))];exact hg
theorem Jp6 {S:Nat->Prop} {base:Nat} {W W':World} {P:World->Prop} (h:Off base none W P) (hk:J6 S W W') (hs:∀k,base<=k->k<W.heap.size->¬S k):P W':=
 h W' fun k h1 h2 _=>hk.block k h2 (hs k h1 h2)
theorem sa1 {α:Type} {xs:List α} {i:Nat} {a:α} : xs.toArray.setIfInBounds i a=(xs.set i a).toArray:=List.setIfInBounds_toArray ..
theorem sa2 {α:Type} {a b:α} {l:List α} : (a :: l).set 0 b=b :: l:=List.set_cons_zero
theorem sa3 {α:Type} {a b:α} {l:List α} {n:Nat} : (a :: l).set (n+1) b=a :: l.set n b:=List.set_cons_succ
section
variable {P:Program} {ops:Array Oper} {Q:Exit->Act->World->Prop} {md:Region.Mode} {S:World->Prop}
def Jab (P:Program) (md:Region.Mode) (ops:Array Oper) (Q:Exit->Act->World->Prop) (S:World->Prop) (n g:Nat):Nat->Array Bool->Act->World->Prop
 | 0,listed,a,w=>(∀j∈Region.ready md ops listed,n<=j)/\wpAny P md ops Q g listed a w
 | f+1,listed,a,w=>Region.ready md ops listed≠[]/\∀i∈Region.ready md ops listed,wpOp P ops Q i (fun a' w'=>S w'/\Jab P md ops Q S n g f (listed.setIfInBounds i true) a' w') a w
theorem Jjy {n g:Nat} : ∀(f:Nat) (listed:Array Bool) (a:Act) (w:World),Jab P md ops Q S n g f listed a w->wpAny P md ops Q (f+g) listed a w
 | 0,listed,a,w,h=>by rw [Nat.zero_add];exact h.2
 | f+1,listed,a,w,h=>by
  rw [show f+1+g=(f+g)+1 by omega];exact⟨fun h0=>absurd h0 h.1,fun i hi=>wpOp_mono (fun a' w' h'=>Jjy f _ a' w' h'.2) (h.2 i hi)⟩
theorem Jsl {n g i:Nat} {oi:Oper} {v:Value} (hi:ops[i]?=some oi) (xv:∀(j:Nat) (o:Oper) cs b,ops[j]?=some o->o.op≠ .select cs b)
  (hs:Region.sinkB md ops n=true) (hc:Region.chainB md ops n=true) (hn:n<ops.size) (dV:i<n) (hQ:∀c a w,Q (.panic c) (a.put oi.dst v) w->Q (.panic c) a w) :
  ∀(f:Nat) (listed:Array Bool) (a:Act) (w:World),HeadInv md ops n listed->
   (∀j oj,ops[j]?=some oj->j≠i->listed.getD j true=false->(∀e∈oj.after,Region.binds md e=true->e.on≠i)->oi.apart ops oj=true)->
   i∈Region.ready md ops listed->YieldsIf P ops S oi v a->S w->
   Jab P md ops Q S n g f (listed.setIfInBounds i true) (a.put oi.dst v) w->Jab P md ops Q S n g (f+1) listed a w:=by
 intro f
 induction f with
 | zero=>
  intro listed a w inv _ hr hy hS H;have gG:=(mem_ready.1 hr).1;refine⟨fun h=>(by rw [h] at hr;cases hr),fun j hj=>?_⟩
  have hjn:j<n:=by
   exact Ucs
  by_cases jO:j=i
  ·subst jO;exact hy.wpOp hi hS ⟨hS,H⟩
  ·have:=H.1 j (ready_mono hj jO);exact Ua
 | succ f ih=>
  intro listed a w inv sm hr hy hS H;have gG:=(mem_ready.1 hr).1;refine⟨fun h=>(by rw [h] at hr;cases hr),fun j hj=>?_⟩
  have hjn:j<n:=by
   exact Ucs
  by_cases jO:j=i
  ·subst jO;exact hy.wpOp hi hS ⟨hS,H⟩
  ·have h1:=H.2 j (ready_mono hj jO);obtain⟨xw,oj,hoj,eF⟩:=mem_ready.1 hj
   have hnot:∀e∈oj.after,Region.binds md e=true->e.on≠i:=fun e he hb ou=>by
    have h2:=eF e he hb;rw [ou,getD_both gG] at h2
    cases h2
   have h2:=wpOp_putIf hoj (sm j oj hoj jO xw hnot) (fun cs b=>xv i oi cs b hi) (fun cs b=>xv j oj cs b hoj) hQ hy h1;refine wpOp_mono (fun a' w' h3=>⟨h3.2.1,ih (listed.setIfInBounds j true) a' w' (inv.set hj hjn) (fun k ok hk hki hku oG=>sm k ok hk hki ?_ oG) (ready_mono hr (Ne.symm jO)) h3.1 h3.2.1 ?_⟩) h2
   ·by_cases tB:j=k
    ·subst tB;exact xw
    ·rw [getD_set_ne true tB] at hku;exact hku
   ·rw [Array.setIfInBounds_comm _ _ jO];exact h3.2.2
def Jlx (md:Region.Mode) (ops:Array Oper) (n:Nat) (listed:Array Bool):Bool:=
 (listed.size == ops.size) && (List.range ops.size).all (fun j=>!listed.getD j false || (match ops[j]? with|some o=>o.after.all (fun e=>!Region.binds md e || listed.getD e.on false)|none=>true)) &&
  (List.range ops.size).all (fun t=>decide (t<n) || !listed.getD t true)
theorem Jqn {n:Nat} {listed:Array Bool} (h:Jlx md ops n listed=true):HeadInv md ops n listed:=by
 simp only [Jlx,Bool.and_eq_true,beq_iff_eq,List.all_eq_true,List.mem_range] at h;obtain⟨⟨h1,h2⟩,h3⟩:=h;refine⟨h1,fun j oj hj hl e he hb=>?_,fun t ht am=>?_⟩
 ·have h4:=h2 j (Array.getElem?_eq_some_iff.1 hj).1;rw [hl,hj] at h4;simp only [Bool.not_true,Bool.false_or,Array.all_eq_true_iff_forall_mem] at h4;have h5:=h4 e he;rw [hb] at h5;simpa using h5
 ·have h4:=h3 t am;rw [show decide (t<n)=false from by simpa using ht] at h4;simpa using h4
theorem Jt1 {n g i:Nat} {oi:Oper} {v:Value} {f:Nat} {listed:Array Bool} {a:Act} {w:World} (hi:ops[i]?=some oi)
  (fE:Region.noSelect ops=true) (hs:Region.sinkB md ops n=true) (hc:Region.chainB md ops n=true) (hn:decide (n<ops.size)=true) (dV:decide (i<n)=true)
  (hv:Jlx md ops n listed=true) (hf:Region.free md ops listed i=true) (hr:(Region.ready md ops listed).contains i=true)
  (hQ:∀c a w,Q (.panic c) (a.put oi.dst v) w->Q (.panic c) a w) (hy:YieldsIf P ops S oi v a) (hS:S w)
  (h:Jab P md ops Q S n g f (listed.setIfInBounds i true) (a.put oi.dst v) w):Jab P md ops Q S n g (f+1) listed a w:=
 Jsl hi (Region.noSelect_spec fE) hs hc (of_decide_eq_true hn) (of_decide_eq_true dV) hQ f listed a w (Jqn hv) (Region.free_spec hi hf) Dq hy hS h
theorem Jv9 {n g i:Nat} {oi:Oper} {f:Nat} {listed:Array Bool} {a:Act} {w:World} (hr:Region.ready md ops listed = [i]) (hi:ops[i]?=some oi) (hg:oi.guard=none)
  (h:oi.wp P a w (fun a' w'=>S w'/\Jab P md ops Q S n g f (listed.setIfInBounds i true) a' w') Q):Jab P md ops Q S n g (f+1) listed a w:=by
 refine⟨fun h0=>D8,fun j hj=>?_⟩;rw [hr] at hj;obtain rfl:=List.mem_singleton.1 hj;unfold wpOp;have hw:Region.wanted oi (yielded ops a.tmps)=true:=Dz;simp only [hi,hw,if_true];exact .inl h
theorem Ji {n g:Nat} (i:Nat) {oi:Oper} {v:Value} {f:Nat} {listed:Array Bool} {a a':Act} {w:World} (hS:S w) (h:Jab P md ops Q S n g f (listed.setIfInBounds i true) a' w)
  (hi:ops[i]?=some oi:=by simp only [List.getElem?_toArray,List.getElem?_cons_succ,List.getElem?_cons_zero];rfl) (eH:∀w,S w->(execOp a.eval oi).run P w = .ok (.value v) w:=by intro w' hSw;go_simp;first|done|with_reducible rfl)
  (iF:a.put oi.dst v=a':=by simp only [Act.put,List.setIfInBounds_toArray,List.set_cons_zero,List.set_cons_succ];first|done|rfl)
  (fE:Region.noSelect ops=true:=by kernel_rfl) (hs:Region.sinkB md ops n=true:=by kernel_rfl) (hc:Region.chainB md ops n=true:=by kernel_rfl) (hn:decide (n<ops.size)=true:=by kernel_rfl) (dV:decide (i<n)=true:=by kernel_rfl)
  (hv:Jlx md ops n listed=true:=by kernel_rfl) (hf:Region.free md ops listed i=true:=by kernel_rfl) (hr:(Region.ready md ops listed).contains i=true:=by kernel_rfl)
  (hQ:∀c a w,Q (.panic c) (a.put oi.dst v) w->Q (.panic c) a w:=by intro _ _ _ h;exact h) (hw:Region.wanted oi (yielded ops a.tmps)=true:=by rfl):Jab P md ops Q S n g (f+1) listed a w:=
 Jt1 hi fE hs hc hn dV hv hf hr hQ (.inl ⟨hw,eH⟩) hS (iF ▸ h)
theorem Kb {n g:Nat} (i:Nat) {oi:Oper} {f:Nat} {listed:Array Bool} {a:Act} {w:World} (h:oi.wp P a w (fun a' w'=>S w'/\Jab P md ops Q S n g f (listed.setIfInBounds i true) a' w') Q)
  (hr:Region.ready md ops listed = [i]:=by kernel_rfl) (hi:ops[i]?=some oi:=by simp only [List.getElem?_toArray,List.getElem?_cons_succ,List.getElem?_cons_zero];rfl) (hg:oi.guard=none:=by rfl):Jab P md ops Q S n g (f+1) listed a w:=
 Jv9 hr hi hg h
theorem Kh {n g:Nat} {listed:Array Bool} {a:Act} {w:World} (hr:Region.ready md ops listed = [n]) (h:wpAny P md ops Q g listed a w):Jab P md ops Q S n g 0 listed a w:=
 ⟨fun j hj=>by rw [hr] at hj;rw [List.mem_singleton.1 hj];exact Ns _,h⟩
theorem Jt0 {g i:Nat} {oi:Oper} {listed:Array Bool} {a:Act} {w:World} (hr:Region.ready md ops listed = [i]) (hi:ops[i]?=some oi) (hg:oi.guard=none)
  (h:oi.wp P a w (wpAny P md ops Q g (listed.setIfInBounds i true)) Q):wpAny P md ops Q (g+1) listed a w:=by
 refine⟨fun h0=>D8,fun j hj=>?_⟩;rw [hr] at hj;obtain rfl:=List.mem_singleton.1 hj;unfold wpOp;have hw:Region.wanted oi (yielded ops a.tmps)=true:=Dz;simp only [hi,hw,if_true];exact .inl h
theorem Qx {g:Nat} (i:Nat) {oi:Oper} {listed:Array Bool} {a:Act} {w:World} (h:oi.wp P a w (wpAny P md ops Q g (listed.setIfInBounds i true)) Q)
  (hr:Region.ready md ops listed = [i]:=by kernel_rfl) (hi:ops[i]?=some oi:=by simp only [List.getElem?_toArray,List.getElem?_cons_succ,List.getElem?_cons_zero];rfl) (hg:oi.guard=none:=by rfl):wpAny P md ops Q (g+1) listed a w:=
 Jt0 hr hi hg h
theorem Ki {listed:Array Bool} {a:Act} {w:World} (hr:Region.ready md ops listed = []) (h:Q .normal a w):wpAny P md ops Q 0 listed a w:=⟨hr,h⟩
theorem Kd (S:World->Prop) (n g:Nat) {id:Nat} {a:Act} {w:World} (hm:P.follows .mixedOrders=true) (cE:ops.size=n+g)
  (h:Jab P .any ops Q S n g n (Array.replicate ops.size false) a w.drew):(Code.region id ops true).wp P Q a w:=by
 refine wp_region_any hm ?_;rw [show ops.size=n+g from cE] at h ⊢;exact Jjy n _ a _ h
theorem Jj {o:Oper} {a:Act} {w:World} {K:Act->World->Prop} (h:∀K':Act->World->Prop,(∀a w,K a w->K' a w)->o.wp P a w K' Q):o.wp P a w K Q:=h K fun _ _ h=>h
theorem Zc {Q:Exit->Act->World->Prop} {e:Exit} {a:Act} {W:World} (h:∀W0,W0=W->Q e a W0):Q e a W:=h W rfl
theorem Jgr {g:Nat} {listed:Array Bool} {a:Act} {w:World} (h:∀W0,W0=w->wpAny P md ops Q g listed a W0):wpAny P md ops Q g listed a w:=h w rfl
theorem Ys {n g f:Nat} {listed:Array Bool} {a:Act} {w:World} (h:∀W0,W0=w->Jab P md ops Q S n g f listed a W0):Jab P md ops Q S n g f listed a w:=h w rfl
end
theorem Xi (W:World) (p:Addr):W.drew.cell? p=W.cell? p:=rfl
theorem Jdn (W:World) (p:Addr):W.drew.frozen? p=W.frozen? p:=rfl
theorem J5 (W:World) (b o j:Nat) (v:Value) (h:j≠o):(W.setCell ⟨b,o,none⟩ v).cell? ⟨b,j,none⟩=W.cell? ⟨b,j,none⟩:=World.cell?_setCell_other _ _ _ _ (by intro he;injection he with e1 e2;first|exact h e2|exact h e2.symm)
theorem Qm (W:World) (b o c j:Nat) (v:Value) (h:c≠b):(W.setCell ⟨b,o,none⟩ v).cell? ⟨c,j,none⟩=W.cell? ⟨c,j,none⟩:=World.cell?_setCell_other _ _ _ _ (by intro he;injection he with e1 e2;first|exact h e1|exact h e1.symm)
theorem Jp5 {W:World} {b:Nat} {u0 u1 u2:Value} (v0 v1 v2:Value) (h0:W.cell? ⟨b,0,none⟩=some u0) (h1:W.cell? ⟨b,1,none⟩=some u1) (h2:W.cell? ⟨b,2,none⟩=some u2) :
  (((W.setCell ⟨b,0,none⟩ v0).setCell ⟨b,1,none⟩ v1).setCell ⟨b,2,none⟩ v2).cell? ⟨b,0,none⟩=some v0/\(((W.setCell ⟨b,0,none⟩ v0).setCell ⟨b,1,none⟩ v1).setCell ⟨b,2,none⟩ v2).cell? ⟨b,1,none⟩=some v1/\(((W.setCell ⟨b,0,none⟩ v0).setCell ⟨b,1,none⟩ v1).setCell ⟨b,2,none⟩ v2).cell? ⟨b,2,none⟩=some v2:=by
 refine⟨?_,?_,?_⟩
 ·rw [J5 _ _ _ _ _ Ux,J5 _ _ _ _ _ Ux];exact Nx _ _ _ h0
 ·rw [J5 _ _ _ _ _ Ux];exact Nx _ _ _ (by rw [J5 _ _ _ _ _ Ux];exact h1)
 ·exact Nx _ _ _ (by rw [J5 _ _ _ _ _ Ux,J5 _ _ _ _ _ Ux];exact h2)
theorem Qy {W:World} {b:Nat} (v0 v1 v2:Value) {c j:Nat} (h:c≠b):(((W.setCell ⟨b,0,none⟩ v0).setCell ⟨b,1,none⟩ v1).setCell ⟨b,2,none⟩ v2).cell? ⟨c,j,none⟩=W.cell? ⟨c,j,none⟩:=by rw [Qm _ _ _ _ _ _ h,Qm _ _ _ _ _ _ h,Qm _ _ _ _ _ _ h]
theorem Jev {W:World} {b:Nat} (v0 v1 v2:Value) (p:Addr):(((W.setCell ⟨b,0,none⟩ v0).setCell ⟨b,1,none⟩ v1).setCell ⟨b,2,none⟩ v2).frozen? p=W.frozen? p:=by rw [World.frozen?_setCell,World.frozen?_setCell,World.frozen?_setCell]
theorem Jsy {W:World} {b:Nat} {u0 u1 u2 u3 u4:Value} (v0 v1 v2 v3 v4:Value) (h0:W.cell? ⟨b,0,none⟩=some u0) (h1:W.cell? ⟨b,1,none⟩=some u1) (h2:W.cell? ⟨b,2,none⟩=some u2) (h3:W.cell? ⟨b,3,none⟩=some u3) (h4:W.cell? ⟨b,4,none⟩=some u4) :
  (((((W.setCell ⟨b,0,none⟩ v0).setCell ⟨b,1,none⟩ v1).setCell ⟨b,2,none⟩ v2).setCell ⟨b,3,none⟩ v3).setCell ⟨b,4,none⟩ v4).cell? ⟨b,0,none⟩=some v0/\(((((W.setCell ⟨b,0,none⟩ v0).setCell ⟨b,1,none⟩ v1).setCell ⟨b,2,none⟩ v2).setCell ⟨b,3,none⟩ v3).setCell ⟨b,4,none⟩ v4).cell? ⟨b,1,none⟩=some v1/\(((((W.setCell ⟨b,0,none⟩ v0).setCell ⟨b,1,none⟩ v1).setCell ⟨b,2,none⟩ v2).setCell ⟨b,3,none⟩ v3).setCell ⟨b,4,none⟩ v4).cell? ⟨b,2,none⟩=some v2/\(((((W.setCell ⟨b,0,none⟩ v0).setCell ⟨b,1,none⟩ v1).setCell ⟨b,2,none⟩ v2).setCell ⟨b,3,none⟩ v3).setCell ⟨b,4,none⟩ v4).cell? ⟨b,3,none⟩=some v3/\(((((W.setCell ⟨b,0,none⟩ v0).setCell ⟨b,1,none⟩ v1).setCell ⟨b,2,none⟩ v2).setCell ⟨b,3,none⟩ v3).setCell ⟨b,4,none⟩ v4).cell? ⟨b,4,none⟩=some v4:=by
 refine⟨?_,?_,?_,?_,?_⟩
 ·rw [J5 _ _ _ _ _ Ux,J5 _ _ _ _ _ Ux,J5 _ _ _ _ _ Ux,J5 _ _ _ _ _ Ux];exact Nx _ _ _ h0
 ·rw [J5 _ _ _ _ _ Ux,J5 _ _ _ _ _ Ux,J5 _ _ _ _ _ Ux];exact Nx _ _ _ (by rw [J5 _ _ _ _ _ Ux];exact h1)
 ·rw [J5 _ _ _ _ _ Ux,J5 _ _ _ _ _ Ux];exact Nx _ _ _ (by rw [J5 _ _ _ _ _ Ux,J5 _ _ _ _ _ Ux];exact h2)
 ·rw [J5 _ _ _ _ _ Ux];exact Nx _ _ _ (by rw [J5 _ _ _ _ _ Ux,J5 _ _ _ _ _ Ux,J5 _ _ _ _ _ Ux];exact h3)
 ·exact Nx _ _ _ (by rw [J5 _ _ _ _ _ Ux,J5 _ _ _ _ _ Ux,J5 _ _ _ _ _ Ux,J5 _ _ _ _ _ Ux];exact h4)
theorem Q8 {W:World} {b:Nat} (v0 v1 v2 v3 v4:Value) {c j:Nat} (h:c≠b):(((((W.setCell ⟨b,0,none⟩ v0).setCell ⟨b,1,none⟩ v1).setCell ⟨b,2,none⟩ v2).setCell ⟨b,3,none⟩ v3).setCell ⟨b,4,none⟩ v4).cell? ⟨c,j,none⟩=W.cell? ⟨c,j,none⟩:=by rw [Qm _ _ _ _ _ _ h,Qm _ _ _ _ _ _ h,Qm _ _ _ _ _ _ h,Qm _ _ _ _ _ _ h,Qm _ _ _ _ _ _ h]
theorem Ji7 {W:World} {b:Nat} (v0 v1 v2 v3 v4:Value) (p:Addr):(((((W.setCell ⟨b,0,none⟩ v0).setCell ⟨b,1,none⟩ v1).setCell ⟨b,2,none⟩ v2).setCell ⟨b,3,none⟩ v3).setCell ⟨b,4,none⟩ v4).frozen? p=W.frozen? p:=by rw [World.frozen?_setCell,World.frozen?_setCell,World.frozen?_setCell,World.frozen?_setCell,World.frozen?_setCell]
theorem Qq {m:Nat} {w W:World} {b:Nat} (v0 v1 v2:Value) (h:Below m w W) (hb:m<=b):Below m w (((W.setCell ⟨b,0,none⟩ v0).setCell ⟨b,1,none⟩ v1).setCell ⟨b,2,none⟩ v2):=(Below.setCell (Below.setCell (Below.setCell h hb _) hb _) hb _)
theorem Jdj {m:Nat} {w W:World} {b:Nat} (v0 v1 v2 v3 v4:Value) (h:Below m w W) (hb:m<=b):Below m w (((((W.setCell ⟨b,0,none⟩ v0).setCell ⟨b,1,none⟩ v1).setCell ⟨b,2,none⟩ v2).setCell ⟨b,3,none⟩ v3).setCell ⟨b,4,none⟩ v4):=(Below.setCell (Below.setCell (Below.setCell (Below.setCell (Below.setCell h hb _) hb _) hb _) hb _) hb _)
end Go.Proofs.YtknfcamdfdfoeaaGreatDoor
