/- Lemmas. -/
import Derived.Test.YtknfcamdfdfoeaaGreatDoorMac
import Derived.Test.YtknfcamdfdfoeaaGreatDoorZ21
import Derived.Test.YtknfcamdfdfoeaaGreatDoorZ02
import Derived.OrdersHeld
import Derived.StillTail
import Derived.Test.YtknfcamdfdfoeaaGreatDoorZ20
import Derived.Test.YtknfcamdfdfoeaaGreatDoorZ19
import Derived.Test.YtknfcamdfdfoeaaGreatDoorZ01
import Derived.Test.YtknfcamdfdfoeaaGreatDoorZ05
set_option linter.unusedVariables false
set_option linter.unusedSimpArgs false
set_option maxRecDepth 100000
set_option maxHeartbeats 64000000
namespace Go.Proofs.YtknfcamdfdfoeaaGreatDoor
open Go.RowKit
namespace Ex
end Ex
theorem Jn3 {k n:Int} {s:ByteArray} {len:Nat} (h:Jl k n s len=true) :
  (k=1/\len=0)\/(k=2/\len=0)\/(k=3/\len=0)\/(k=4/\len=1/\1<=n/\n<=2)\/(k=5/\len=2/\1<=n/\n<=16)\/(k=6/\len=3)\/(k=7/\len=2)\/(k=8/\len=1)\/(k=9/\len=1)\/(k=10/\len=2):=by
 unfold Jl at h;simp only [Bool.and_eq_true,beq_iff_eq,Bool.not_eq_true',decide_eq_false_iff_not] at h;obtain⟨⟨⟨⟨⟨h1,h2⟩,h3⟩,h4⟩,_⟩,_⟩:=h;have hk:k=1\/k=2\/k=3\/k=4\/k=5\/k=6\/k=7\/k=8\/k=9\/k=10\/(k≠1/\k≠2/\k≠3/\k≠4/\k≠5/\k≠6/\k≠7/\k≠8/\k≠9/\k≠10):=Ua
 rcases hk with rfl|rfl|rfl|rfl|rfl|rfl|rfl|rfl|rfl|rfl|⟨a1,a2,a3,a4,a5,a6,a7,a8,a9,a10⟩
 case inr.inr.inr.inr.inr.inr.inr.inr.inr.inr=>
  unfold Jw at h1;rw [if_neg a1,if_neg a2,if_neg a3,if_neg a4,if_neg a5,if_neg a6,if_neg a7,if_neg a8,if_neg a9,if_neg a10] at h1
  cases h1
 all_goals
  simp only [Jw] at h2 h3 h4;simp at h2 h3 h4;omega
section
variable {f:Fr} {sl:ByteArray->Int} {fl:Int×ByteArray->Int}
end
theorem Jtl (L:List Va) (s:ByteArray) (h:0<L.length):0<=Xu L s/\Xu L s<(L.length:Int):=by
 unfold Xu
 cases hv:Qi L s with
 | none=>exact⟨Ul,Uj⟩
 | some j=>
  obtain⟨k,v,rfl,hk,_⟩:=Zi hv;have:=(List.getElem?_eq_some_iff.1 hk).1;simp only [Option.getD_some];omega
theorem Jf3 (d:Int×ByteArray):∀(l:List Ce) (i:Nat),Jav i l d=0\/((i:Int)<=Jav i l d/\Jav i l d<((i+l.length:Nat):Int))
 | [],i=> .inl rfl
 | x :: r,i=>by
  rw [Jav]
  split
  ·right;rw [List.length_cons];omega
  ·rcases Jf3 d r (i+1) with h|h
   ·exact .inl h
   ·right;rw [List.length_cons];omega
namespace Ex
theorem Jpf {L:List Va} : ∀(r:List Ex),(typL L r).2=0->∀x∈r,(typ L x).2=0
 | [],_,x,hx=>by cases hx
 | y :: r,h,x,hx=>by
  obtain⟨h1,h2⟩:=Jmx h
  rcases List.mem_cons.1 hx with rfl|hx
  ·exact h1
  ·exact Jpf r h2 x hx
end Ex
end Go.Proofs.YtknfcamdfdfoeaaGreatDoor
namespace Go.Proofs.YtknfcamdfdfoeaaGreatDoor
open Go.RowKit Go.Sort
structure J6 (S:Nat->Prop) (W W':World):Prop where
 os:W'.os=W.os
 tape:W'.tape=W.tape
 output:W'.output=W.output
 size:W.heap.size<=W'.heap.size
 block:∀k,k<W.heap.size->¬S k->W'.heap[k]?=W.heap[k]?
theorem J6.refl {S:Nat->Prop} (W:World):J6 S W W:=⟨rfl,rfl,rfl,Nat.le_refl _,fun _ _ _=>rfl⟩
theorem J6.bel {S:Nat->Prop} {W W':World} (h:Below W.heap.size W W'):J6 S W W':=⟨h.os,h.tape,h.output,h.size,fun k hk _=>h.block k hk⟩
theorem J6.grown {S:Nat->Prop} {W W':World} {r:Option Nat} (h:W.grownBy W' r) (hr:∀k,r=some k->S k):J6 S W W':=
 ⟨h.os,h.tape,h.output,h.size,fun k hk hs=>h.block k hk fun he=>hs (hr k he.symm)⟩
theorem J6.trans {S T:Nat->Prop} {a b c:World} (h1:J6 S a b) (h2:J6 T b c) (hT:∀k,k<a.heap.size->T k->S k):J6 S a c:=
 ⟨h2.os.trans h1.os,h2.tape.trans h1.tape,h2.output.trans h1.output,Nat.le_trans h1.size h2.size,fun k hk hs=>
  (h2.block k (Nat.lt_of_lt_of_le hk h1.size) fun ht=>hs (hT k hk ht)).trans (h1.block k hk hs)⟩
theorem J6.trans' {S:Nat->Prop} {a b c:World} (h1:J6 S a b) (h2:J6 S b c):J6 S a c:=h1.trans h2 fun _ _ h=>h
theorem J6.less {S T:Nat->Prop} {a b:World} (h:J6 T a b) (hT:∀k,k<a.heap.size->T k->S k):J6 S a b:=(J6.refl a).trans h hT
theorem J6.setCell {S:Nat->Prop} {W W':World} (h:J6 S W W') {b:Nat} (hb:S b) (o:Nat) (u:Value):J6 S W (W'.setCell ⟨b,o,none⟩ u):=
 ⟨h.os,h.tape,h.output,by rw [show(W'.setCell ⟨b,o,none⟩ u).heap.size=W'.heap.size from by simp];exact h.size,fun k hk hs=>by
  rw [heap_setCell_other _ _ _ _ (by show k≠b;exact fun he=>hs (he ▸ hb))];exact h.block k hk hs⟩
theorem J6.below {S:Nat->Prop} {w W W':World} (h:Below w.heap.size w W) (hk:J6 S W W') (hs:∀k,k<w.heap.size->¬S k):Below w.heap.size w W':=
 ⟨hk.os.trans h.os,hk.tape.trans h.tape,hk.output.trans h.output,Nat.le_trans h.size hk.size,fun k hk'=>
  (hk.block k (Nat.lt_of_lt_of_le hk' h.size) (hs k hk')).trans (h.block k hk')⟩
theorem J6.cell {S:Nat->Prop} {W W':World} (h:J6 S W W') {b o:Nat} {v:Value} (hs:¬S b) (hc:W.cell? ⟨b,o,none⟩=some v):W'.cell? ⟨b,o,none⟩=some v:=
 Jr (h.block b (block_lt_of_cell hc) hs) hc
theorem J6.own {S:Nat->Prop} {W W':World} (h:J6 S W W') {base n size:Nat} {e:TypeId} {v:Value} {xs:List Value} (hs:∀b,v.ownBlock=some b->¬S b) (ho:W.ownsRow base e size v n xs):W'.ownsRow base e size v n xs:=by
 obtain⟨k,hk⟩:∃k,k=v.ownBlock:=⟨_,rfl⟩
 rcases ho with ⟨h1,h2⟩
 refine⟨h1,?_⟩
 rcases h2 with h2|⟨g,cap,os,hv,hb,hg,h3⟩
 ·exact .inl h2
 ·refine .inr ⟨g,cap,os,hv,hb,?_,h3⟩
  have am:g<W.heap.size:=by
   rcases Nat.lt_or_ge g W.heap.size with h4|h4
   ·exact h4
   ·rw [Array.getElem?_eq_none h4] at hg;cases hg
  rw [h.block g am (hs g (by rw [hv];rfl))];exact hg
theorem Jp6 {S:Nat->Prop} {base:Nat} {W W':World} {P:World->Prop} (h:Off base none W P) (hk:J6 S W W') (hs:∀k,base<=k->k<W.heap.size->¬S k):P W':=
 h W' fun k h1 h2 _=>hk.block k h2 (hs k h1 h2)
theorem sa1 {α:Type} {xs:List α} {i:Nat} {a:α} : xs.toArray.setIfInBounds i a=(xs.set i a).toArray:=List.setIfInBounds_toArray ..
theorem sa2 {α:Type} {a b:α} {l:List α} : (a :: l).set 0 b=b :: l:=List.set_cons_zero
theorem sa3 {α:Type} {a b:α} {l:List α} {n:Nat} : (a :: l).set (n+1) b=a :: l.set n b:=List.set_cons_succ
section
variable {P:Program} {ops:Array Oper} {Q:Exit->Act->World->Prop} {md:Region.Mode} {S:World->Prop}
def Jab (P:Program) (md:Region.Mode) (ops:Array Oper) (Q:Exit->Act->World->Prop) (S:World->Prop) (n g:Nat):Nat->Array Bool->Act->World->Prop
 | 0,listed,a,w=>(∀j∈Region.ready md ops listed,n<=j)/\wpAny P md ops Q g listed a w
 | f+1,listed,a,w=>Region.ready md ops listed≠[]/\∀i∈Region.ready md ops listed,wpOp P ops Q i (fun a' w'=>S w'/\Jab P md ops Q S n g f (listed.setIfInBounds i true) a' w') a w
theorem Jjy {n g:Nat} : ∀(f:Nat) (listed:Array Bool) (a:Act) (w:World),Jab P md ops Q S n g f listed a w->wpAny P md ops Q (f+g) listed a w
 | 0,listed,a,w,h=>by rw [Nat.zero_add];exact h.2
 | f+1,listed,a,w,h=>by
  rw [show f+1+g=(f+g)+1 by omega];exact⟨fun h0=>absurd h0 h.1,fun i hi=>wpOp_mono (fun a' w' h'=>Jjy f _ a' w' h'.2) (h.2 i hi)⟩
theorem Jsl {n g i:Nat} {oi:Oper} {v:Value} (hi:ops[i]?=some oi) (xv:∀(j:Nat) (o:Oper) cs b,ops[j]?=some o->o.op≠ .select cs b)
  (hs:Region.sinkB md ops n=true) (hc:Region.chainB md ops n=true) (hn:n<ops.size) (dV:i<n) (hQ:∀c a w,Q (.panic c) (a.put oi.dst v) w->Q (.panic c) a w) :
  ∀(f:Nat) (listed:Array Bool) (a:Act) (w:World),HeadInv md ops n listed->
   (∀j oj,ops[j]?=some oj->j≠i->listed.getD j true=false->(∀e∈oj.after,Region.binds md e=true->e.on≠i)->oi.apart ops oj=true)->
   i∈Region.ready md ops listed->YieldsIf P ops S oi v a->S w->
   Jab P md ops Q S n g f (listed.setIfInBounds i true) (a.put oi.dst v) w->Jab P md ops Q S n g (f+1) listed a w:=by
 intro f
 induction f with
 | zero=>
  intro listed a w inv _ hr hy hS H;have gG:=(mem_ready.1 hr).1;refine⟨fun h=>(by rw [h] at hr;cases hr),fun j hj=>?_⟩
  have hjn:j<n:=by
   exact Ucs
  by_cases jO:j=i
  ·subst jO;exact hy.wpOp hi hS ⟨hS,H⟩
  ·have:=H.1 j (ready_mono hj jO);exact Ua
 | succ f ih=>
  intro listed a w inv sm hr hy hS H;have gG:=(mem_ready.1 hr).1;refine⟨fun h=>(by rw [h] at hr;cases hr),fun j hj=>?_⟩
  have hjn:j<n:=by
   exact Ucs
  by_cases jO:j=i
  ·subst jO;exact hy.wpOp hi hS ⟨hS,H⟩
  ·have h1:=H.2 j (ready_mono hj jO);obtain⟨xw,oj,hoj,eF⟩:=mem_ready.1 hj
   have hnot:∀e∈oj.after,Region.binds md e=true->e.on≠i:=fun e he hb ou=>by
    have h2:=eF e he hb;rw [ou,getD_both gG] at h2
    cases h2
   have h2:=wpOp_putIf hoj (sm j oj hoj jO xw hnot) (fun cs b=>xv i oi cs b hi) (fun cs b=>xv j oj cs b hoj) hQ hy h1;refine wpOp_mono (fun a' w' h3=>⟨h3.2.1,ih (listed.setIfInBounds j true) a' w' (inv.set hj hjn) (fun k ok hk hki hku oG=>sm k ok hk hki ?_ oG) (ready_mono hr (Ne.symm jO)) h3.1 h3.2.1 ?_⟩) h2
   ·by_cases tB:j=k
    ·subst tB;exact xw
    ·rw [getD_set_ne true tB] at hku;exact hku
   ·rw [Array.setIfInBounds_comm _ _ jO];exact h3.2.2
def Jlx (md:Region.Mode) (ops:Array Oper) (n:Nat) (listed:Array Bool):Bool:=
 (listed.size == ops.size) && (List.range ops.size).all (fun j=>!listed.getD j false || (match ops[j]? with|some o=>o.after.all (fun e=>!Region.binds md e || listed.getD e.on false)|none=>true)) &&
  (List.range ops.size).all (fun t=>decide (t<n) || !listed.getD t true)
theorem Jqn {n:Nat} {listed:Array Bool} (h:Jlx md ops n listed=true):HeadInv md ops n listed:=by
 simp only [Jlx,Bool.and_eq_true,beq_iff_eq,List.all_eq_true,List.mem_range] at h;obtain⟨⟨h1,h2⟩,h3⟩:=h;refine⟨h1,fun j oj hj hl e he hb=>?_,fun t ht am=>?_⟩
 ·have h4:=h2 j (Array.getElem?_eq_some_iff.1 hj).1;rw [hl,hj] at h4;simp only [Bool.not_true,Bool.false_or,Array.all_eq_true_iff_forall_mem] at h4;have h5:=h4 e he;rw [hb] at h5;simpa using h5
 ·have h4:=h3 t am;rw [show decide (t<n)=false from by simpa using ht] at h4;simpa using h4
theorem Jt1 {n g i:Nat} {oi:Oper} {v:Value} {f:Nat} {listed:Array Bool} {a:Act} {w:World} (hi:ops[i]?=some oi)
  (fE:Region.noSelect ops=true) (hs:Region.sinkB md ops n=true) (hc:Region.chainB md ops n=true) (hn:decide (n<ops.size)=true) (dV:decide (i<n)=true)
  (hv:Jlx md ops n listed=true) (hf:Region.free md ops listed i=true) (hr:(Region.ready md ops listed).contains i=true)
  (hQ:∀c a w,Q (.panic c) (a.put oi.dst v) w->Q (.panic c) a w) (hy:YieldsIf P ops S oi v a) (hS:S w)
  (h:Jab P md ops Q S n g f (listed.setIfInBounds i true) (a.put oi.dst v) w):Jab P md ops Q S n g (f+1) listed a w:=
 Jsl hi (Region.noSelect_spec fE) hs hc (of_decide_eq_true hn) (of_decide_eq_true dV) hQ f listed a w (Jqn hv) (Region.free_spec hi hf) Dq hy hS h
theorem Jv9 {n g i:Nat} {oi:Oper} {f:Nat} {listed:Array Bool} {a:Act} {w:World} (hr:Region.ready md ops listed = [i]) (hi:ops[i]?=some oi) (hg:oi.guard=none)
  (h:oi.wp P a w (fun a' w'=>S w'/\Jab P md ops Q S n g f (listed.setIfInBounds i true) a' w') Q):Jab P md ops Q S n g (f+1) listed a w:=by
 refine⟨fun h0=>D8,fun j hj=>?_⟩;rw [hr] at hj;obtain rfl:=List.mem_singleton.1 hj;unfold wpOp;have hw:Region.wanted oi (yielded ops a.tmps)=true:=Dz;simp only [hi,hw,if_true];exact .inl h
theorem Ji {n g:Nat} (i:Nat) {oi:Oper} {v:Value} {f:Nat} {listed:Array Bool} {a a':Act} {w:World} (hS:S w) (h:Jab P md ops Q S n g f (listed.setIfInBounds i true) a' w)
  (hi:ops[i]?=some oi:=by simp only [List.getElem?_toArray,List.getElem?_cons_succ,List.getElem?_cons_zero];rfl) (eH:∀w,S w->(execOp a.eval oi).run P w = .ok (.value v) w:=by intro w' hSw;go_simp;first|done|with_reducible rfl)
  (iF:a.put oi.dst v=a':=by simp only [Act.put,List.setIfInBounds_toArray,List.set_cons_zero,List.set_cons_succ];first|done|rfl)
  (fE:Region.noSelect ops=true:=by kernel_rfl) (hs:Region.sinkB md ops n=true:=by kernel_rfl) (hc:Region.chainB md ops n=true:=by kernel_rfl) (hn:decide (n<ops.size)=true:=by kernel_rfl) (dV:decide (i<n)=true:=by kernel_rfl)
  (hv:Jlx md ops n listed=true:=by kernel_rfl) (hf:Region.free md ops listed i=true:=by kernel_rfl) (hr:(Region.ready md ops listed).contains i=true:=by kernel_rfl)
  (hQ:∀c a w,Q (.panic c) (a.put oi.dst v) w->Q (.panic c) a w:=by intro _ _ _ h;exact h) (hw:Region.wanted oi (yielded ops a.tmps)=true:=by rfl):Jab P md ops Q S n g (f+1) listed a w:=
 Jt1 hi fE hs hc hn dV hv hf hr hQ (.inl ⟨hw,eH⟩) hS (iF ▸ h)
theorem Kb {n g:Nat} (i:Nat) {oi:Oper} {f:Nat} {listed:Array Bool} {a:Act} {w:World} (h:oi.wp P a w (fun a' w'=>S w'/\Jab P md ops Q S n g f (listed.setIfInBounds i true) a' w') Q)
  (hr:Region.ready md ops listed = [i]:=by kernel_rfl) (hi:ops[i]?=some oi:=by simp only [List.getElem?_toArray,List.getElem?_cons_succ,List.getElem?_cons_zero];rfl) (hg:oi.guard=none:=by rfl):Jab P md ops Q S n g (f+1) listed a w:=
 Jv9 hr hi hg h
theorem Kh {n g:Nat} {listed:Array Bool} {a:Act} {w:World} (hr:Region.ready md ops listed = [n]) (h:wpAny P md ops Q g listed a w):Jab P md ops Q S n g 0 listed a w:=
 ⟨fun j hj=>by rw [hr] at hj;rw [List.mem_singleton.1 hj];exact Nat.le_refl _,h⟩
theorem Jt0 {g i:Nat} {oi:Oper} {listed:Array Bool} {a:Act} {w:World} (hr:Region.ready md ops listed = [i]) (hi:ops[i]?=some oi) (hg:oi.guard=none)
  (h:oi.wp P a w (wpAny P md ops Q g (listed.setIfInBounds i true)) Q):wpAny P md ops Q (g+1) listed a w:=by
 refine⟨fun h0=>D8,fun j hj=>?_⟩;rw [hr] at hj;obtain rfl:=List.mem_singleton.1 hj;unfold wpOp;have hw:Region.wanted oi (yielded ops a.tmps)=true:=Dz;simp only [hi,hw,if_true];exact .inl h
theorem Qx {g:Nat} (i:Nat) {oi:Oper} {listed:Array Bool} {a:Act} {w:World} (h:oi.wp P a w (wpAny P md ops Q g (listed.setIfInBounds i true)) Q)
  (hr:Region.ready md ops listed = [i]:=by kernel_rfl) (hi:ops[i]?=some oi:=by simp only [List.getElem?_toArray,List.getElem?_cons_succ,List.getElem?_cons_zero];rfl) (hg:oi.guard=none:=by rfl):wpAny P md ops Q (g+1) listed a w:=
 Jt0 hr hi hg h
theorem Ki {listed:Array Bool} {a:Act} {w:World} (hr:Region.ready md ops listed = []) (h:Q .normal a w):wpAny P md ops Q 0 listed a w:=⟨hr,h⟩
theorem Kd (S:World->Prop) (n g:Nat) {id:Nat} {a:Act} {w:World} (hm:P.follows .mixedOrders=true) (cE:ops.size=n+g)
  (h:Jab P .any ops Q S n g n (Array.replicate ops.size false) a w.drew):(Code.region id ops true).wp P Q a w:=by
 refine wp_region_any hm ?_;rw [show ops.size=n+g from cE] at h ⊢;exact Jjy n _ a _ h
theorem Jj {o:Oper} {a:Act} {w:World} {K:Act->World->Prop} (h:∀K':Act->World->Prop,(∀a w,K a w->K' a w)->o.wp P a w K' Q):o.wp P a w K Q:=h K fun _ _ h=>h
theorem Zc {Q:Exit->Act->World->Prop} {e:Exit} {a:Act} {W:World} (h:∀W0,W0=W->Q e a W0):Q e a W:=h W rfl
theorem Jgr {g:Nat} {listed:Array Bool} {a:Act} {w:World} (h:∀W0,W0=w->wpAny P md ops Q g listed a W0):wpAny P md ops Q g listed a w:=h w rfl
theorem Ys {n g f:Nat} {listed:Array Bool} {a:Act} {w:World} (h:∀W0,W0=w->Jab P md ops Q S n g f listed a W0):Jab P md ops Q S n g f listed a w:=h w rfl
end
theorem Xi (W:World) (p:Addr):W.drew.cell? p=W.cell? p:=rfl
theorem Jdn (W:World) (p:Addr):W.drew.frozen? p=W.frozen? p:=rfl
theorem J5 (W:World) (b o j:Nat) (v:Value) (h:j≠o):(W.setCell ⟨b,o,none⟩ v).cell? ⟨b,j,none⟩=W.cell? ⟨b,j,none⟩:=World.cell?_setCell_other _ _ _ _ (by intro he;injection he with e1 e2;first|exact h e2|exact h e2.symm)
theorem Qm (W:World) (b o c j:Nat) (v:Value) (h:c≠b):(W.setCell ⟨b,o,none⟩ v).cell? ⟨c,j,none⟩=W.cell? ⟨c,j,none⟩:=World.cell?_setCell_other _ _ _ _ (by intro he;injection he with e1 e2;first|exact h e1|exact h e1.symm)
theorem Jp5 {W:World} {b:Nat} {u0 u1 u2:Value} (v0 v1 v2:Value) (h0:W.cell? ⟨b,0,none⟩=some u0) (h1:W.cell? ⟨b,1,none⟩=some u1) (h2:W.cell? ⟨b,2,none⟩=some u2) :
  (((W.setCell ⟨b,0,none⟩ v0).setCell ⟨b,1,none⟩ v1).setCell ⟨b,2,none⟩ v2).cell? ⟨b,0,none⟩=some v0/\(((W.setCell ⟨b,0,none⟩ v0).setCell ⟨b,1,none⟩ v1).setCell ⟨b,2,none⟩ v2).cell? ⟨b,1,none⟩=some v1/\(((W.setCell ⟨b,0,none⟩ v0).setCell ⟨b,1,none⟩ v1).setCell ⟨b,2,none⟩ v2).cell? ⟨b,2,none⟩=some v2:=by
 refine⟨?_,?_,?_⟩
 ·rw [J5 _ _ _ _ _ Ux,J5 _ _ _ _ _ Ux];exact World.cell?_setCell_same _ _ _ h0
 ·rw [J5 _ _ _ _ _ Ux];exact World.cell?_setCell_same _ _ _ (by rw [J5 _ _ _ _ _ Ux];exact h1)
 ·exact World.cell?_setCell_same _ _ _ (by rw [J5 _ _ _ _ _ Ux,J5 _ _ _ _ _ Ux];exact h2)
theorem Qy {W:World} {b:Nat} (v0 v1 v2:Value) {c j:Nat} (h:c≠b):(((W.setCell ⟨b,0,none⟩ v0).setCell ⟨b,1,none⟩ v1).setCell ⟨b,2,none⟩ v2).cell? ⟨c,j,none⟩=W.cell? ⟨c,j,none⟩:=by rw [Qm _ _ _ _ _ _ h,Qm _ _ _ _ _ _ h,Qm _ _ _ _ _ _ h]
theorem Jev {W:World} {b:Nat} (v0 v1 v2:Value) (p:Addr):(((W.setCell ⟨b,0,none⟩ v0).setCell ⟨b,1,none⟩ v1).setCell ⟨b,2,none⟩ v2).frozen? p=W.frozen? p:=by rw [World.frozen?_setCell,World.frozen?_setCell,World.frozen?_setCell]
theorem Jsy {W:World} {b:Nat} {u0 u1 u2 u3 u4:Value} (v0 v1 v2 v3 v4:Value) (h0:W.cell? ⟨b,0,none⟩=some u0) (h1:W.cell? ⟨b,1,none⟩=some u1) (h2:W.cell? ⟨b,2,none⟩=some u2) (h3:W.cell? ⟨b,3,none⟩=some u3) (h4:W.cell? ⟨b,4,none⟩=some u4) :
  (((((W.setCell ⟨b,0,none⟩ v0).setCell ⟨b,1,none⟩ v1).setCell ⟨b,2,none⟩ v2).setCell ⟨b,3,none⟩ v3).setCell ⟨b,4,none⟩ v4).cell? ⟨b,0,none⟩=some v0/\(((((W.setCell ⟨b,0,none⟩ v0).setCell ⟨b,1,none⟩ v1).setCell ⟨b,2,none⟩ v2).setCell ⟨b,3,none⟩ v3).setCell ⟨b,4,none⟩ v4).cell? ⟨b,1,none⟩=some v1/\(((((W.setCell ⟨b,0,none⟩ v0).setCell ⟨b,1,none⟩ v1).setCell ⟨b,2,none⟩ v2).setCell ⟨b,3,none⟩ v3).setCell ⟨b,4,none⟩ v4).cell? ⟨b,2,none⟩=some v2/\(((((W.setCell ⟨b,0,none⟩ v0).setCell ⟨b,1,none⟩ v1).setCell ⟨b,2,none⟩ v2).setCell ⟨b,3,none⟩ v3).setCell ⟨b,4,none⟩ v4).cell? ⟨b,3,none⟩=some v3/\(((((W.setCell ⟨b,0,none⟩ v0).setCell ⟨b,1,none⟩ v1).setCell ⟨b,2,none⟩ v2).setCell ⟨b,3,none⟩ v3).setCell ⟨b,4,none⟩ v4).cell? ⟨b,4,none⟩=some v4:=by
 refine⟨?_,?_,?_,?_,?_⟩
 ·rw [J5 _ _ _ _ _ Ux,J5 _ _ _ _ _ Ux,J5 _ _ _ _ _ Ux,J5 _ _ _ _ _ Ux];exact World.cell?_setCell_same _ _ _ h0
 ·rw [J5 _ _ _ _ _ Ux,J5 _ _ _ _ _ Ux,J5 _ _ _ _ _ Ux];exact World.cell?_setCell_same _ _ _ (by rw [J5 _ _ _ _ _ Ux];exact h1)
 ·rw [J5 _ _ _ _ _ Ux,J5 _ _ _ _ _ Ux];exact World.cell?_setCell_same _ _ _ (by rw [J5 _ _ _ _ _ Ux,J5 _ _ _ _ _ Ux];exact h2)
 ·rw [J5 _ _ _ _ _ Ux];exact World.cell?_setCell_same _ _ _ (by rw [J5 _ _ _ _ _ Ux,J5 _ _ _ _ _ Ux,J5 _ _ _ _ _ Ux];exact h3)
 ·exact World.cell?_setCell_same _ _ _ (by rw [J5 _ _ _ _ _ Ux,J5 _ _ _ _ _ Ux,J5 _ _ _ _ _ Ux,J5 _ _ _ _ _ Ux];exact h4)
theorem Q8 {W:World} {b:Nat} (v0 v1 v2 v3 v4:Value) {c j:Nat} (h:c≠b):(((((W.setCell ⟨b,0,none⟩ v0).setCell ⟨b,1,none⟩ v1).setCell ⟨b,2,none⟩ v2).setCell ⟨b,3,none⟩ v3).setCell ⟨b,4,none⟩ v4).cell? ⟨c,j,none⟩=W.cell? ⟨c,j,none⟩:=by rw [Qm _ _ _ _ _ _ h,Qm _ _ _ _ _ _ h,Qm _ _ _ _ _ _ h,Qm _ _ _ _ _ _ h,Qm _ _ _ _ _ _ h]
theorem Ji7 {W:World} {b:Nat} (v0 v1 v2 v3 v4:Value) (p:Addr):(((((W.setCell ⟨b,0,none⟩ v0).setCell ⟨b,1,none⟩ v1).setCell ⟨b,2,none⟩ v2).setCell ⟨b,3,none⟩ v3).setCell ⟨b,4,none⟩ v4).frozen? p=W.frozen? p:=by rw [World.frozen?_setCell,World.frozen?_setCell,World.frozen?_setCell,World.frozen?_setCell,World.frozen?_setCell]
theorem Qq {m:Nat} {w W:World} {b:Nat} (v0 v1 v2:Value) (h:Below m w W) (hb:m<=b):Below m w (((W.setCell ⟨b,0,none⟩ v0).setCell ⟨b,1,none⟩ v1).setCell ⟨b,2,none⟩ v2):=(Below.setCell (Below.setCell (Below.setCell h hb _) hb _) hb _)
theorem Jdj {m:Nat} {w W:World} {b:Nat} (v0 v1 v2 v3 v4:Value) (h:Below m w W) (hb:m<=b):Below m w (((((W.setCell ⟨b,0,none⟩ v0).setCell ⟨b,1,none⟩ v1).setCell ⟨b,2,none⟩ v2).setCell ⟨b,3,none⟩ v3).setCell ⟨b,4,none⟩ v4):=(Below.setCell (Below.setCell (Below.setCell (Below.setCell (Below.setCell h hb _) hb _) hb _) hb _) hb _)
theorem Jum:(Tryz.prog.info? 29).map (fun i=>(i.zero,i.size,i.bytes))=some (some (.slice none 0 0),1,24):=Ug
theorem Ex.genL_at (sl:ByteArray->Int) (fl:Int×ByteArray->Int) (k:Int) (s:ByteArray) (c:Int×ByteArray):∀(r:List Ex) (i j:Nat) (x:Ex),r[j]?=some x->(Ex.genL sl fl k s c i r)[j]?=some (x.gen sl fl (K4 k s c (i+j)))
 | [],i,j,x,h=>Lt
 | y :: r,i,0,x,h=>by simp at h;subst h;rw [Ex.genL];rfl
 | y :: r,i,j+1,x,h=>by
  rw [Ex.genL,show i+(j+1)=i+1+j from by omega];have:=Ex.genL_at sl fl k s c r (i+1) j x Ve;simpa using this
theorem Jet {α:Type} {l:List α} (h:l.length=1):∃a,l = [a]:=by
 match l,h with
 | [a],_=>exact⟨a,rfl⟩
theorem Jew {α:Type} {l:List α} (h:l.length=2):∃a b,l = [a,b]:=by
 match l,h with
 | [a,b],_=>exact⟨a,b,rfl⟩
theorem Jmy {α:Type} {l:List α} (h:l.length=3):∃a b c,l = [a,b,c]:=by
 match l,h with
 | [a,b,c],_=>exact⟨a,b,c,rfl⟩
structure Ja8 (B:Nat) (wr:World) (v:Value) (us:List Value) (cs:List (List (Int×Int))):Prop where
 len:us.length=cs.length
 own:wr.ownsRow B 29 1 v us.length us
 each:∀(j:Nat) (u:Value) (c:List (Int×Int)),us[j]?=some u->cs[j]?=some c->wr.ownsRow B 59 2 u c.length (cdC c)/\∀b,u.ownBlock=some b->v.ownBlock≠some b
 apart:∀(i j:Nat) (u u':Value),i≠j->us[i]?=some u->us[j]?=some u'->∀b,u.ownBlock=some b->u'.ownBlock≠some b
theorem Ja8.nil {B:Nat} {wr:World} : Ja8 B wr (.slice none 0 0) [] []:=
 ⟨rfl,World.ownsRow_nil _ _ _ _,fun j u c h=>Lt,fun i j u u' _ h=>Lt⟩
theorem Ja8.step {B base:Nat} {wr w1 w2 w3:World} {v v3 u:Value} {us:List Value} {cs:List (List (Int×Int))} {c:List (Int×Int)} (h:Ja8 B wr v us cs) (hB:B<=wr.heap.size) (ac:Below wr.heap.size wr w1) (aK:wr.heap.size<=base)
  (hu:w1.ownsRow base 59 2 u c.length (cdC c)) (aq:Below w1.heap.size w1 w2) (ae:w3.ownsRow B 29 1 v3 (us.length+1) (us ++ [u])) (hg:w2.grownBy w3 v.ownBlock)
  (hv:v3.ownBlock=v.ownBlock\/∀b,v3.ownBlock=some b->w2.heap.size<=b):Ja8 B w3 v3 (us ++ [u]) (cs ++ [c]):=by
 have af:=ac.size;have br:=aq.size;have hU:∀b,v.ownBlock=some b->b<wr.heap.size:=fun b hb=>(h.own.lt b hb).2;have wM:∀b,u.ownBlock=some b->wr.heap.size<=b/\b<w1.heap.size:=fun b hb=>by have:=hu.lt b hb;omega
 have ai:=h.len
 have lV:∀(j:Nat) (x:Value),(us ++ [u])[j]?=some x->(us[j]?=some x/\j<us.length)\/(j=us.length/\x=u):=fun j x hx=>by
  rcases Nat.lt_or_ge j us.length with hj|hj
  ·rw [List.getElem?_append_left hj] at hx;exact .inl ⟨hx,hj⟩
  ·have h1:=(List.getElem?_eq_some_iff.1 hx).1;rw [List.length_append,List.length_singleton] at h1;obtain rfl:j=us.length:=Ua;rw [List.getElem?_append_right (Nat.le_refl _)] at hx;simp at hx;exact .inr ⟨rfl,hx.symm⟩
 have pt:∀(j:Nat) (x:Value),us[j]?=some x->∀b,x.ownBlock=some b->b<wr.heap.size:=fun j x hx b hb=>by
  have hj:=(List.getElem?_eq_some_iff.1 hx).1;have hc:cs[j]?=some (cs[j]' Ua):=List.getElem?_eq_getElem _;exact((h.each j x _ hx hc).1.lt b hb).2
 refine⟨by simp [ai],by simpa using ae,fun j x d hx hd=>?_,fun i j x y hij hx hy b hb he=>?_⟩
 ·rcases lV j x hx with ⟨hx,hj⟩|⟨rfl,rfl⟩
  ·rw [List.getElem?_append_left Ua] at hd;obtain⟨h1,h2⟩:=h.each j x d hx hd;exact⟨X5 (Jy (Jy h1 ac) aq) hg (Jcu h2),Jmf h2 (fun b hb=>by have:=(h1.lt b hb).2;omega) hv⟩
  ·rw [ai,List.getElem?_append_right (Nat.le_refl _)] at hd;simp at hd;subst hd;refine⟨X5 (K8 (Jy hu aq) Ua) hg (fun b hb he=>by have:=hU b hb;have:=wM b he;omega),fun b hb he=>?_⟩;have h1:=wM b hb
   rcases hv with hv|hv
   ·rw [hv] at he;have:=hU b he;omega
   ·have:=hv b he;omega
 ·rcases lV i x hx with ⟨hx1,hi⟩|⟨hi,hxu⟩ <;> rcases lV j y hy with ⟨bV,hj⟩|⟨hj,hyu⟩
  ·exact h.apart i j x y hij hx1 bV b hb he
  ·rw [hyu] at he;have:=pt i x hx1 b hb;have:=wM b he;omega
  ·rw [hxu] at hb;have:=pt j y bV b he;have:=wM b hb;omega
  ·exact Ua
theorem Ja8.at {B:Nat} {wr:World} {v:Value} {us:List Value} {cs:List (List (Int×Int))} (h:Ja8 B wr v us cs) {j:Nat} {u:Value} {c:List (Int×Int)} (hu:us[j]?=some u) (hc:cs[j]?=some c):∃A cap,u = .slice A c.length cap/\J3 wr c A cap:=
 J3.of_own (h.each j u c hu hc).1
theorem Jex (w:World) (x:Int×Int) (t:TypeId) (h:t=59:=by rfl):(w.alloc (.cells #[.int .i64 x.1,.int .i32 x.2] t)).ownsRow w.heap.size 59 2 (.slice (some ⟨w.heap.size,0,none⟩) 1 1) 1 (cdC [x]):=by
 subst h;exact⟨rfl,.inr ⟨w.heap.size,1,#[.int .i64 x.1,.int .i32 x.2],rfl,Nat.le_refl _,heap_alloc_new w _,Nat.le_refl _,U2,rfl,rfl⟩⟩
theorem Jw5 {n:Int} (h:I32 n):IntKind.i64.wrap n=n:=by unfold I32 at h;exact IntWalk.i64_in _ Ua
theorem X9.of {w W:World} {B n:Nat} {v:Value} {xs:List Value} {l:List (Int×Int)} (h:W.ownsRow B 59 2 v n xs) (hn:n=l.length) (hx:xs=cdC l) (hB:w.heap.size<=B) (hb:Below w.heap.size w W):X9 w l (.returned v) W:=by
 subst hn hx;exact⟨⟨v,rfl,K8 h hB⟩,hb⟩
theorem Ja8.aside {B:Nat} {wr w:World} {v u:Value} {us:List Value} {cs:List (List (Int×Int))} (h:Ja8 B wr v us cs) {i j:Nat} {A:Option Addr} {cap:Nat} {c:List (Int×Int)} (hij:i≠j) (hu:us[i]?=some u) (hu':us[j]?=some (.slice A c.length cap)) (hc:cs[j]?=some c) (hb:Below wr.heap.size wr w) :
  Jf1 w u.ownBlock fun W=>J3 W c A cap:=fun W hg=>by
 have h1:=X5 (Jy (h.each j _ c hu' hc).1 hb) hg (h.apart i j u _ hij hu hu');obtain⟨A',cap',hv,aY⟩:=J3.of_own h1;injection hv with e1 e2 e3;subst e1 e3;exact aY
theorem Jfv {P:World->Prop} {W1 w:World} (hP:∀W,Below W1.heap.size W1 W->P W) (hb:Below W1.heap.size W1 w) {r:Option Nat} (hr:∀b,r=some b->W1.heap.size<=b):Jf1 w r P:=fun W hg=>hP W (J2 hb hg hr hb.size)
def Jvq (L:List Va) (C:List Ce) (Av:Option Addr) (cv:Nat) (Ac:Option Addr) (cc:Nat) (x:Ex):Prop:=∀(A:Option Addr) (cap:Nat) (ck:Int) (cs:ByteArray) (w:World),Ju w L Av cv->Jbh w C Ac cc->Jt w x A cap->
 Calls Tryz.prog 30 #[.agg #[.slice Av L.length cv,.slice Ac C.length cc],exV x A cap,.agg #[.int .i64 ck,.string cs]] w (X9 w (x.gen (Jp L) (Kg C) (ck,cs)))
theorem Jus {C:List Ce} (h:C.length<=1000000) (d:Int×ByteArray):I32 (Kg C d):=by
 unfold I32 Kg
 rcases Jf3 d C 0 with h1|h1 <;> omega
theorem Js1 (L:List Va) (C:List Ce) (Av:Option Addr) (cv:Nat) (Ac:Option Addr) (cc:Nat) (hL:L.length<=1000000) (hC:C.length<=1000000) (e:Ex):e.formed=true->e.OK->e.size<=200000->Jvq L C Av cv Ac cc e:=by
 induction e using Ex.ind with
 | h e ih=>
 intro hf aw hz A cap ck cs w cR aW he
 have ih2:∀x∈e.sub,Jvq L C Av cv Ac cc x:=fun x hx=>ih x hx (Q9 hf x hx) (Ex.OK_sub aw hx) (by
  obtain⟨k,hk⟩:=List.getElem?_of_mem hx;have:=Ex.size_mem e.sub k x hk;have:=Ex.size_eq e;omega)
 have yu:I32 e.n:=by cases e;simp only [Ex.OK] at aw;exact aw.2.1
 have hfk:=hf;rw [Ex.formed_eq,Bool.and_eq_true] at hfk;have dj:=Jn3 hfk.1;have eS:=Ex.gen_len (Jp L) (Kg C) e (ck,cs);have hgE:=Ex.gen_eq (Jp L) (Kg C) e (ck,cs);have dS:=Ex.genL_len (Jp L) (Kg C) e.kind e.name (ck,cs) e.sub 0;have hpa:=Ex.genL_at (Jp L) (Kg C) e.kind e.name (ck,cs) e.sub 0;have uf:=fun s=>Jd3 hL s;have gM:=fun d=>Jus hC d;have ea:=fun s W (h:Below w.heap.size w W)=>Jdt L Av cv (.slice Ac C.length cc) s W (cR.later h);have fj:=fun W (h:Below w.heap.size w W)=>Jtu (.slice Av L.length cv) C Ac cc ck cs W (aW.later h) hC;have ai:=he.len;unfold maxLen at ai;obtain⟨bI,aD⟩:=ai;have fE:e.sub.length<=3:=Ua;have sH:=fun W=>Jg4 e A cap ck cs W Ua;generalize wu:Ex.genL (Jp L) (Kg C) e.kind e.name (ck,cs) 0 e.sub=ps at *;have jG:=Lib.hid hgE;have lo:=Lib.hid dj;have HPA:=Lib.hid hpa;have jW:=Lib.hid dS;have lW:=Lib.hid eS;clear hgE dj hpa dS wu eS hf hfk aw ih;unfold exV at *
 go_enter Tryz.func30,Tryz.ntmps30
 go_wp2_with (first|(go_at_call 56;go_loud (refine(sH _).mono ?_;rintro r wa ⟨⟨dv,rfl,ay⟩,aA⟩;obtain⟨D,cd,rfl,js,gN⟩:=Jv ay;have hcba:=Jg aA;have cN:w.heap.size+3<=wa.heap.size:=Ut)))
 refine Jo fun W0 ag=>?_;have ax:Below w.heap.size w W0:=Uo;have bD:w.heap.size+3<=W0.heap.size:=by rw [ag];exact cN
 have hyy0:w.heap.size<wa.heap.size:=Ua;have pu:w.heap.size+1<wa.heap.size:=Ua;have hyy2:w.heap.size+1+1<wa.heap.size:=Ua;have m0:W0.cell? ⟨w.heap.size,0,none⟩=some (.slice Av L.length cv):=Uc;have m1:W0.cell? ⟨w.heap.size,1,none⟩=some (.slice Ac C.length cc):=Uc;have p0:W0.cell? ⟨w.heap.size+1,0,none⟩=some (.int .i64 e.kind):=Uc;have p1:W0.cell? ⟨w.heap.size+1,1,none⟩=some (.int .i32 e.n):=Uc;have p2:W0.cell? ⟨w.heap.size+1,2,none⟩=some (.string e.name):=Uc;have p3:W0.cell? ⟨w.heap.size+1,3,none⟩=some (.slice A e.sub.length cap):=Uc;have c0:W0.cell? ⟨w.heap.size+1+1,0,none⟩=some (.int .i64 ck):=Uc;have c1:W0.cell? ⟨w.heap.size+1+1,1,none⟩=some (.string cs):=Uc;have mV:W0.ownsRow (w.heap.size+1+1+1) 55 2 (.slice D e.sub.length cd) e.sub.length (Yx e.kind e.name (ck,cs) e.sub.length):=by rw [ag];simpa using ay
 have hsi:=Jum;have hzz0:w.heap.size<W0.heap.size:=Ua;have hzz1:w.heap.size+1<W0.heap.size:=Ua;have kG:w.heap.size+1+1<W0.heap.size:=Ua;unfold maxLen at gN;clear ag hcba cN ay aA sH hyy0 pu hyy2
 go_loopw [8,9] (fun P i wr=>∃(k:Nat) (us:List Value),k<=e.sub.length/\i = .int .i64 k/\Hid (us.length=k)/\Hid (Ja8 W0.heap.size wr P us (ps.take k))/\Below W0.heap.size W0 wr) (fun _ i _=>e.sub.length-(intOf i).toNat)
 case atStart=>exact⟨0,[],Nat.zero_le _,rfl,Lib.hid rfl,Lib.hid (by rw [List.take_zero];exact Ja8.nil),Below.refl _ _⟩
 case round=>
  obtain⟨k,us,hk,rfl,hus,cP,ab⟩:=hrel;have bu:=ab.size;have hc:=Jg ab;have jl:w.heap.size<wr.heap.size:=Ua;have bV:w.heap.size+1<wr.heap.size:=Ua;have gq:w.heap.size+1+1<wr.heap.size:=Ua;have aC:Below w.heap.size w wr:=Jn ax ab Ua
  by_cases am:k<e.sub.length
  ·have hx:e.sub[k]?=some e.sub[k]:=List.getElem?_eq_getElem am;have aj:e.sub[k]∈e.sub:=List.getElem_mem am;generalize e.sub[k]=x at hx aj;have hpx:=HPA.out k x hx;rw [Nat.zero_add] at hpx;obtain⟨b,off,A',cap',rfl,d0,d1,d2,d3,hs⟩:=(he.later ax).get hx;obtain⟨dg,dcap,yv,wN,nG,_,_,pw⟩:=Kc mV Ua;injection yv with hd1' hd2' hd3';subst hd1' hd3';have aY:=Jfy e.kind e.name (ck,cs) am;have f0:=pw _ _ aY.1;have f1:=pw _ _ aY.2;have sF:=fun c1 c2 W (hb:Below W0.heap.size W0 W)=>ih2 x aj A' cap' c1 c2 W (cR.later (Jn ax hb ax.size)) (aW.later (Jn ax hb ax.size)) (hs.later hb);obtain⟨wk,ws,lD⟩:∃wk ws,K4 e.kind e.name (ck,cs) k=(wk,ws):=⟨_,_,rfl⟩;rw [lD] at hpx f0 f1;have aP:ps.take (k+1)=ps.take k ++ [x.gen (Jp L) (Kg C) (wk,ws)]:=by rw [List.take_add_one,hpx];rfl
   have hHH:=fun W hb=>sF wk ws W hb;unfold exV at hHH;dsimp only at f0 f1 hHH;have eZ:=Lib.hid aP;have xT:=Lib.hid hHH
   have hS:∀w',Below W0.heap.size W0 w'->w'.cell? ⟨w.heap.size,0,none⟩=some (.slice Av L.length cv)/\w'.cell? ⟨w.heap.size,1,none⟩=some (.slice Ac C.length cc)/\w'.cell? ⟨w.heap.size+1,3,none⟩=some (.slice (some ⟨b,off,none⟩) e.sub.length cap)/\
     w'.cell? ⟨b,off+k * 4,none⟩=some (.int .i64 x.kind)/\w'.cell? ⟨b,off+k * 4+1,none⟩=some (.int .i32 x.n)/\w'.cell? ⟨b,off+k * 4+2,none⟩=some (.string x.name)/\w'.cell? ⟨b,off+k * 4+3,none⟩=some (.slice A' x.sub.length cap')/\w'.cell? ⟨dg,k * 2,none⟩=some (.int .i64 wk)/\w'.cell? ⟨dg,k * 2+1,none⟩=some (.string ws):=fun w' hb=>
    ⟨Ja hb m0,Ja hb m1,Ja hb p3,Ja hb d0,Ja hb d1,Ja hb d2,Ja hb d3,Ja hb f0,Ja hb f1⟩
   have HS:=Lib.hid hS;have ar:=hS wr.drew (Jh ab);clear hx hpx aY pw d0 d1 d2 d3 hs f0 f1 sF lD aP hHH hS;generalize x.gen (Jp L) (Kg C) (wk,ws)=xc at *
   go_wp2_with fail
   refine Kd (fun w'=>w'.cell? ⟨w.heap.size,0,none⟩=some (.slice Av L.length cv)/\w'.cell? ⟨w.heap.size,1,none⟩=some (.slice Ac C.length cc)/\w'.cell? ⟨w.heap.size+1,3,none⟩=some (.slice (some ⟨b,off,none⟩) e.sub.length cap)/\w'.cell? ⟨b,off+k * 4,none⟩=some (.int .i64 x.kind)/\w'.cell? ⟨b,off+k * 4+1,none⟩=some (.int .i32 x.n)/\w'.cell? ⟨b,off+k * 4+2,none⟩=some (.string x.name)/\w'.cell? ⟨b,off+k * 4+3,none⟩=some (.slice A' x.sub.length cap')/\w'.cell? ⟨dg,k * 2,none⟩=some (.int .i64 wk)/\w'.cell? ⟨dg,k * 2+1,none⟩=some (.string ws)) 14 1 Ug Gd ?_;simp only [List.size_toArray,List.length_cons,List.length_nil,Nat.zero_add,Nat.reduceAdd];refine Ji 0 ar ?_;refine Ji 1 ar ?_;refine Ji 2 ar ?_;refine Ji 3 ar ?_;refine Ji 4 ar ?_;refine Ji 5 ar ?_;refine Ji 6 ar ?_;refine Ji 7 ar ?_;refine Ji 8 ar ?_;refine Ji 9 ar ?_;refine Ji 10 ar ?_;refine Kb 11 ?_;refine Jj fun K hK=>?_;go_simp;refine(xT.out wr.drew (Jh ab)).mono ?_;rintro r w1 ⟨⟨u,rfl,hu⟩,ac⟩;dsimp only;obtain⟨Au,cu,rfl,hcu1,hcu2⟩:=Jv hu;have gS:Below wr.heap.size wr w1:=Jd (Jh (Below.refl _ _)) ac;refine hK _ _ ⟨HS.out _ (Jn ab gS ab.size),?_⟩;clear hK K
   try simp only [Act.put,sa1,sa2,sa3]
   refine Kb 12 ?_;refine Jj fun K hK=>?_;go_simp;refine hK _ _ ⟨HS.out _ (Jc (Jn ab gS ab.size) _),?_⟩;clear hK K
   try simp only [Act.put,sa1,sa2,sa3]
   have af:=gS.size;refine Kb 13 ?_;refine Jez (.tmp 21) (.tmp 33) 111 rfl W0.heap.size 29 _ 1 24 Tryz.underlying111 hsi rfl Ua u8 us.length us _ 1 1 [.slice Au xc.length cu] rfl (Js (Jy cP.out.own gS)) rfl (Qr rfl rfl) Uv (by have:=hus.out;omega) Ua (by have:=ab.size;simp;omega) ?_;intro v3 w3 aE bJ iM;have aM:Below W0.heap.size W0 w3:=J2 (Jc (Jn ab gS ab.size) _) bJ (fun b hb=>(cP.out.own.lt b hb).1) Uj;have oC:=HS.out _ aM;refine⟨oC,Kh Ug ?_⟩
   try simp only [Act.put,sa1,sa2,sa3]
   refine Qx 14 ?_;refine Jj fun K hK=>?_;go_simp;refine hK _ _ ?_;clear hK K
   try simp only [Act.put,sa1,sa2,sa3]
   refine Ki Ug ?_;have HST3:=Lib.hid (cP.out.step Ua gS Ul hu (Jc (Below.refl _ _) _) aE bJ iM);clear ar oC aE bJ iM hu HS
   go_wp2_with fail
   go_roundw
   case rel=>exact⟨k+1,us ++ [.slice Au xc.length cu],Ua,Up,Lib.hid (by rw [List.length_append,hus.out];rfl),Lib.hid (by rw [eZ.out];exact HST3.out),aM⟩
   case measure=>simp [intOf];omega
  ·obtain rfl:k=e.sub.length:=Ua;obtain⟨W1,rfl⟩:∃W1,W1=wr:=⟨wr,rfl⟩;have hST:=cP.out;rw [List.take_of_length_le (by rw [jW.out];exact Nat.le_refl _)] at hST;have cJ:=Lib.hid hST;replace m0:=Ja ab m0;replace m1:=Ja ab m1;replace p0:=Ja ab p0;replace p1:=Ja ab p1;replace p2:=Ja ab p2;replace p3:=Ja ab p3;replace c0:=Ja ab c0;replace c1:=Ja ab c1;have hw64:IntKind.i64.wrap e.n=e.n:=Jw5 yu;have dV:=fun(op:Int) W=>Xo op e.n yu W;have lX:=hus.out;clear cP hST hc ih2 mV js gN hsi HPA
   rcases lo.out with ⟨hk,hl⟩|⟨hk,hl⟩|⟨hk,hl⟩|⟨hk,hl,_,_⟩|⟨hk,hl,_,_⟩|⟨hk,hl⟩|⟨hk,hl⟩|⟨hk,hl⟩|⟨hk,hl⟩|⟨hk,hl⟩
   ·have hv:e.gen (Jp L) (Kg C) (ck,cs) = [(1,e.n)]:=Vx;have t1:(e.kind == 1)=true:=Ud;have t2:(e.kind == 2)=false:=Ud;exact Uak
   ·have hv:e.gen (Jp L) (Kg C) (ck,cs) = [(1,e.n)]:=Vx;have t1:(e.kind == 1)=false:=Ud;have t2:(e.kind == 2)=true:=Ud;exact Uak
   ·have hv:e.gen (Jp L) (Kg C) (ck,cs) = [(2,Jp L e.name)]:=Vx;have t1:(e.kind == 1)=false:=Ud;have t2:(e.kind == 2)=false:=Ud;have t3:(e.kind == 3)=true:=Ud;have t4:(e.kind == 4)=false:=Ud;have t5:(e.kind == 5)=false:=Ud;have t6:(e.kind == 6)=false:=Ud;have t7:(e.kind == 7)=false:=Ud;have t10:(e.kind == 10)=false:=Ud;have HV:=Lib.hid hv;have pC:=fun W=>Xo 2 (Jp L e.name) (uf e.name) W;have dF:=fun W (hb:Below W1.heap.size W1 W)=>ea e.name W (Jn aC hb aC.size);generalize Jp L e.name=fn at *;clear hv hk hl dV lo jG lW ea fj
    go_wp2_with (first
     | (go_at_call 28;go_loud (refine(dF _ (Below.refl _ _)).mono ?_;rintro r w2 ⟨rfl,aq⟩))
     | (go_at_call 27;go_loud (refine(pC _).mono ?_;rintro r w3 ⟨rfl,aM⟩)))
    go_ret;rw [HV.out];exact X9.of (n:=1) (xs:=cdC [(2,fn)]) (Jex _ _ _) rfl rfl (by have:=aq.size;have:=aM.size;omega) (Jc (Jn (Jn aC aq aC.size) aM (by have:=aq.size;omega)) _)
   ·obtain⟨u0,rfl⟩:=Jet (lX.trans hl);obtain⟨q0,rfl⟩:=Jet (jW.out.trans hl);have hv:e.gen (Jp L) (Kg C) (ck,cs)=q0 ++ [(8,e.n)]:=Vx;have eS:=lW.out;rw [hv,List.length_append] at eS;have HV:=Lib.hid hv;have t1:(e.kind == 1)=false:=Ud;have t2:(e.kind == 2)=false:=Ud;have t3:(e.kind == 3)=false:=Ud;have t4:(e.kind == 4)=true:=Ud;have t5:(e.kind == 5)=false:=Ud;have t6:(e.kind == 6)=false:=Ud;have t7:(e.kind == 7)=false:=Ud;have t10:(e.kind == 10)=false:=Ud;obtain⟨A0,a0,rfl,kP⟩:=cJ.out.at (j:=0) rfl rfl;obtain⟨g,gc,rfl,wO,ka,eN,aG,il⟩:=Kc cJ.out.own Ul;have l0:=il 0 _ rfl;have dN:=kP.1;have dR:=kP.2.1;unfold maxLen at aG dR;clear hv hk il lo jG lW ea fj
    go_wp2_with (first
     | (at_builtin;refine K6 rfl (.tmp 55) (.tmp 58) 29 rfl W1.heap.size 59 _ 2 16 Tryz.underlying29 Qz rfl Ua (.slice none 0 0) 0 [] A0 q0.length a0 (cdC q0) rfl (World.ownsRow_nil _ _ _ _) rfl kP.2.2 (Q2 _) Ua Ua (Nat.le_refl _) ?_;intro v2 w2 ao aq;have e1:=Ja aq p1;have br:=aq.size;have hyx:w.heap.size+1<w2.heap.size:=Ua)
     | (go_at_call 27;go_loud (refine(dV 8 _).mono ?_;rintro r w3 ⟨rfl,aM⟩;have fe:=aM.size))
     | (at_builtin;refine K6 rfl (.tmp 60) (.tmp 65) 29 rfl W1.heap.size 59 _ 2 16 Tryz.underlying29 Qz rfl Ua v2 _ _ _ 1 1 (cdC [(8,e.n)]) rfl (Js (Jy ao aM)) rfl (Qr rfl rfl) (Q2 _) Ua Ua Uj ?_;intro v4 w4 cj ei))
    go_ret;rw [HV.out];exact X9.of cj Ul (by rw [Jbr];rfl) Ua (Jn aC ((Jc (aq.trans (aM.mono br)) _).trans ei) aC.size)
   ·obtain⟨u0,u1,rfl⟩:=Jew (lX.trans hl);obtain⟨q0,q1,rfl⟩:=Jew (jW.out.trans hl);have hv:e.gen (Jp L) (Kg C) (ck,cs)=q0 ++ q1 ++ [(9,e.n)]:=Vx;have eS:=lW.out;rw [hv,List.length_append,List.length_append] at eS;have HV:=Lib.hid hv;have t1:(e.kind == 1)=false:=Ud;have t2:(e.kind == 2)=false:=Ud;have t3:(e.kind == 3)=false:=Ud;have t4:(e.kind == 4)=false:=Ud;have t5:(e.kind == 5)=true:=Ud;have t6:(e.kind == 6)=false:=Ud;have t7:(e.kind == 7)=false:=Ud;have t10:(e.kind == 10)=false:=Ud;obtain⟨A0,a0,rfl,kP⟩:=cJ.out.at (j:=0) rfl rfl;obtain⟨A1,a1,rfl,pD⟩:=cJ.out.at (j:=1) rfl rfl;obtain⟨g,gc,rfl,wO,ka,eN,aG,il⟩:=Kc cJ.out.own Ul;have l0:=il 0 _ rfl;have l1:=il 1 _ rfl;have dN:=kP.1;have dR:=kP.2.1;have iI:=pD.1;have qQ:=pD.2.1;unfold maxLen at aG dR qQ;clear hv hk il lo jG lW ea fj
    go_wp2_with (first
     | (at_builtin;refine K6 rfl (.tmp 69) (.tmp 72) 29 rfl W1.heap.size 59 _ 2 16 Tryz.underlying29 Qz rfl Ua (.slice none 0 0) 0 [] A0 q0.length a0 (cdC q0) rfl (World.ownsRow_nil _ _ _ _) rfl kP.2.2 (Q2 _) Ua Ua (Nat.le_refl _) ?_;intro v2 w2 ao aq;have e2:=Ja aq l1;have br:=aq.size;have ox:g<w2.heap.size:=Ua)
     | (at_builtin;refine K6 rfl (.tmp 74) (.tmp 77) 29 rfl W1.heap.size 59 _ 2 16 Tryz.underlying29 Qz rfl Ua v2 _ _ A1 q1.length a1 (cdC q1) rfl ao rfl (pD.later aq).2.2 (Q2 _) Ua Ua br ?_;intro v5 w5 bX da;have ug:=aq.trans da;have e1:=Ja ug p1;have yx:=ug.size;have hyx:w.heap.size+1<w5.heap.size:=Ua)
     | (go_at_call 27;go_loud (refine(dV 9 _).mono ?_;rintro r w3 ⟨rfl,aM⟩;have fe:=aM.size))
     | (at_builtin;refine K6 rfl (.tmp 79) (.tmp 84) 29 rfl W1.heap.size 59 _ 2 16 Tryz.underlying29 Qz rfl Ua v5 _ _ _ 1 1 (cdC [(9,e.n)]) rfl (Js (Jy bX aM)) rfl (Qr rfl rfl) (Q2 _) Ua Ua Uj ?_;intro v4 w4 cj ei))
    go_ret;rw [HV.out];exact X9.of cj Uj (by rw [Jbr,Jbr];rfl) Ua (Jn aC ((Jc (ug.trans (aM.mono yx)) _).trans ei) aC.size)
   ·obtain⟨u0,u1,u2,rfl⟩:=Jmy (lX.trans hl);obtain⟨q0,q1,q2,rfl⟩:=Jmy (jW.out.trans hl);have hv:e.gen (Jp L) (Kg C) (ck,cs)=Yv q0 q1 q2:=Vx;have eS:=lW.out;rw [hv,Ex.choice_len] at eS;have HV:=Lib.hid hv;have t1:(e.kind == 1)=false:=Ud;have t2:(e.kind == 2)=false:=Ud;have t3:(e.kind == 3)=false:=Ud;have t4:(e.kind == 4)=false:=Ud;have t5:(e.kind == 5)=false:=Ud;have t6:(e.kind == 6)=true:=Ud;have t7:(e.kind == 7)=false:=Ud;have t10:(e.kind == 10)=false:=Ud;have eV:=cJ.out.each 0 u0 q0 rfl rfl;obtain⟨A0,a0,rfl,kP⟩:=cJ.out.at (j:=0) rfl rfl;obtain⟨A1,a1,rfl,pD⟩:=cJ.out.at (j:=1) rfl rfl;obtain⟨A2,a2,rfl,hI2⟩:=cJ.out.at (j:=2) rfl rfl;obtain⟨g,gc,rfl,wO,ka,eN,aG,il⟩:=Kc cJ.out.own Ul;have l0:=il 0 _ rfl;have l1:=il 1 _ rfl;have l2:=il 2 _ rfl;unfold maxLen at aG;have ct:Below W1.heap.size W1 W1.drew:=Jh (Below.refl _ _);have fJ:=Jf4 W0.heap.size (.slice A0 q0.length a0) q0 q1 q2 A1 a1 A2 a2 W1.drew ab.size (Kp eV.1) (cJ.out.aside (i:=0) (j:=1) Ux rfl rfl rfl ct) (cJ.out.aside (i:=0) (j:=2) Ux rfl rfl rfl ct) Ua;unfold Jcc at fJ;have aS:some g≠(Value.slice A0 q0.length a0).ownBlock:=fun he=>eV.2 g he.symm rfl;have wM:∀b,(Value.slice A0 q0.length a0).ownBlock=some b->W0.heap.size<=b:=fun b hb=>(eV.1.lt b hb).1;have HCH:=Lib.hid fJ;clear hv hk il lo jG lW ea fj fJ eV kP pD hI2 ct dV
    go_wp2_with fail
    refine Kd (fun w'=>w'.cell? ⟨g,0,none⟩=some (.slice A0 q0.length a0)/\w'.cell? ⟨g,1,none⟩=some (.slice A1 q1.length a1)/\w'.cell? ⟨g,2,none⟩=some (.slice A2 q2.length a2)) 10 1 Ug Gd ?_;simp only [List.size_toArray,List.length_cons,List.length_nil,Nat.zero_add,Nat.reduceAdd];have ar:W1.drew.cell? ⟨g,0,none⟩=some (.slice A0 q0.length a0)/\W1.drew.cell? ⟨g,1,none⟩=some (.slice A1 q1.length a1)/\W1.drew.cell? ⟨g,2,none⟩=some (.slice A2 q2.length a2):=⟨l0,l1,l2⟩;refine Ji 0 ar ?_;refine Ji 1 ar ?_;refine Ji 2 ar ?_;refine Ji 3 ar ?_;refine Ji 4 ar ?_;refine Ji 5 ar ?_;refine Ji 6 ar ?_;refine Ji 7 ar ?_;refine Ji 8 ar ?_;refine Kb 9 ?_;refine Jj fun K hK=>?_;go_simp;refine(HCH.out).mono ?_;rintro r w2 ⟨v2,rfl,hR⟩;dsimp only;have bB:W1.grownBy w2 (Value.slice A0 q0.length a0).ownBlock:=Kv (K0 (Jh (Below.refl _ _))) hR.grow;refine hK _ _ ⟨⟨Jr (bB.block g ka aS) l0,Jr (bB.block g ka aS) l1,Jr (bB.block g ka aS) l2⟩,?_⟩;clear hK K
    try simp only [Act.put,sa1,sa2,sa3]
    refine Kh Ug ?_;refine Qx 10 ?_;refine Jj fun K hK=>?_;go_simp;refine hK _ _ ?_;clear hK K
    try simp only [Act.put,sa1,sa2,sa3]
    refine Ki Ug ?_
    go_wp2_with fail
    go_ret;rw [HV.out];exact X9.of hR.own rfl rfl Ua (J2 aC bB (fun b hb=>by have:=wM b hb;omega) aC.size)
   ·obtain⟨u0,u1,rfl⟩:=Jew (lX.trans hl);obtain⟨q0,q1,rfl⟩:=Jew (jW.out.trans hl);have hv:e.gen (Jp L) (Kg C) (ck,cs)=Yv [(4,Kg C (ck,cs))] q1 q0:=Vx;have eS:=lW.out;rw [hv,Ex.choice_len] at eS;have HV:=Lib.hid hv;have t1:(e.kind == 1)=false:=Ud;have t2:(e.kind == 2)=false:=Ud;have t3:(e.kind == 3)=false:=Ud;have t4:(e.kind == 4)=false:=Ud;have t5:(e.kind == 5)=false:=Ud;have t6:(e.kind == 6)=false:=Ud;have t7:(e.kind == 7)=true:=Ud;have t10:(e.kind == 10)=false:=Ud;obtain⟨A0,a0,rfl,kP⟩:=cJ.out.at (j:=0) rfl rfl;obtain⟨A1,a1,rfl,pD⟩:=cJ.out.at (j:=1) rfl rfl;obtain⟨g,gc,rfl,wO,ka,eN,aG,il⟩:=Kc cJ.out.own Ul;have l0:=il 0 _ rfl;have l1:=il 1 _ rfl;unfold maxLen at aG;have uh:=fun W=>Xo 4 (Kg C (ck,cs)) (gM (ck,cs)) W;have hfg:=fun W (hb:Below W1.heap.size W1 W)=>fj W (Jn aC hb aC.size);have sy:=Lib.hid kP;have qT:=Lib.hid pD
    have hS:∀w',Below W1.heap.size W1 w'->w'.cell? ⟨w.heap.size,0,none⟩=some (.slice Av L.length cv)/\w'.cell? ⟨w.heap.size,1,none⟩=some (.slice Ac C.length cc)/\w'.cell? ⟨w.heap.size+1+1,0,none⟩=some (.int .i64 ck)/\w'.cell? ⟨w.heap.size+1+1,1,none⟩=some (.string cs)/\w'.cell? ⟨g,0,none⟩=some (.slice A0 q0.length a0)/\w'.cell? ⟨g,1,none⟩=some (.slice A1 q1.length a1):=fun w' hb=>
     ⟨Ja hb m0,Ja hb m1,Ja hb c0,Ja hb c1,Ja hb l0,Ja hb l1⟩
    have HS:=Lib.hid hS;have ar:=hS W1.drew (Jh (Below.refl _ _));have HFG:=Lib.hid hfg;generalize Kg C (ck,cs)=fg at *;clear hv hk il lo jG lW ea fj dV kP pD hS hfg
    go_wp2_with fail
    refine Kd (fun w'=>w'.cell? ⟨w.heap.size,0,none⟩=some (.slice Av L.length cv)/\w'.cell? ⟨w.heap.size,1,none⟩=some (.slice Ac C.length cc)/\w'.cell? ⟨w.heap.size+1+1,0,none⟩=some (.int .i64 ck)/\w'.cell? ⟨w.heap.size+1+1,1,none⟩=some (.string cs)/\w'.cell? ⟨g,0,none⟩=some (.slice A0 q0.length a0)/\w'.cell? ⟨g,1,none⟩=some (.slice A1 q1.length a1)) 12 1 Ug Gd ?_;simp only [List.size_toArray,List.length_cons,List.length_nil,Nat.zero_add,Nat.reduceAdd];refine Ji 0 ar ?_;refine Ji 1 ar ?_;refine Ji 5 ar ?_;refine Ji 6 ar ?_;refine Ji 7 ar ?_;refine Ji 8 ar ?_;refine Ji 9 ar ?_;refine Ji 10 ar ?_;refine Kb 2 ?_;refine Jj fun K hK=>?_;go_simp;refine(HFG.out W1.drew (Jh (Below.refl _ _))).mono ?_;rintro r w2 ⟨rfl,aq⟩;dsimp only;have cF:Below W1.heap.size W1 w2:=Jd (Jh (Below.refl _ _)) aq;refine hK _ _ ⟨HS.out _ cF,?_⟩;clear hK K
    try simp only [Act.put,sa1,sa2,sa3]
    refine Kb 3 ?_;refine Jj fun K hK=>?_;go_simp;refine(uh w2).mono ?_;rintro r w3 ⟨rfl,aM⟩;dsimp only;have cZ:Below W1.heap.size W1 w3:=Jd cF aM;refine hK _ _ ⟨HS.out _ cZ,?_⟩;clear hK K
    try simp only [Act.put,sa1,sa2,sa3]
    refine Kb 4 ?_;refine Jj fun K hK=>?_;go_simp;refine hK _ _ ⟨HS.out _ (Jc cZ _),?_⟩;clear hK K
    try simp only [Act.put,sa1,sa2,sa3]
    have fe:=cZ.size;have fJ:=Jf4 W1.heap.size (.slice (some ⟨w3.heap.size,0,none⟩) 1 1) [(4,fg)] q1 q0 A1 a1 A0 a0 (w3.alloc (.cells #[.int .i64 4,.int .i32 fg] 59)) Uj (K8 (Jex w3 (4,fg) 59) fe) (Jfv (fun W hb=>qT.out.later hb) (Jc cZ _) (fun b hb=>by have he:w3.heap.size=b:=Option.some.inj hb;omega)) (Jfv (fun W hb=>sy.out.later hb) (Jc cZ _) (fun b hb=>by have he:w3.heap.size=b:=Option.some.inj hb;omega)) Uj;unfold Jcc at fJ;refine Kb 11 ?_;refine Jj fun K hK=>?_;go_simp;refine(fJ).mono ?_;rintro r w5 ⟨v5,rfl,hR⟩;dsimp only;have yy:Below W1.heap.size W1 w5:=J2 (Jc cZ _) hR.grow (fun b hb=>by have he:w3.heap.size=b:=Option.some.inj hb;omega) Uj;refine hK _ _ ⟨HS.out _ yy,?_⟩;clear hK K
    try simp only [Act.put,sa1,sa2,sa3]
    refine Kh Ug ?_;refine Qx 12 ?_;exact Ubg
   ·exact Bv
   ·exact Bv
   ·obtain⟨u0,u1,rfl⟩:=Jew (lX.trans hl);obtain⟨q0,q1,rfl⟩:=Jew (jW.out.trans hl);have hv:e.gen (Jp L) (Kg C) (ck,cs)=Yv [(2,Jp L e.name)] q0 q1:=Vx;have eS:=lW.out;rw [hv,Ex.choice_len] at eS;have HV:=Lib.hid hv;have t1:(e.kind == 1)=false:=Ud;have t2:(e.kind == 2)=false:=Ud;have t3:(e.kind == 3)=false:=Ud;have t4:(e.kind == 4)=false:=Ud;have t5:(e.kind == 5)=false:=Ud;have t6:(e.kind == 6)=false:=Ud;have t7:(e.kind == 7)=false:=Ud;have t10:(e.kind == 10)=true:=Ud;obtain⟨A0,a0,rfl,kP⟩:=cJ.out.at (j:=0) rfl rfl;obtain⟨A1,a1,rfl,pD⟩:=cJ.out.at (j:=1) rfl rfl;obtain⟨g,gc,rfl,wO,ka,eN,aG,il⟩:=Kc cJ.out.own Ul;have l0:=il 0 _ rfl;have l1:=il 1 _ rfl;unfold maxLen at aG;have pC:=fun W=>Xo 2 (Jp L e.name) (uf e.name) W;have dF:=fun W (hb:Below W1.heap.size W1 W)=>ea e.name W (Jn aC hb aC.size);have sy:=Lib.hid kP;have qT:=Lib.hid pD
    have hS:∀w',Below W1.heap.size W1 w'->w'.cell? ⟨w.heap.size,0,none⟩=some (.slice Av L.length cv)/\w'.cell? ⟨w.heap.size,1,none⟩=some (.slice Ac C.length cc)/\w'.cell? ⟨w.heap.size+1,2,none⟩=some (.string e.name)/\w'.cell? ⟨g,0,none⟩=some (.slice A0 q0.length a0)/\w'.cell? ⟨g,1,none⟩=some (.slice A1 q1.length a1):=fun w' hb=>
     ⟨Ja hb m0,Ja hb m1,Ja hb p2,Ja hb l0,Ja hb l1⟩
    have HS:=Lib.hid hS;have ar:=hS W1.drew (Jh (Below.refl _ _));have sI:=Lib.hid dF;generalize Jp L e.name=fn at *;clear hv hk il lo jG lW ea fj dV kP pD hS dF
    go_wp2_with fail
    refine Kd (fun w'=>w'.cell? ⟨w.heap.size,0,none⟩=some (.slice Av L.length cv)/\w'.cell? ⟨w.heap.size,1,none⟩=some (.slice Ac C.length cc)/\w'.cell? ⟨w.heap.size+1,2,none⟩=some (.string e.name)/\w'.cell? ⟨g,0,none⟩=some (.slice A0 q0.length a0)/\w'.cell? ⟨g,1,none⟩=some (.slice A1 q1.length a1)) 13 1 Ug Gd ?_;simp only [List.size_toArray,List.length_cons,List.length_nil,Nat.zero_add,Nat.reduceAdd];refine Ji 0 ar ?_;refine Ji 1 ar ?_;refine Ji 2 ar ?_;refine Ji 6 ar ?_;refine Ji 7 ar ?_;refine Ji 8 ar ?_;refine Ji 9 ar ?_;refine Ji 10 ar ?_;refine Ji 11 ar ?_;refine Kb 3 ?_;refine Jj fun K hK=>?_;go_simp;refine(sI.out W1.drew (Jh (Below.refl _ _))).mono ?_;rintro r w2 ⟨rfl,aq⟩;dsimp only;have cF:Below W1.heap.size W1 w2:=Jd (Jh (Below.refl _ _)) aq;refine hK _ _ ⟨HS.out _ cF,?_⟩;clear hK K
    try simp only [Act.put,sa1,sa2,sa3]
    refine Kb 4 ?_;refine Jj fun K hK=>?_;go_simp;refine(pC w2).mono ?_;rintro r w3 ⟨rfl,aM⟩;dsimp only;have cZ:Below W1.heap.size W1 w3:=Jd cF aM;refine hK _ _ ⟨HS.out _ cZ,?_⟩;clear hK K
    try simp only [Act.put,sa1,sa2,sa3]
    refine Kb 5 ?_;refine Jj fun K hK=>?_;go_simp;refine hK _ _ ⟨HS.out _ (Jc cZ _),?_⟩;clear hK K
    try simp only [Act.put,sa1,sa2,sa3]
    have fe:=cZ.size;have fJ:=Jf4 W1.heap.size (.slice (some ⟨w3.heap.size,0,none⟩) 1 1) [(2,fn)] q0 q1 A0 a0 A1 a1 (w3.alloc (.cells #[.int .i64 2,.int .i32 fn] 59)) Uj (K8 (Jex w3 (2,fn) 59) fe) (Jfv (fun W hb=>sy.out.later hb) (Jc cZ _) (fun b hb=>by have he:w3.heap.size=b:=Option.some.inj hb;omega)) (Jfv (fun W hb=>qT.out.later hb) (Jc cZ _) (fun b hb=>by have he:w3.heap.size=b:=Option.some.inj hb;omega)) Uj;unfold Jcc at fJ;refine Kb 12 ?_;refine Jj fun K hK=>?_;go_simp;refine(fJ).mono ?_;rintro r w5 ⟨v5,rfl,hR⟩;dsimp only;have yy:Below W1.heap.size W1 w5:=J2 (Jc cZ _) hR.grow (fun b hb=>by have he:w3.heap.size=b:=Option.some.inj hb;omega) Uj;refine hK _ _ ⟨HS.out _ yy,?_⟩;clear hK K
    try simp only [Act.put,sa1,sa2,sa3]
    refine Kh Ug ?_;refine Qx 13 ?_;exact Ubg
theorem Jpq (W:World) (b:Nat) (d:UInt8) (c:Nat) (h:W.cell? ⟨b,0,none⟩=some (.int .u8 d.toNat)) :
  (convert 98 9 (.slice (some ⟨b,0,none⟩) 1 c)).run Tryz.prog W = .ok (.string ⟨#[d]⟩) W:=by
 rw [run_convert_bytes_string _ _ _ _ _ _ _ Tryz.underlying98 Tryz.underlying5 Tryz.underlying9]
 have oQ:(loadCells ⟨b,0,none⟩ 1).run Tryz.prog W = .ok (([d].map fun c:UInt8=>(c.toNat:Int)).map (Value.int .u8)).toArray W:=by
  have:=run_loadCells_list (P:=Tryz.prog) W ⟨b,0,none⟩ (([d].map fun c:UInt8=>(c.toNat:Int)).map (Value.int .u8)) (fun j v hj=>by
   have cQ:(⟨b,0,none⟩:Addr).add j=⟨b,0+j,none⟩:=Lq;rw [cQ]
   match j with
   | 0=>simp at hj;subst hj;exact h
   | j+1=>simp at hj)
  simpa using this
 rw [run_bytesToString _ _ _ _ _ oQ,Jlh];simp
theorem Jl1 (d:UInt8) (ds:List UInt8):(⟨#[d]⟩ ++ ⟨ds.toArray⟩:ByteArray)=⟨(d :: ds).toArray⟩:=by
 ext1;simp
theorem Jth (a:Int) (w:World) (h1 : -2147483648<=a) (h2:a<=2147483647):Calls Tryz.prog 172 #[.int .i32 a] w fun r w'=>r = .returned (.int .i64 (a.natAbs:Nat))/\w=w':=by
 by_cases h:a<0
 ·go_enter Tryz.func172,Tryz.ntmps172
  go_wp2_with fail
  go_ret;exact⟨Jm Ua,rfl⟩
 ·go_enter Tryz.func172,Tryz.ntmps172
  go_wp2_with fail
  go_ret;exact⟨Jm Ua,rfl⟩
theorem Jn0 (a:Int) (w:World) (h1 : -2147483648<=a) (h2:a<=2147483647) :
  Calls Tryz.prog 157 #[.int .i32 a] w fun r w'=>r = .returned (.string (Zn a))/\Below w.heap.size w w':=by
 have cE:=fun W=>Jth a W h1 h2;have hna:a.natAbs<10 ^ 10:=Ua
 have bH:a<0/\Zn a=⟨#[45]⟩ ++ ⟨(Jb7 10 a.natAbs []).toArray⟩\/¬a<0/\Zn a=⟨(Jb7 10 a.natAbs []).toArray⟩:=by
  unfold Zn Jgk
  by_cases h:a<0
  ·left;rw [if_pos h,Jl1];exact⟨h,rfl⟩
  ·right;rw [if_neg h];exact⟨h,rfl⟩
 have HF:=Lib.hid bH;clear bH;have HNA:=Lib.hid hna;clear hna
 go_enter Tryz.func157,Tryz.ntmps157
 go_wp2_with (go_at_call 172;refine(cE _).mono ?_;rintro r w1 ⟨rfl,rfl⟩)
 go_loopw [3,4] (fun n s wr=>∃(m f:Nat) (ds:List UInt8),n = .int .i64 m/\s = .string ⟨ds.toArray⟩/\f+1+ds.length=10/\m<10 ^ (f+1)/\Jb7 (f+1) m ds=Jb7 10 a.natAbs []/\Below w.heap.size w wr) (fun n _ _=>(intOf n).toNat)
 case atStart=>exact⟨a.natAbs,9,[],rfl,rfl,Ul,HNA.out,rfl,Jb⟩
 case round=>
  obtain⟨m,f,ds,rfl,rfl,hf,hm,aa,ab⟩:=hrel
  have xG:m<=10000000000:=by
   have:=Nat.pow_le_pow_right (n:=10) Ua (show f+1<=10 by omega);exact Ua
  have ek:ds.length<=10:=Ua;rw [Jb7] at aa
  by_cases hgt:9<m
  ·have lA:¬m / 10=0:=Ua;rw [if_neg lA] at aa
   obtain⟨g,rfl⟩:∃g,f=g+1:=⟨f-1,by
    rcases Nat.eq_zero_or_pos f with h0|h0
    ·subst h0;simp at hm;omega
    ·omega⟩
   have cI:m / 10<10 ^ (g+1):=D9
   have ky:=Jpq (wr.alloc (.cells #[.int .u8 (48+(m:Int) % 10)] 5)) wr.heap.size (UInt8.ofNat (48+m % 10)) 1 (by
    rw [cell_of_row _ _ _ _ _ _ (heap_alloc_new wr _)]
    have:((UInt8.ofNat (48+m % 10)).toNat:Int)=48+(m:Int) % 10:=by
     have h:(UInt8.ofNat (48+m % 10)).toNat=48+m % 10:=Jn5 _ Ua;exact Ua
    rw [this];rfl)
   have ra:=Jl1 (UInt8.ofNat (48+m % 10)) ds;generalize UInt8.ofNat (48+m % 10)=d at ky ra aa;have HAP:=Lib.hid ra;clear ra;have HR:=Lib.hid aa;clear aa;have HM:=Lib.hid cI;clear cI hm lA
   go_wp2_with fail
   go_roundw
   case rel=>exact⟨m / 10,g,d :: ds,Up,by rw [<-HAP.out],Uj,HM.out,HR.out,Jb⟩
   case measure=>simp [intOf];omega
  ·have lA:m / 10=0:=Ua;rw [if_pos lA,show m % 10=m from by omega] at aa
   have ky:=Jpq (wr.alloc (.cells #[.int .u8 (48+(m:Int))] 5)) wr.heap.size (UInt8.ofNat (48+m)) 1 (by
    rw [cell_of_row _ _ _ _ _ _ (heap_alloc_new wr _)]
    have:((UInt8.ofNat (48+m)).toNat:Int)=48+(m:Int):=by
     have h:(UInt8.ofNat (48+m)).toNat=48+m:=Jn5 _ Ua;exact Ua
    rw [this];rfl)
   have ra:=Jl1 (UInt8.ofNat (48+m)) ds;generalize UInt8.ofNat (48+m)=d at ky ra aa;have HAP:=Lib.hid ra;clear ra;have HR:=Lib.hid aa;clear aa lA hm
   rcases HF.out with ⟨hneg,hv⟩|⟨hneg,hv⟩
   ·exact Ucq
   ·exact Ucq
end Go.Proofs.YtknfcamdfdfoeaaGreatDoor
