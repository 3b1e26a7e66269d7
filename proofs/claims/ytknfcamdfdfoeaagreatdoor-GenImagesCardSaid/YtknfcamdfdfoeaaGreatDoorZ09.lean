/- Lemmas. -/
import Derived.Test.YtknfcamdfdfoeaaGreatDoorMac
import Derived.Test.YtknfcamdfdfoeaaGreatDoorZ08
import Derived.Test.YtknfcamdfdfoeaaGreatDoorZ02
import Derived.Test.YtknfcamdfdfoeaaGreatDoorZ03
import Derived.Test.YtknfcamdfdfoeaaGreatDoorZ07
import Derived.Test.YtknfcamdfdfoeaaGreatDoorZ05
set_option linter.unusedVariables false
set_option linter.unusedSimpArgs false
set_option maxRecDepth 100000
set_option maxHeartbeats 64000000
namespace Go.Proofs.YtknfcamdfdfoeaaGreatDoor
open Go.RowKit
theorem Jgq:∀(l:List Va) (s:ByteArray) (i j:Int),Xf l s i=some j->∃(k:Nat) (v:Va),j=i+k/\l[k]?=some v/\Xb l s=some v
 | [],_,_,_,h=>by simp [Xf] at h
 | v :: l,s,i,j,h=>by
  unfold Xf at h
  by_cases hs:s.data=v.name.data
  ·rw [if_pos hs] at h;have hj:i=j:=by injection h
   have he:v.name=s:=by ext1;exact hs.symm
   exact⟨0,v,Ua,rfl,by rw [Xb,if_pos];rw [he];simp⟩
  ·rw [if_neg hs] at h;obtain⟨k,u,h1,h2,h3⟩:=Jgq l s (i+1) j h;refine⟨k+1,u,Ua,Lg,?_⟩;rw [Xb,if_neg,h3];rw [Zf];intro he;exact hs (by rw [he])
theorem Y5 (l:List Va) (s:ByteArray):(Jp l s = -1/\Xb l s=none)\/∃(k:Nat) (v:Va),Jp l s=(k:Int)/\l[k]?=some v/\Xb l s=some v:=by
 unfold Jp Qi
 cases h:Xf l s 0 with
 | none=>exact .inl ⟨rfl,Jks l s 0 h⟩
 | some j=>
  obtain⟨k,v,h1,h2,h3⟩:=Jgq l s 0 j h;exact .inr ⟨k,v,by simp only [Option.getD_some];omega,h2,h3⟩
def Jcp (k:Int) (s:ByteArray) (v:Va):Int×ByteArray:=if k=3 then(v.ck,v.cn) else if k=8 then(1,s) else if k=9 then(2,s) else(0,⟨#[]⟩)
def Jec (l:List Va) (k:Int) (s:ByteArray) (c:Int×ByteArray):Int:=
 if s.toList.isEmpty=true then 0
 else match Xb l s with
  | none=>19
  | some v=>if K9 c.1 c.2 (Jcp k s v).1 (Jcp k s v).2=false then 21 else if k≠3/\K9 v.ck v.cn 0 ⟨#[]⟩=false then 21 else 0
theorem Jtz (a:Int) (s:ByteArray) (b:Int) (t:ByteArray):K9 a s b t=K9 b t a s:=by
 rw [Bool.eq_iff_iff,Jdg,Jdg];exact⟨fun h=>⟨h.1.symm,h.2.symm⟩,fun h=>⟨h.1.symm,h.2.symm⟩⟩
theorem Jx7 {l:List Va} {e:Ex} (hf:e.formed=true) (c:Int×ByteArray):Jec l e.kind e.name c=Jac l e.kind e.name c.1 c.2:=by
 unfold Jec
 rcases Jh0 hf with ⟨hk,hn⟩|⟨⟨h3,h8,h9,bM⟩,hn⟩
 ·rw [Jbx hn,if_neg Ul];unfold Jac Jaw Jcp
  cases Xb l e.name with
  | none=>rcases hk with hk|hk|hk|hk <;> simp [hk]
  | some v=>
   rcases hk with hk|hk|hk|hk
   ·simp only [hk,if_pos];rw [Jtz v.ck v.cn c.1 c.2]
    cases K9 c.1 c.2 v.ck v.cn <;> simp
   ·simp only [hk]
    cases h1:K9 c.1 c.2 1 e.name <;> cases h2:K9 v.ck v.cn 0 ⟨#[]⟩ <;> simp [h1]
   ·simp only [hk]
    cases h1:K9 c.1 c.2 2 e.name <;> cases h2:K9 v.ck v.cn 0 ⟨#[]⟩ <;> simp [h1]
   ·simp only [hk]
    cases h1:K9 c.1 c.2 0 ⟨#[]⟩ <;> cases h2:K9 v.ck v.cn 0 ⟨#[]⟩ <;> simp [h1]
 ·rw [hn,if_pos rfl];unfold Jac;rw [if_neg h3,if_neg h8,if_neg h9,if_neg bM]
def K4 (k:Int) (s:ByteArray) (c:Int×ByteArray) (i:Nat):Int×ByteArray:=if k=10 then(1+(i:Int),s) else if k=8\/k=9 then(0,⟨#[]⟩) else c
def Jf7 (l:List Va) (k:Int) (s:ByteArray) (c:Int×ByteArray):Nat->List Ex->Int
 | _,[]=>0
 | i,x :: r=>if x.clk l (K4 k s c i)≠0 then x.clk l (K4 k s c i) else Jf7 l k s c (i+1) r
theorem Jx5 {l:List Va} {e:Ex} (hf:e.formed=true) (c:Int×ByteArray):Ex.clkL l e.sub (Jb3 e.kind e.name c) (Ja0 e.kind e.name c)=Jf7 l e.kind e.name c 0 e.sub:=by
 by_cases hk:e.kind=10
 ·have hl:=Jfj hf hk
  match h:e.sub,hl with
  | [x,y],_=>
   simp only [Ex.clkL,Jf7,Jb3,Ja0,K4,hk];simp
 ·have aT:Jb3 e.kind e.name c=Ja0 e.kind e.name c:=by unfold Jb3 Ja0;rw [if_neg hk,if_neg hk]
  have hw:∀i,K4 e.kind e.name c i=Ja0 e.kind e.name c:=fun i=>by unfold K4 Ja0;rw [if_neg hk,if_neg hk]
  rw [aT]
  have:∀(r:List Ex) (i:Nat),Ex.clkL l r (Ja0 e.kind e.name c) (Ja0 e.kind e.name c)=Jf7 l e.kind e.name c i r:=by
   intro r
   induction r with
   | nil=>intro i;simp [Ex.clkL,Jf7]
   | cons x r ih=>intro i;rw [Ex.clkL,Jf7,hw i,ih (i+1)]
  exact this _ 0
theorem Jxr {l:List Va} {e:Ex} (hf:e.formed=true) (c:Int×ByteArray):e.clk l c=if Jec l e.kind e.name c≠0 then Jec l e.kind e.name c else Jf7 l e.kind e.name c 0 e.sub:=by
 rw [Ex.clk_eq,Jx7 hf,Jx5 hf]
def cnt (s:ByteArray):List Qe->Nat
 | []=>0
 | q :: r=>(if q.name=s then 1 else 0)+cnt s r
def occ (s:ByteArray):List Va->Nat
 | []=>0
 | v :: r=>(if s=v.name then 1 else 0)+occ s r
def Jhj (qs:List Qe):List Va->Nat
 | []=>0
 | v :: r=>cnt v.name qs+Jhj qs r
theorem Jg7 {L:List Va} : ∀(r:List Va) (k:Nat),Jah L k r=none->∀(i:Nat) (v:Va),r[i]?=some v->(Qi L v.name).getD 0=((k+i:Nat):Int)
 | [],_,_,i,v,hi=>by simp at hi
 | u :: r,k,h,i,v,hi=>by
  rw [Jah] at h
  by_cases hc:(Qi L u.name).getD 0≠(k:Int)
  ·rw [if_pos hc] at h;cases h
  ·rw [if_neg hc] at h
   cases i with
   | zero=>
    obtain rfl:u=v:=Mf;have:(Qi L u.name).getD 0=(k:Int):=Decidable.not_not.1 hc;simpa using this
   | succ i=>
    have:=Jg7 r (k+1) h i v Mf;rw [this];congr 1;omega
theorem Jhb {L:List Va} {ins:Int} {d:ByteArray->Option Int} {q:Qe} (h:eqE L ins d q=0):∃j,Qi L q.name=some j/\¬j<ins/\¬0<(d q.name).getD 0/\(q.e.typ L).2=0/\(q.e.typ L).1=Zz L j:=by
 unfold eqE at h
 cases hf:Qi L q.name with
 | none=>rw [hf] at h;simp at h
 | some j=>
  rw [hf] at h;simp only at h
  by_cases h1:j<ins
  ·rw [if_pos h1] at h;omega
  rw [if_neg h1] at h
  by_cases h2:0<(d q.name).getD 0
  ·rw [if_pos h2] at h;omega
  rw [if_neg h2] at h
  by_cases h3:(q.e.typ L).2≠0
  ·rw [if_pos h3] at h;exact absurd h h3
  rw [if_neg h3] at h
  by_cases h4:q.delay=1/\(q.first.typ L).1≠Zz L j
  ·rw [if_pos h4] at h;omega
  rw [if_neg h4] at h
  by_cases h5:(q.e.typ L).1≠Zz L j
  ·rw [if_pos h5] at h;omega
  exact⟨j,rfl,h1,h2,Decidable.not_not.1 h3,Decidable.not_not.1 h5⟩
theorem Ji0 (d:ByteArray->Option Int) (n s:ByteArray):((upd d n ((d n).getD 0+1)) s).getD 0=(d s).getD 0+((if n=s then 1 else 0:Nat):Int):=by
 unfold upd
 by_cases h:n=s
 ·subst h;simp
 ·have:¬s.data=n.data:=fun hd=>h (by ext1;exact hd.symm);rw [if_neg this,if_neg h];simp
theorem Jfq {L:List Va} {ins:Int} : ∀(r:List Qe) (k:Nat) (d:ByteArray->Option Int),(Zy L ins k d r).1=none->
  (∀s,((Zy L ins k d r).2 s).getD 0=(d s).getD 0+(cnt s r:Int))/\(∀q∈r,∃d',eqE L ins d' q=0)/\((∀s,0<=(d s).getD 0)->(∀s,(d s).getD 0<=1)->∀s,(d s).getD 0+(cnt s r:Int)<=1)
 | [],k,d,h=>⟨fun s=>by simp [Zy,cnt],Ul,fun _ h2 s=>by simpa [cnt] using h2 s⟩
 | q :: r,k,d,h=>by
  rw [Zy] at h ⊢
  by_cases hc:eqE L ins d q≠0
  ·rw [if_pos hc] at h;cases h
  ·rw [if_neg hc] at h ⊢;obtain⟨h1,h2,h3⟩:=Jfq r (k+1) _ h;have he:eqE L ins d q=0:=Decidable.not_not.1 hc;refine⟨fun s=>?_,fun x hx=>?_,fun p1 p2 s=>?_⟩
   ·rw [h1 s,Ji0,cnt];push_cast;omega
   ·rcases List.mem_cons.1 hx with rfl|hx
    ·exact⟨d,he⟩
    ·exact h2 x hx
   ·obtain⟨j,_,_,hd,_⟩:=Jhb he;have hz:(d q.name).getD 0=0:=by have:=p1 q.name;omega
    have:=h3 (fun t=>by rw [Ji0];have:=p1 t;split <;> omega) (fun t=>by
     rw [Ji0]
     split
     ·rename_i ht;subst ht;rw [hz];decide
     ·have:=p2 t;simpa using this) s
    rw [Ji0] at this;rw [cnt];push_cast;omega
theorem Jji {d:ByteArray->Option Int} : ∀(r:List Va) (k:Nat),Jam d k r=none->∀v∈r,(d v.name).getD 0≠0
 | [],_,_,v,hv=>by simp at hv
 | u :: r,k,h,v,hv=>by
  rw [Jam] at h
  by_cases hc:(d u.name).getD 0=0
  ·rw [if_pos hc] at h;cases h
  ·rw [if_neg hc] at h
   rcases List.mem_cons.1 hv with rfl|hv
   ·exact hc
   ·exact Jji r (k+1) h v hv
theorem Jmk (q:Qe) (qs:List Qe):∀r,Jhj (q :: qs) r=occ q.name r+Jhj qs r
 | []=>rfl
 | v :: r=>by simp only [Jhj,cnt,occ,Jmk q qs r];omega
theorem Jo9:∀r,Jhj [] r=0
 | []=>rfl
 | v :: r=>by simp only [Jhj,cnt,Jo9 r]
theorem Jp7 (qs:List Qe):∀r:List Va,(∀v∈r,cnt v.name qs=1)->Jhj qs r=r.length
 | [],_=>rfl
 | v :: r,h=>by rw [Jhj,h v Ul,Jp7 qs r (fun u hu=>h u Sw)];simp;omega
theorem Jo5 (r:List Va):∀qs:List Qe,(∀q∈qs,occ q.name r=1)->Jhj qs r=qs.length
 | [],_=>Jo9 r
 | q :: qs,h=>by rw [Jmk,h q Ul,Jo5 r qs (fun u hu=>h u Sw)];simp;omega
theorem Jpt (s:ByteArray):∀r:List Va,(∀u∈r,u.name≠s)->occ s r=0
 | [],_=>rfl
 | v :: r,h=>by rw [occ,if_neg (fun e=>h v Ul e.symm),Jpt s r (fun u hu=>h u Sw)]
theorem Jre (s:ByteArray):∀(r:List Va) (i:Nat) (v:Va),r[i]?=some v->v.name=s->(∀(j:Nat) (u:Va),r[j]?=some u->u.name=s->j=i)->occ s r=1
 | [],i,v,h,_,_=>Lt
 | u :: r,0,v,h,hs,hu=>by
  obtain rfl:u=v:=Ve;rw [occ,if_pos hs.symm,Jpt s r];intro x hx sd;obtain⟨j,hj⟩:=List.getElem?_of_mem hx;have:=hu (j+1) x Sg sd;exact Ua
 | u :: r,i+1,v,h,hs,hu=>by
  have aS:¬s=u.name:=fun e=>by have:=hu 0 u rfl e.symm;omega
  rw [occ,if_neg aS,Jre s r i v Ve hs (fun j x hj hx=>by have:=hu (j+1) x Sg hx;omega)]
theorem Jkj {s:ByteArray} : ∀ {r:List Qe},(∀q∈r,q.name≠s)->cnt s r=0
 | [],_=>rfl
 | q :: r,h=>by rw [cnt,if_neg (h q Ul),Jkj (fun u hu=>h u Sw)]
theorem Jyb {p:Pr} (h:J7 p=(0,0,0)) :
  (∀(i:Nat) (v:Va) (q:Qe),(Je p)[i]?=some v->q∈p.eqs->q.name=v.name->ofF q.e (Je p)=(v.type,0))/\
  (∀(i:Nat) (v:Va),(Je p)[i]?=some v->cnt v.name p.eqs=if i<p.ins.length then 0 else 1)/\p.eqs.length=p.outs.length+p.locals.length:=by
 unfold J7 at h
 by_cases he:K5 p≠0
 ·rw [if_pos he] at h;simp at h
 rw [if_neg he] at h
 by_cases hb:8<p.ins.length\/8<p.outs.length\/24<(Je p).length
 ·rw [if_pos hb] at h;simp at h
 rw [if_neg hb] at h;have jn:=Z5 (Decidable.not_not.1 he);have dn:=(X4 jn).2.2.2.2;have ai:(Je p).length=p.ins.length+p.outs.length+p.locals.length:=by simp [Je];try omega
 unfold Jhl at h
 cases hd:Jah (Je p) 0 (Je p) with
 | some k=>rw [hd] at h;simp at h
 | none=>
 rw [hd] at h;simp only at h;unfold Jkn at h
 cases hq:(Zy (Je p) p.ins.length 0 (fun _=>none) p.eqs).1 with
 | some k=>rw [hq] at h;simp at h
 | none=>
 rw [hq] at h;simp only at h;unfold Jg3 at h
 cases hm:Jam (Zy (Je p) p.ins.length 0 (fun _=>none) p.eqs).2 p.ins.length ((Je p).drop p.ins.length) with
 | some k=>rw [hm] at h;simp at h
 | none=>
 have re:=Jg7 _ _ hd;obtain⟨ak,dm,kE⟩:=Jfq _ _ _ hq;have wA:=kE (fun s=>Ul) (fun s=>Ul);have sg:=Jji _ _ hm;generalize (Je p)=L at *
 have nj:∀(q:Qe),q∈p.eqs->∃(j:Nat) (v:Va),Qi L q.name=some (j:Int)/\p.ins.length<=j/\L[j]?=some v/\v.name=q.name/\ofF q.e L=(v.type,0):=by
  intro q kB;obtain⟨d',hd'⟩:=dm q kB;obtain⟨j,h1,h2,h3,h4,h5⟩:=Jhb hd';obtain⟨k,v,rfl,hk,hn⟩:=Zi h1;refine⟨k,v,h1,Ua,hk,hn,?_⟩
  have hr:q.e.right=0:=by
   have:=dn q kB;simp only [eqB,Bool.and_eq_true] at this;simpa using this.1.2
  unfold ofF;rw [if_neg Ua];have ht:Zz L (k:Int)=v.type:=by unfold Zz;simp [hk]
  rw [ht] at h5;exact Prod.ext h5 h4
 have oI:∀(i:Nat) (v:Va) (q:Qe),L[i]?=some v->q∈p.eqs->q.name=v.name->Qi L q.name=some (i:Int):=by
  intro i v q hi kB hn;obtain⟨j,u,h1,_⟩:=nj q kB;have:=re i v hi;rw [<-hn,h1] at this;simp only [Option.getD_some] at this;rw [h1];congr 1;omega
 refine⟨fun i v q hi kB hn=>?_,fun i v hi=>?_,?_⟩
 ·obtain⟨j,u,h1,h2,h3,h4,h5⟩:=nj q kB;have:=oI i v q hi kB hn;rw [h1] at this;have jO:j=i:=by injection this with this;omega
  subst jO;rw [h3] at hi;obtain rfl:u=v:=by injection hi
  exact h5
 ·by_cases am:i<p.ins.length
  ·rw [if_pos am];refine Jkj fun q kB hn=>?_;obtain⟨j,u,h1,h2,_⟩:=nj q kB;have:=oI i v q hi kB hn;rw [h1] at this;injection this with this;exact Ua
  ·rw [if_neg am]
   have aj:v∈L.drop p.ins.length:=by
    refine Ni (i:=i-p.ins.length) ?_;rw [List.getElem?_drop];rw [show p.ins.length+(i-p.ins.length)=i from by omega];exact hi
   have h1:=sg v aj;rw [ak] at h1;have h2:=wA v.name;simp at h1 h2;omega
 ·have hL:(L.drop p.ins.length).length=p.outs.length+p.locals.length:=by rw [List.length_drop];omega
  rw [<-hL,<-Jp7 p.eqs (L.drop p.ins.length),Jo5]
  ·intro q kB;obtain⟨j,v,h1,h2,h3,h4,_⟩:=nj q kB;refine Jre q.name _ (j-p.ins.length) v ?_ h4 fun j' u hu gG=>?_
   ·rw [List.getElem?_drop,show p.ins.length+(j-p.ins.length)=j from by omega];exact h3
   ·rw [List.getElem?_drop] at hu;have:=oI _ u q hu kB gG.symm;rw [h1] at this;injection this with this;exact Ua
  ·intro v hv;obtain⟨i,hi⟩:=List.getElem?_of_mem hv;rw [List.getElem?_drop] at hi;have aj:=sg v hv;rw [ak] at aj;have h2:=wA v.name;simp at aj h2;omega
theorem Jf5 {p:Pr} (h:J7 p=(0,0,0)):∀q∈p.eqs,∃j,Qi (Je p) q.name=some j:=by
 unfold J7 at h
 by_cases he:K5 p≠0
 ·rw [if_pos he] at h;simp at h
 rw [if_neg he] at h
 by_cases hb:8<p.ins.length\/8<p.outs.length\/24<(Je p).length
 ·rw [if_pos hb] at h;simp at h
 rw [if_neg hb] at h;unfold Jhl at h
 cases hd:Jah (Je p) 0 (Je p) with
 | some k=>rw [hd] at h;simp at h
 | none=>
 rw [hd] at h;simp only at h;unfold Jkn at h
 cases hq:(Zy (Je p) p.ins.length 0 (fun _=>none) p.eqs).1 with
 | some k=>rw [hq] at h;simp at h
 | none=>
 intro q kB;obtain⟨d',hz⟩:=(Jfq p.eqs 0 _ hq).2.1 q kB;obtain⟨j,hj,_⟩:=Jhb hz;exact⟨j,hj⟩
theorem Jmn {L:List Va} {ins:Int} : ∀(r:List Qe) (k:Nat) (d:ByteArray->Option Int) (j:Nat) (e:Int),(Zy L ins k d r).1=some (j,e)->e≠0
 | [],k,d,j,e,h=>by simp [Zy] at h
 | q :: r,k,d,j,e,h=>by
  rw [Zy] at h
  by_cases hc:eqE L ins d q≠0
  ·exact Uc2
  ·rw [if_neg hc] at h;exact Jmn r _ _ j e h
theorem Jrg {p:Pr} (h:J7 p≠(0,0,0)):(J7 p).2.2≠0:=by
 unfold J7 at h ⊢
 by_cases he:K5 p≠0
 ·rw [if_pos he];exact he
 rw [if_neg he] at h ⊢
 by_cases hb:8<p.ins.length\/8<p.outs.length\/24<(Je p).length
 ·rw [if_pos hb];decide
 rw [if_neg hb] at h ⊢;unfold Jhl at h ⊢
 cases hd:Jah (Je p) 0 (Je p) with
 | some k=>simp
 | none=>
 rw [hd] at h;simp only at h ⊢;unfold Jkn at h ⊢
 cases hq:(Zy (Je p) p.ins.length 0 (fun _=>none) p.eqs).1 with
 | some k=>exact Jmn _ _ _ _ _ hq
 | none=>
 rw [hq] at h;simp only at h ⊢;unfold Jg3 at h ⊢
 cases hm:Jam (Zy (Je p) p.ins.length 0 (fun _=>none) p.eqs).2 p.ins.length ((Je p).drop p.ins.length) with
 | some k=>simp
 | none=>rw [hm] at h;simp at h
end Go.Proofs.YtknfcamdfdfoeaaGreatDoor
namespace Go.Proofs.YtknfcamdfdfoeaaGreatDoor
open Go.RowKit Go.Sort
theorem Jpp (v:Va) (w:World):Calls Tryz.prog 85 #[vaV v] w fun r w'=>r = .returned (.bool (K9 v.ck v.cn 0 ⟨#[]⟩))/\Below w.heap.size w w':=by
 have fM:=Jbt;have dp:=fun w=>Zt v.ck v.cn 0 ⟨#[]⟩ w;unfold vaV
 cases hq:K9 v.ck v.cn 0 ⟨#[]⟩
 ·exact Ucx
 ·exact Ucx
theorem Js7 (e:Ex) (Ae:Option Addr) (ce:Nat) (ck:Int) (cn:ByteArray) (l:List Va) (A:Option Addr) (cap:Nat) (w:World) (hl:Ju w l A cap) :
  Calls Tryz.prog 140 #[exV e Ae ce,.agg #[.int .i64 ck,.string cn],.slice A l.length cap] w fun r w'=>r = .returned (.int .i64 (Jec l e.kind e.name (ck,cn)))/\Below w.heap.size w w':=by
 have ap:=fun W h=>Xa l A cap e.name W (hl.later h);have fM:=Jbt;have hv:Jec l e.kind e.name (ck,cn)=Jec l e.kind e.name (ck,cn):=rfl;rw (occs:= .pos [2]) [Jec] at hv;have cY:=hl.len;unfold maxLen at cY;obtain⟨fH,fI⟩:=cY;unfold exV
 cases aL:e.name.toList.isEmpty
 case true=>
  rw [aL,if_pos rfl] at hv;have HV:=Nf hv;clear hv
  go_enter Tryz.func140,Tryz.ntmps140
  exact Uc9
 rw [aL,if_neg Ul] at hv
 rcases Y5 l e.name with ⟨cL,eB⟩|⟨k,v,cL,hx,eB⟩
 ·rw [eB] at hv;rw [cL] at ap;dsimp only at hv;clear cL eB;have HV:=Nf hv;clear hv
  go_enter Tryz.func140,Tryz.ntmps140
  go_wp2_with (first|(go_at_call 49;refine mo (ap _ Jb) fun w1 ac ak af bV=>?_;(try simp at af)))
  exact Udf
 rw [eB] at hv;rw [cL] at ap;dsimp only at hv;clear cL eB;have fR:k<l.length:=(Nh hx).1;have le:(k:Int)<(l.length:Int):=Ua;have tkk:¬((k:Int)<0):=Ua;obtain⟨b,off,rfl,aH,⟨d0,d1,d2,d3⟩⟩:=hl.get hx;have aK:=fun W=>Jpp v W;unfold vaV at aK;have jU:b<w.heap.size+1:=Ua;have bG:b<w.heap.size+1+1:=Ua;clear hx
 by_cases h3:e.kind=3
 ·have q3:(e.kind == 3)=true:=by rw [h3];rfl
  have n3:(e.kind != 3)=false:=by rw [h3];rfl
  have dp:=fun w=>Zt ck cn v.ck v.cn w;have ig:Jcp e.kind e.name v=(v.ck,v.cn):=by unfold Jcp;rw [if_pos h3]
  rw [ig] at hv;clear ig;dsimp only at hv
  cases hq:K9 ck cn v.ck v.cn
  ·rw [hq] at dp hv;rw [if_pos rfl] at hv;exact Uer
  ·rw [hq] at dp hv;rw [if_neg Ul,if_neg (by rintro⟨h,_⟩;exact h h3)] at hv;exact Uer
 have q3:(e.kind == 3)=false:=Sz;have n3:(e.kind != 3)=true:=Sz
 have tu:∀(wk:Int) (ws:ByteArray),Jcp e.kind e.name v=(wk,ws)->(∀b0:Bool,K9 v.ck v.cn 0 ⟨#[]⟩=b0->K9 ck cn wk ws=true->(b0=false->Jec l e.kind e.name (ck,cn)=21)/\(b0=true->Jec l e.kind e.name (ck,cn)=0))/\(K9 ck cn wk ws=false->Jec l e.kind e.name (ck,cn)=21):=by
  intro wk ws hw;rw [hw] at hv;dsimp only at hv;refine⟨fun b0 ax hq=>?_,fun hq=>?_⟩
  ·rw [hq,if_neg Ul,ax] at hv;refine⟨fun h=>?_,fun h=>?_⟩
   ·subst h;rw [hv,if_pos ⟨h3,rfl⟩]
   ·subst h;rw [hv,if_neg (by rintro⟨_,h⟩;simp at h)]
  ·rw [hq,if_pos rfl] at hv;exact hv
 clear hv;have HC:=Nf tu;clear tu
 by_cases h8:e.kind=8
 ·have q8:(e.kind == 8)=true:=by rw [h8];rfl
  have ig:Jcp e.kind e.name v=(1,e.name):=by unfold Jcp;rw [if_neg h3,if_pos h8]
  clear h3 h8;have dp:=fun w=>Zt ck cn (1) (e.name) w
  cases hq:K9 ck cn (1) (e.name)
  ·exact Ueq
  ·exact Uek
 have q8:(e.kind == 8)=false:=Dp
 by_cases h9:e.kind=9
 ·have q9:(e.kind == 9)=true:=by rw [h9];rfl
  have ig:Jcp e.kind e.name v=(2,e.name):=by unfold Jcp;rw [if_neg h3,if_neg h8,if_pos h9]
  clear h3 h8 h9;have dp:=fun w=>Zt ck cn (2) (e.name) w
  cases hq:K9 ck cn (2) (e.name)
  ·exact Ueq
  ·exact Uek
 have q9:(e.kind == 9)=false:=by simpa using h9
 have ig:Jcp e.kind e.name v=(0,⟨#[]⟩):=by unfold Jcp;rw [if_neg h3,if_neg h8,if_neg h9]
 clear h3 h8 h9;have dp:=fun w=>Zt ck cn (0) (⟨#[]⟩) w
 cases hq:K9 ck cn (0) (⟨#[]⟩)
 ·exact Ueq
 ·exact Uek
theorem Jes:(Tryz.prog.info? 55).map (fun i=>(i.zero,i.size,i.bytes))=some (some (.agg #[.int .i64 0,.string ⟨#[]⟩]),2,24):=Ug
def Jco (k:Int) (s:ByteArray) (c:Int×ByteArray) (i:Nat):List Value:=[.int .i64 (K4 k s c i).1,.string (K4 k s c i).2]
def Yx (k:Int) (s:ByteArray) (c:Int×ByteArray) (n:Nat):List Value:=(List.range n).flatMap (Jco k s c)
theorem Jbs (k:Int) (s:ByteArray) (c:Int×ByteArray) (n:Nat):Yx k s c (n+1)=Yx k s c n ++ Jco k s c n:=by
 unfold Yx;rw [List.range_succ,List.flatMap_append];simp
theorem Jsi (k:Int) (s:ByteArray) (c:Int×ByteArray) (n:Nat):(Yx k s c n).length=n * 2:=by
 induction n with
 | zero=>rfl
 | succ n ih=>rw [Jbs,Nk,ih];simp [Jco];omega
theorem Jfy (k:Int) (s:ByteArray) (c:Int×ByteArray) {n i:Nat} (hi:i<n):(Yx k s c n)[i * 2]?=some (.int .i64 (K4 k s c i).1)/\(Yx k s c n)[i * 2+1]?=some (.string (K4 k s c i).2):=by
 induction n with
 | zero=>omega
 | succ n ih=>
  rw [Jbs];have hl:=Jsi k s c n
  rcases Nat.lt_or_ge i n with h|h
  ·rw [List.getElem?_append_left Ua,List.getElem?_append_left Ua];exact ih h
  ·obtain rfl:i=n:=Ua;rw [List.getElem?_append_right Ua,List.getElem?_append_right Ua,hl];simp [Jco]
theorem Jg4 (e:Ex) (Ae:Option Addr) (ce:Nat) (ck:Int) (cn:ByteArray) (w:World) (hn:e.sub.length<=1000000) :
  Calls Tryz.prog 56 #[exV e Ae ce,.agg #[.int .i64 ck,.string cn]] w fun r w'=>(∃v,r = .returned v/\w'.ownsRow w.heap.size 55 2 v e.sub.length (Yx e.kind e.name (ck,cn) e.sub.length))/\Below w.heap.size w w':=by
 unfold exV
 by_cases bM:e.kind=10
 ·have q8:(e.kind == 8)=false:=Sp;have q9:(e.kind == 9)=false:=Sp;have q10:(e.kind == 10)=true:=Sp;have hw:∀i:Nat,Jco e.kind e.name (ck,cn) i = [.int .i64 (1+(i:Int)),.string e.name]:=fun i=>by unfold Jco K4;rw [if_pos bM]
  clear bM;have HW:=Nf hw;clear hw
  go_enter Tryz.func56,Tryz.ntmps56
  go_wp2_with fail
  refine Jo fun W0 ag=>?_;have ax:=Nd w W0 Uo;have bD:w.heap.size<W0.heap.size:=Us;have p0:=Na W0 w.heap.size 0 e.kind Uc;have p2:=Nb W0 w.heap.size 2 (.string e.name) Uc;have p3:=Nb W0 w.heap.size 3 (.slice Ae e.sub.length ce) Uc;have c0:=Na W0 (w.heap.size+1) 0 ck Uc;have c1:=Nb W0 (w.heap.size+1) 1 (.string cn) Uc;have iq:w.heap.size+1<W0.heap.size:=Us;clear ag
  go_loopw [5,6] (fun v i wr=>∃(k:Nat),k<=e.sub.length/\i = .int .i64 k/\wr.ownsRow W0.heap.size 55 2 v k (Yx e.kind e.name (ck,cn) k)/\Below W0.heap.size W0 wr) (fun _ i _=>e.sub.length-(intOf i).toNat)
  case atStart=>exact⟨0,Np,rfl,Nw,Nt⟩
  case round=>
   obtain⟨k,hk,rfl,ae,ab⟩:=hrel;have hc:=Jg ab;have bu:=ab.size;have eV:=lt0 w wr;have fF:=ltA w 1 wr
   by_cases am:k<e.sub.length
   ·go_wp2_with (first|(at_builtin;(refine Kap rfl (.tmp 33) (.tmp 35) 122 rfl W0.heap.size 55 _ 2 24 Tryz.underlying122 Jes rfl Ua u5 k (Yx e.kind e.name (ck,cn) k) _ 1 [.int .i64 (1+(k:Int)),.string e.name] rfl Udp rfl rfl (fun j u hj=>Udt) Uv Ua Ua U7 ?_;intro v2 w2 ao aq;have br:=aq.size;(try simp at br))))
    exact Ua8
   ·obtain rfl:k=e.sub.length:=Ua
    go_wp2_with fail
    go_ret;exact⟨⟨_,rfl,K8 ae Ua⟩,Jb⟩
 have q10:(e.kind == 10)=false:=Fb
 by_cases h8:e.kind=8
 ·have q8:(e.kind == 8)=true:=by rw [h8];rfl
  have hw:∀i:Nat,Jco e.kind e.name (ck,cn) i = [.int .i64 0,.string ⟨#[]⟩]:=fun i=>by unfold Jco K4;rw [if_neg bM,if_pos (.inl h8)]
  clear bM h8;exact Uad
 have q8:(e.kind == 8)=false:=Dp
 by_cases h9:e.kind=9
 ·have q9:(e.kind == 9)=true:=by rw [h9];rfl
  have hw:∀i:Nat,Jco e.kind e.name (ck,cn) i = [.int .i64 0,.string ⟨#[]⟩]:=fun i=>by unfold Jco K4;rw [if_neg bM,if_pos (.inr h9)]
  clear bM h8 h9;exact Uad
 have q9:(e.kind == 9)=false:=by simpa using h9
 have hw:∀i:Nat,Jco e.kind e.name (ck,cn) i = [.int .i64 ck,.string cn]:=fun i=>by unfold Jco K4;rw [if_neg bM,if_neg Ua]
 clear bM h8 h9;have HW:=Nf hw;clear hw
 go_enter Tryz.func56,Tryz.ntmps56
 go_wp2_with fail
 refine Jo fun W0 ag=>?_;have ax:=Nd w W0 Uo;have bD:w.heap.size<W0.heap.size:=Us;have p0:=Na W0 w.heap.size 0 e.kind Uc;have p2:=Nb W0 w.heap.size 2 (.string e.name) Uc;have p3:=Nb W0 w.heap.size 3 (.slice Ae e.sub.length ce) Uc;have c0:=Na W0 (w.heap.size+1) 0 ck Uc;have c1:=Nb W0 (w.heap.size+1) 1 (.string cn) Uc;have iq:w.heap.size+1<W0.heap.size:=Us;clear ag
 go_loopw [5,6] (fun v i wr=>∃(k:Nat),k<=e.sub.length/\i = .int .i64 k/\wr.ownsRow W0.heap.size 55 2 v k (Yx e.kind e.name (ck,cn) k)/\Below W0.heap.size W0 wr) (fun _ i _=>e.sub.length-(intOf i).toNat)
 case atStart=>exact⟨0,Np,rfl,Nw,Nt⟩
 case round=>
  obtain⟨k,hk,rfl,ae,ab⟩:=hrel;have hc:=Jg ab;have bu:=ab.size;have eV:=lt0 w wr;have fF:=ltA w 1 wr
  by_cases am:k<e.sub.length
  ·go_wp2_with (first|(at_builtin;(refine Kap rfl (.tmp 33) (.tmp 35) 122 rfl W0.heap.size 55 _ 2 24 Tryz.underlying122 Jes rfl Ua u5 k (Yx e.kind e.name (ck,cn) k) _ 1 [.int .i64 ck,.string cn] rfl Udp rfl rfl (fun j u hj=>Udt) Uv Ua Ua U7 ?_;intro v2 w2 ao aq;have br:=aq.size;(try simp at br))))
   exact Ua8
  ·obtain rfl:k=e.sub.length:=Ua
   go_wp2_with fail
   go_ret;exact⟨⟨_,rfl,K8 ae Ua⟩,Jb⟩
end Go.Proofs.YtknfcamdfdfoeaaGreatDoor
