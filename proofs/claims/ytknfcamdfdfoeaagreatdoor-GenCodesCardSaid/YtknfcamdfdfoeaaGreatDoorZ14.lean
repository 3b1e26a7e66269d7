/- Lemmas. -/
import Derived.Test.YtknfcamdfdfoeaaGreatDoorMac
import Derived.Test.YtknfcamdfdfoeaaGreatDoorZ13
import Derived.Test.YtknfcamdfdfoeaaGreatDoorZ10
import Derived.Test.YtknfcamdfdfoeaaGreatDoorZ09
import Derived.Test.YtknfcamdfdfoeaaGreatDoorZ01
import Derived.RegionTactic
import Derived.BigRegion
set_option linter.unusedVariables false
set_option linter.unusedSimpArgs false
set_option maxRecDepth 100000
set_option maxHeartbeats 64000000
namespace Go.Proofs.YtknfcamdfdfoeaaGreatDoor
open Go.RowKit Go.Sort
theorem Jep {p:Pr} (h:Qw p=true):∀v∈Je p,Jb8 v:=by
 obtain⟨_,h1,h2,h3,_⟩:=X4 h;intro v hv;simp only [Je,List.mem_append] at hv
 rcases hv with (hv|hv)|hv
 ·exact h1 v hv
 ·exact h2 v hv
 ·exact h3 v hv
theorem Z5 {p:Pr} (h:K5 p=0):Qw p=true:=by
 unfold K5 at h
 split at h
 ·exact Ua
 ·rename_i h2;simpa using h2
theorem Jun (p:Pr) (a:PrA) (w:World) (hp:Kr w p a) (n1:p.ins.length<=1000000) (n2:p.outs.length<=1000000) (n3:p.locals.length<=1000000) (n4:p.eqs.length<=1000000) (he:K5 p=0)
  (dP:8<p.ins.length\/8<p.outs.length\/24<(Je p).length) :
  Calls Tryz.prog 75 #[prV p a] w fun r w'=>r = .returned (fV (J7 p))/\Below w.heap.size w w':=by
 have hv:J7 p=(4,0,3):=by unfold J7;rw [if_neg Ua,if_pos dP]
 have bN:=fun W h=>Jh3 p a W (hp.later h) n1 n2 n3 n4;have aJ:=fun W h=>Jcv p a W (hp.later h) n1 n2 n3;rw [he] at bN;clear he;obtain⟨A1,c1,A2,c2,A3,c3,A4,c4⟩:=a;unfold prV at *;unfold fV;dsimp only at *;have aO:True:=trivial
 by_cases g1:8<p.ins.length
 ·exact Bh
 by_cases g2:8<p.outs.length
 ·exact Bh
 have g3:24<(Je p).length:=Ua;clear dP;have HV:=Lib.hid hv;clear hv
 go_enter Tryz.func75,Tryz.ntmps75
 go_wp2_with (first|(go_at_call 110;refine(bN _ Jb).mono ?_;rintro r wa ⟨rfl,aA⟩;have aW:=Jg aA;have bS:=Jf aA;have cN:w.heap.size+2<=wa.heap.size:=Ut;have dG:w.heap.size<wa.heap.size:=Ua;have mj:w.heap.size+1<wa.heap.size:=Ua)|(go_at_call 42;refine(aJ _ Jb).mono ?_;rintro r wb ⟨⟨A,cap,rfl,ae⟩,aH⟩;have el:=Jg aH;have mJ:=Jf aH;have dH:=aH.size;have cA:w.heap.size<wb.heap.size:=Ua;have mm:w.heap.size+1<wb.heap.size:=Ua;have cR:=Ju.of_own ae)|(go_at_call 111;refine(aO _ _ _ (cR.later Jb)).mono ?_;rintro r wc ⟨⟨B,rfl,hB,kg⟩,bU⟩;have cB:=Jg bU;have eB:=Jf bU;have iG:=bU.size;have kh:w.heap.size<wc.heap.size:=Ua;have uE:w.heap.size+1<wc.heap.size:=Ua))
 refine bodyPost_ret (v:= .agg #[.int .i64 (4),.int .i64 (0),.int .i64 (3)]) Vy rfl ⟨Vp,?_⟩;exact Km
end Go.Proofs.YtknfcamdfdfoeaaGreatDoor
namespace Go.Proofs.YtknfcamdfdfoeaaGreatDoor
open Go.RowKit
def cnt (s:ByteArray):List Qe->Nat
 | []=>0
 | q :: r=>(if q.name=s then 1 else 0)+cnt s r
def occ (s:ByteArray):List Va->Nat
 | []=>0
 | v :: r=>(if s=v.name then 1 else 0)+occ s r
def Jhj (qs:List Qe):List Va->Nat
 | []=>0
 | v :: r=>cnt v.name qs+Jhj qs r
theorem Jg7 {L:List Va} : ∀(r:List Va) (k:Nat),Jah L k r=none->∀(i:Nat) (v:Va),r[i]?=some v->(Qi L v.name).getD 0=((k+i:Nat):Int)
 | [],_,_,i,v,hi=>by simp at hi
 | u :: r,k,h,i,v,hi=>by
  rw [Jah] at h
  by_cases hc:(Qi L u.name).getD 0≠(k:Int)
  ·rw [if_pos hc] at h;cases h
  ·rw [if_neg hc] at h
   cases i with
   | zero=>
    obtain rfl:u=v:=Mf;have:(Qi L u.name).getD 0=(k:Int):=Decidable.not_not.1 hc;simpa using this
   | succ i=>
    have:=Jg7 r (k+1) h i v Mf;rw [this];congr 1;omega
theorem Jhb {L:List Va} {ins:Int} {d:ByteArray->Option Int} {q:Qe} (h:eqE L ins d q=0):∃j,Qi L q.name=some j/\¬j<ins/\¬0<(d q.name).getD 0/\(q.e.typ L).2=0/\(q.e.typ L).1=Zz L j:=by
 unfold eqE at h
 cases hf:Qi L q.name with
 | none=>rw [hf] at h;simp at h
 | some j=>
  rw [hf] at h;simp only at h
  by_cases h1:j<ins
  ·rw [if_pos h1] at h;omega
  rw [if_neg h1] at h
  by_cases h2:0<(d q.name).getD 0
  ·rw [if_pos h2] at h;omega
  rw [if_neg h2] at h
  by_cases h3:(q.e.typ L).2≠0
  ·rw [if_pos h3] at h;exact absurd h h3
  rw [if_neg h3] at h
  by_cases h4:q.delay=1/\(q.first.typ L).1≠Zz L j
  ·rw [if_pos h4] at h;omega
  rw [if_neg h4] at h
  by_cases h5:(q.e.typ L).1≠Zz L j
  ·rw [if_pos h5] at h;omega
  exact⟨j,rfl,h1,h2,Decidable.not_not.1 h3,Decidable.not_not.1 h5⟩
theorem Ji0 (d:ByteArray->Option Int) (n s:ByteArray):((upd d n ((d n).getD 0+1)) s).getD 0=(d s).getD 0+((if n=s then 1 else 0:Nat):Int):=by
 unfold upd
 by_cases h:n=s
 ·subst h;simp
 ·have:¬s.data=n.data:=fun hd=>h (by ext1;exact hd.symm);rw [if_neg this,if_neg h];simp
theorem Jfq {L:List Va} {ins:Int} : ∀(r:List Qe) (k:Nat) (d:ByteArray->Option Int),(Zy L ins k d r).1=none->
  (∀s,((Zy L ins k d r).2 s).getD 0=(d s).getD 0+(cnt s r:Int))/\(∀q∈r,∃d',eqE L ins d' q=0)/\((∀s,0<=(d s).getD 0)->(∀s,(d s).getD 0<=1)->∀s,(d s).getD 0+(cnt s r:Int)<=1)
 | [],k,d,h=>⟨fun s=>by simp [Zy,cnt],Ul,fun _ h2 s=>by simpa [cnt] using h2 s⟩
 | q :: r,k,d,h=>by
  rw [Zy] at h ⊢
  by_cases hc:eqE L ins d q≠0
  ·rw [if_pos hc] at h;cases h
  ·rw [if_neg hc] at h ⊢;obtain⟨h1,h2,h3⟩:=Jfq r (k+1) _ h;have he:eqE L ins d q=0:=Decidable.not_not.1 hc;refine⟨fun s=>?_,fun x hx=>?_,fun p1 p2 s=>?_⟩
   ·rw [h1 s,Ji0,cnt];push_cast;omega
   ·rcases List.mem_cons.1 hx with rfl|hx
    ·exact⟨d,he⟩
    ·exact h2 x hx
   ·obtain⟨j,_,_,hd,_⟩:=Jhb he;have hz:(d q.name).getD 0=0:=by have:=p1 q.name;omega
    have:=h3 (fun t=>by rw [Ji0];have:=p1 t;split <;> omega) (fun t=>by
     rw [Ji0]
     split
     ·rename_i ht;subst ht;rw [hz];decide
     ·have:=p2 t;simpa using this) s
    rw [Ji0] at this;rw [cnt];push_cast;omega
theorem Jji {d:ByteArray->Option Int} : ∀(r:List Va) (k:Nat),Jam d k r=none->∀v∈r,(d v.name).getD 0≠0
 | [],_,_,v,hv=>by simp at hv
 | u :: r,k,h,v,hv=>by
  rw [Jam] at h
  by_cases hc:(d u.name).getD 0=0
  ·rw [if_pos hc] at h;cases h
  ·rw [if_neg hc] at h
   rcases List.mem_cons.1 hv with rfl|hv
   ·exact hc
   ·exact Jji r (k+1) h v hv
theorem Jmk (q:Qe) (qs:List Qe):∀r,Jhj (q :: qs) r=occ q.name r+Jhj qs r
 | []=>rfl
 | v :: r=>by simp only [Jhj,cnt,occ,Jmk q qs r];omega
theorem Jo9:∀r,Jhj [] r=0
 | []=>rfl
 | v :: r=>by simp only [Jhj,cnt,Jo9 r]
theorem Jp7 (qs:List Qe):∀r:List Va,(∀v∈r,cnt v.name qs=1)->Jhj qs r=r.length
 | [],_=>rfl
 | v :: r,h=>by rw [Jhj,h v Ul,Jp7 qs r (fun u hu=>h u Sw)];simp;omega
theorem Jo5 (r:List Va):∀qs:List Qe,(∀q∈qs,occ q.name r=1)->Jhj qs r=qs.length
 | [],_=>Jo9 r
 | q :: qs,h=>by rw [Jmk,h q Ul,Jo5 r qs (fun u hu=>h u Sw)];simp;omega
theorem Jpt (s:ByteArray):∀r:List Va,(∀u∈r,u.name≠s)->occ s r=0
 | [],_=>rfl
 | v :: r,h=>by rw [occ,if_neg (fun e=>h v Ul e.symm),Jpt s r (fun u hu=>h u Sw)]
theorem Jre (s:ByteArray):∀(r:List Va) (i:Nat) (v:Va),r[i]?=some v->v.name=s->(∀(j:Nat) (u:Va),r[j]?=some u->u.name=s->j=i)->occ s r=1
 | [],i,v,h,_,_=>Lt
 | u :: r,0,v,h,hs,hu=>by
  obtain rfl:u=v:=Ve;rw [occ,if_pos hs.symm,Jpt s r];intro x hx sd;obtain⟨j,hj⟩:=List.getElem?_of_mem hx;have:=hu (j+1) x Sg sd;exact Ua
 | u :: r,i+1,v,h,hs,hu=>by
  have aS:¬s=u.name:=fun e=>by have:=hu 0 u rfl e.symm;omega
  rw [occ,if_neg aS,Jre s r i v Ve hs (fun j x hj hx=>by have:=hu (j+1) x Sg hx;omega)]
theorem Jkj {s:ByteArray} : ∀ {r:List Qe},(∀q∈r,q.name≠s)->cnt s r=0
 | [],_=>rfl
 | q :: r,h=>by rw [cnt,if_neg (h q Ul),Jkj (fun u hu=>h u Sw)]
theorem Jyb {p:Pr} (h:J7 p=(0,0,0)) :
  (∀(i:Nat) (v:Va) (q:Qe),(Je p)[i]?=some v->q∈p.eqs->q.name=v.name->ofF q.e (Je p)=(v.type,0))/\
  (∀(i:Nat) (v:Va),(Je p)[i]?=some v->cnt v.name p.eqs=if i<p.ins.length then 0 else 1)/\p.eqs.length=p.outs.length+p.locals.length:=by
 unfold J7 at h
 by_cases he:K5 p≠0
 ·rw [if_pos he] at h;simp at h
 rw [if_neg he] at h
 by_cases hb:8<p.ins.length\/8<p.outs.length\/24<(Je p).length
 ·rw [if_pos hb] at h;simp at h
 rw [if_neg hb] at h;have jn:=Z5 (Decidable.not_not.1 he);have dn:=(X4 jn).2.2.2.2;have ai:(Je p).length=p.ins.length+p.outs.length+p.locals.length:=by simp [Je];try omega
 unfold Jhl at h
 cases hd:Jah (Je p) 0 (Je p) with
 | some k=>rw [hd] at h;simp at h
 | none=>
 rw [hd] at h;simp only at h;unfold Jkn at h
 cases hq:(Zy (Je p) p.ins.length 0 (fun _=>none) p.eqs).1 with
 | some k=>rw [hq] at h;simp at h
 | none=>
 rw [hq] at h;simp only at h;unfold Jg3 at h
 cases hm:Jam (Zy (Je p) p.ins.length 0 (fun _=>none) p.eqs).2 p.ins.length ((Je p).drop p.ins.length) with
 | some k=>rw [hm] at h;simp at h
 | none=>
 have re:=Jg7 _ _ hd;obtain⟨ak,dm,kE⟩:=Jfq _ _ _ hq;have wA:=kE (fun s=>Ul) (fun s=>Ul);have sg:=Jji _ _ hm;generalize (Je p)=L at *
 have nj:∀(q:Qe),q∈p.eqs->∃(j:Nat) (v:Va),Qi L q.name=some (j:Int)/\p.ins.length<=j/\L[j]?=some v/\v.name=q.name/\ofF q.e L=(v.type,0):=by
  intro q kB;obtain⟨d',hd'⟩:=dm q kB;obtain⟨j,h1,h2,h3,h4,h5⟩:=Jhb hd';obtain⟨k,v,rfl,hk,hn⟩:=Zi h1;refine⟨k,v,h1,Ua,hk,hn,?_⟩
  have hr:q.e.right=0:=by
   have:=dn q kB;simp only [eqB,Bool.and_eq_true] at this;simpa using this.1.2
  unfold ofF;rw [if_neg Ua];have ht:Zz L (k:Int)=v.type:=by unfold Zz;simp [hk]
  rw [ht] at h5;exact Prod.ext h5 h4
 have oI:∀(i:Nat) (v:Va) (q:Qe),L[i]?=some v->q∈p.eqs->q.name=v.name->Qi L q.name=some (i:Int):=by
  intro i v q hi kB hn;obtain⟨j,u,h1,_⟩:=nj q kB;have:=re i v hi;rw [<-hn,h1] at this;simp only [Option.getD_some] at this;rw [h1];congr 1;omega
 refine⟨fun i v q hi kB hn=>?_,fun i v hi=>?_,?_⟩
 ·obtain⟨j,u,h1,h2,h3,h4,h5⟩:=nj q kB;have:=oI i v q hi kB hn;rw [h1] at this;have jO:j=i:=by injection this with this;omega
  subst jO;rw [h3] at hi;obtain rfl:u=v:=by injection hi
  exact h5
 ·by_cases am:i<p.ins.length
  ·rw [if_pos am];refine Jkj fun q kB hn=>?_;obtain⟨j,u,h1,h2,_⟩:=nj q kB;have:=oI i v q hi kB hn;rw [h1] at this;injection this with this;exact Ua
  ·rw [if_neg am]
   have aj:v∈L.drop p.ins.length:=by
    refine List.mem_of_getElem? (i:=i-p.ins.length) ?_;rw [List.getElem?_drop];rw [show p.ins.length+(i-p.ins.length)=i from by omega];exact hi
   have h1:=sg v aj;rw [ak] at h1;have h2:=wA v.name;simp at h1 h2;omega
 ·have hL:(L.drop p.ins.length).length=p.outs.length+p.locals.length:=by rw [List.length_drop];omega
  rw [<-hL,<-Jp7 p.eqs (L.drop p.ins.length),Jo5]
  ·intro q kB;obtain⟨j,v,h1,h2,h3,h4,_⟩:=nj q kB;refine Jre q.name _ (j-p.ins.length) v ?_ h4 fun j' u hu gG=>?_
   ·rw [List.getElem?_drop,show p.ins.length+(j-p.ins.length)=j from by omega];exact h3
   ·rw [List.getElem?_drop] at hu;have:=oI _ u q hu kB gG.symm;rw [h1] at this;injection this with this;exact Ua
  ·intro v hv;obtain⟨i,hi⟩:=List.getElem?_of_mem hv;rw [List.getElem?_drop] at hi;have aj:=sg v hv;rw [ak] at aj;have h2:=wA v.name;simp at aj h2;omega
theorem Jf5 {p:Pr} (h:J7 p=(0,0,0)):∀q∈p.eqs,∃j,Qi (Je p) q.name=some j:=by
 unfold J7 at h
 by_cases he:K5 p≠0
 ·rw [if_pos he] at h;simp at h
 rw [if_neg he] at h
 by_cases hb:8<p.ins.length\/8<p.outs.length\/24<(Je p).length
 ·rw [if_pos hb] at h;simp at h
 rw [if_neg hb] at h;unfold Jhl at h
 cases hd:Jah (Je p) 0 (Je p) with
 | some k=>rw [hd] at h;simp at h
 | none=>
 rw [hd] at h;simp only at h;unfold Jkn at h
 cases hq:(Zy (Je p) p.ins.length 0 (fun _=>none) p.eqs).1 with
 | some k=>rw [hq] at h;simp at h
 | none=>
 intro q kB;obtain⟨d',hz⟩:=(Jfq p.eqs 0 _ hq).2.1 q kB;obtain⟨j,hj,_⟩:=Jhb hz;exact⟨j,hj⟩
theorem Jmn {L:List Va} {ins:Int} : ∀(r:List Qe) (k:Nat) (d:ByteArray->Option Int) (j:Nat) (e:Int),(Zy L ins k d r).1=some (j,e)->e≠0
 | [],k,d,j,e,h=>by simp [Zy] at h
 | q :: r,k,d,j,e,h=>by
  rw [Zy] at h
  by_cases hc:eqE L ins d q≠0
  ·exact Uc2
  ·rw [if_neg hc] at h;exact Jmn r _ _ j e h
theorem Jrg {p:Pr} (h:J7 p≠(0,0,0)):(J7 p).2.2≠0:=by
 unfold J7 at h ⊢
 by_cases he:K5 p≠0
 ·rw [if_pos he];exact he
 rw [if_neg he] at h ⊢
 by_cases hb:8<p.ins.length\/8<p.outs.length\/24<(Je p).length
 ·rw [if_pos hb];decide
 rw [if_neg hb] at h ⊢;unfold Jhl at h ⊢
 cases hd:Jah (Je p) 0 (Je p) with
 | some k=>simp
 | none=>
 rw [hd] at h;simp only at h ⊢;unfold Jkn at h ⊢
 cases hq:(Zy (Je p) p.ins.length 0 (fun _=>none) p.eqs).1 with
 | some k=>exact Jmn _ _ _ _ _ hq
 | none=>
 rw [hq] at h;simp only at h ⊢;unfold Jg3 at h ⊢
 cases hm:Jam (Zy (Je p) p.ins.length 0 (fun _=>none) p.eqs).2 p.ins.length ((Je p).drop p.ins.length) with
 | some k=>simp
 | none=>rw [hm] at h;simp at h
end Go.Proofs.YtknfcamdfdfoeaaGreatDoor
namespace Go.Proofs.YtknfcamdfdfoeaaGreatDoor
open Go.RowKit Go.Sort
theorem Jpa (l:List Va) (A:Option Addr) (cap:Nat) (v:Va) (w:World) (hg:Ql w) (hl:Ju w l A cap) (hn:l.length<=1000000) :
  Calls Tryz.prog 76 #[.slice A l.length cap,vaV v] w fun r w'=>r = .returned (.int .i64 (Yc l v))/\Below w.heap.size w w':=by
 have ap:=fun W h=>Jg9 l A cap v.cn W (hl.later h) hn;have fM:=Jbt;have dp:=fun w=>Zt v.ck v.cn 0 ⟨#[]⟩ w;obtain⟨a0,a1⟩:=hg;have eC:0<w.heap.size:=block_lt_of_cell a0;have hv:Yc l v=if K9 v.ck v.cn 0 ⟨#[]⟩=true then 0 else(match Xb l v.cn with|none=>19|some c=>if c.type≠2 then 20 else if K9 c.ck c.cn 0 ⟨#[]⟩=true then 0 else 21):=by unfold Yc;rfl
 unfold vaV
 cases hq:K9 v.ck v.cn 0 ⟨#[]⟩
 case true=>
  rw [hq,if_pos rfl] at hv;rw [hq] at dp;clear hq;have HV:=Lib.hid hv;clear hv
  go_enter Tryz.func76,Tryz.ntmps76
  exact Uc9
 rw [hq,if_neg Ul] at hv;rw [hq] at dp;clear hq
 cases hf:Xb l v.cn with
 | none=>
  rw [hf] at hv ap;clear hf;unfold fcV vaV Jh8 at ap;dsimp only at ap;have HV:=Lib.hid hv;clear hv
  go_enter Tryz.func76,Tryz.ntmps76
  go_wp2_with (first|(go_at_call 77;refine(ap _ Jb).mono ?_;rintro r w1 ⟨rfl,ac⟩;have ⟨ak,af⟩:=aft ac;(try simp at af);(try have go:0<w1.heap.size:=by omega)))
  go_ret;exact⟨Jm HV.out.symm,Jb⟩
 | some c=>
  rw [hf] at hv ap;clear hf;unfold fcV vaV at ap;dsimp only at ap hv;have ri:=fun w=>Zt c.ck c.cn 0 ⟨#[]⟩ w
  cases ht:(c.type != 2)
  case true=>
   rw [if_pos (by simpa using ht)] at hv;have HV:=Lib.hid hv;clear hv
   go_enter Tryz.func76,Tryz.ntmps76
   exact Ue9
  rw [if_neg (by simpa using ht)] at hv
  cases hq:K9 c.ck c.cn 0 ⟨#[]⟩
  ·rw [hq,if_neg Ul] at hv;exact Ue7
  ·rw [hq,if_pos rfl] at hv;exact Ue7
def OfP (l:List Va) (A:Option Addr) (cap:Nat) (x:Ex):Prop:=∀(Ae:Option Addr) (ce:Nat) (ck:Int) (cs:ByteArray) (W:World),Ql W->Jt W x Ae ce->Ju W l A cap->
  Calls Tryz.prog 78 #[.slice A l.length cap,exV x Ae ce,.agg #[.int .i64 ck,.string cs]] W fun r w'=>r = .returned (.int .i64 (x.clk l (ck,cs)))/\Below W.heap.size W w'
theorem Ji6 (l:List Va) (A:Option Addr) (cap:Nat) (e:Ex) (ih:∀x∈e.sub,OfP l A cap x) (Ae:Option Addr) (ce:Nat) (ck:Int) (cs:ByteArray) (w:World) (hg:Ql w) (he:Jt w e Ae ce) (hl:Ju w l A cap) :
  Calls Tryz.prog 114 #[.slice A l.length cap,.slice Ae e.sub.length ce,.agg #[.int .i64 ck,.string cs]] w fun r w'=>r = .returned (.int .i64 (Ex.clkL l e.sub (ck,cs) (ck,cs)))/\Below w.heap.size w w':=by
 have ai:=he.len;unfold maxLen at ai;obtain⟨jD,jE⟩:=ai
 go_enter Tryz.func114,Tryz.ntmps114
 go_wp2_with fail
 refine Jo fun W0 ag=>?_;have ax:Below w.heap.size w W0:=Uo;have bD:w.heap.size<W0.heap.size:=La;have f0:W0.cell? ⟨w.heap.size,0,none⟩=some (.int .i64 ck):=Uc;have f1:W0.cell? ⟨w.heap.size,1,none⟩=some (.string cs):=Uc;clear ag;replace hl:=hl.later ax;replace he:=he.later ax;replace hg:=hg.later ax
 go_loopw [12] (fun i wr=>∃k:Nat,k<=e.sub.length/\i = .int .i64 k/\Ex.clkL l (e.sub.drop k) (ck,cs) (ck,cs)=Ex.clkL l e.sub (ck,cs) (ck,cs)/\Below W0.heap.size W0 wr) (fun i _=>e.sub.length-(intOf i).toNat)
 case atStart=>exact⟨0,Nat.zero_le _,rfl,rfl,Below.refl _ _⟩
 case round=>
  obtain⟨k,hk,rfl,aa,ab⟩:=hrel;have hc:=Jg ab;have bu:=ab.size;have fF:w.heap.size<wr.heap.size:=Ua
  by_cases am:k<e.sub.length
  ·obtain⟨x,hx,aj,hd⟩:=Kl am;obtain⟨b,off,A',cap',rfl,c0,c1,c2,c3,hs⟩:=(he.later ab).get hx;rw [hd,Ex.clkL] at aa;have ihx:=fun W h1 h2 h3=>ih x aj A' cap' ck cs W h1 h2 h3;unfold exV at ihx;clear hd hx aj ih
   by_cases hz:x.clk l (ck,cs)≠0
   ·rw [if_pos hz] at aa;have t1:(x.clk l (ck,cs) != 0)=true:=Mg;have HR:=Lib.hid aa;clear aa hz;generalize x.clk l (ck,cs)=xc at *
    go_wp2_with (first|(go_at_call 78;refine(ihx _ (hg.later Jb) (hs.later Jb) (hl.later Jb)).mono ?_;rintro r w1 ⟨rfl,ac⟩;have ⟨ak,af⟩:=aft ac;(try simp at af)))
    go_ret;exact⟨Jm HR.out,Jb⟩
   ·rw [if_neg hz] at aa;have t1:(x.clk l (ck,cs) != 0)=false:=Mg;have HR:=Lib.hid aa;clear aa hz;generalize x.clk l (ck,cs)=xc at *
    go_wp2_with (first|(go_at_call 78;refine(ihx _ (hg.later Jb) (hs.later Jb) (hl.later Jb)).mono ?_;rintro r w1 ⟨rfl,ac⟩;have ⟨ak,af⟩:=aft ac;(try simp at af)))
    exact Uc5
  ·have bk:k=e.sub.length:=Ua;rw [bk,List.drop_length,Ex.clkL] at aa;have HR:=Lib.hid aa;clear aa bk;exact Uda
theorem Jgh {l:List Va} {e:Ex} {c:Int×ByteArray} {f:Int} (h:Jac l e.kind e.name c.1 c.2=f) (hf:f≠0):e.clk l c=f:=by
 rw [Ex.clk_eq,h,if_pos hf]
theorem Jgg {l:List Va} {e:Ex} {c:Int×ByteArray} (h:Jac l e.kind e.name c.1 c.2=0):e.clk l c=Ex.clkL l e.sub (Jb3 e.kind e.name c) (Ja0 e.kind e.name c):=by
 rw [Ex.clk_eq,h,if_neg Ua]
end Go.Proofs.YtknfcamdfdfoeaaGreatDoor
