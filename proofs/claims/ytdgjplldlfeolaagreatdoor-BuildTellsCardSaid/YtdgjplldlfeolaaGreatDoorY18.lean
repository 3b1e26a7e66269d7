/- Lemmas. -/
import Derived.Test.YtdgjplldlfeolaaGreatDoorMac
import Derived.Test.YtdgjplldlfeolaaGreatDoorY10
import Derived.Test.YtdgjplldlfeolaaGreatDoorY14
import Derived.Test.YtdgjplldlfeolaaGreatDoorY00
import Derived.Test.YtdgjplldlfeolaaGreatDoorRows
import Derived.Test.YtdgjplldlfeolaaGreatDoorY02
import Derived.Test.YtdgjplldlfeolaaGreatDoorY01
import Derived.IntWalk
import Derived.Test.YtdgjplldlfeolaaGreatDoorY08
import Derived.Laws.StructEq
set_option linter.unusedVariables false
set_option linter.unusedSimpArgs false
set_option maxRecDepth 100000
set_option maxHeartbeats 64000000
namespace Go.Proofs.YtdgjplldlfeolaaGreatDoor
open Go.RowKit
theorem Jbk {l:List ByteArray} {s:ByteArray} : Ka l s=true<->s∈l:=by
 unfold Ka;rw [List.any_eq_true]
 constructor
 ·rintro⟨x,hx,h⟩;rw [Zf] at h;rw [<-h];exact hx
 ·intro h;exact⟨s,h,by rw [Zf]⟩
theorem Jb5 {l:List ByteArray} {s:ByteArray} : Ka l s=false<->s ∉ l:=by
 rw [<-Bool.not_eq_true,Jbk]
def Jbq (l:List Qe):List ByteArray:=(l.filter (fun q=>q.delay != 0)).map (·.name)
def Yn (l:List Qe):Nat:=(l.filter (fun q=>q.delay == 0)).length
theorem Jvy (l:List Qe):Yn l<=l.length:=List.length_filter_le _ _
theorem Jdq {l:List Qe} {s:ByteArray} : s∈Jbq l<->∃q∈l,q.delay≠0/\q.name=s:=by
 unfold Jbq;rw [List.mem_map]
 constructor
 ·rintro⟨q,hq,rfl⟩;rw [List.mem_filter] at hq;exact⟨q,hq.1,by simpa using hq.2,rfl⟩
 ·rintro⟨q,hq,hd,rfl⟩;exact⟨q,by rw [List.mem_filter];exact⟨hq,G2⟩,rfl⟩
def Yj (p:Pr):List ByteArray:=p.ins.map (·.name) ++ Jbq p.eqs
def Jbo (p:Pr):List Int×(Int×Int×Int):=Jfk (ofR (Je p)) p.eqs (Yn p.eqs) (Yn p.eqs) (Yj p) []
def Yt:Nat->(ByteArray->Option Int)->Nat->List Qe->(ByteArray->Option Int)×Nat
 | _,f,c,[]=>(f,c)
 | k,f,c,q :: r=>if (q.delay == 0)=true then Yt (k+1) (upd f q.name (k:Int)) (if (f q.name).isSome then c else c+1) r else Yt (k+1) f c r
theorem Jim:∀(l:List Qe) (k:Nat) (f:ByteArray->Option Int) (c:Nat),l.Pairwise (fun a b=>a.name≠b.name)->(∀q∈l,f q.name=none)->
  (∀s,(∀q∈l,q.delay=0->q.name≠s)->(Yt k f c l).1 s=f s)/\(∀(i:Nat) (q:Qe),l[i]?=some q->q.delay=0->(Yt k f c l).1 q.name=some ((k+i:Nat):Int))/\(Yt k f c l).2=c+Yn l
 | [],k,f,c,_,_=>⟨fun s _=>rfl,Uh,by simp [Yt,Yn]⟩
 | q :: r,k,f,c,hp,hf=>by
  obtain⟨ii,gL⟩:=List.pairwise_cons.1 hp
  have oF:∀s,s≠q.name->upd f q.name (k:Int) s=f s:=by
   intro s hs;unfold upd;rw [if_neg];intro hd;exact hs (by ext1;exact hd)
  have xi:upd f q.name (k:Int) q.name=some (k:Int):=by unfold upd;rw [if_pos rfl]
  rw [Yt]
  by_cases hd:q.delay=0
  ·rw [if_pos G2,hf q Uh];obtain⟨a1,a2,a3⟩:=Jim r (k+1) (upd f q.name (k:Int)) (c+1) gL (fun x hx=>by rw [oF _ (fun e=>ii x hx e.symm)];exact hf x L8);refine⟨fun s hs=>?_,fun i x hi hx=>?_,?_⟩
   ·rw [show(if (none:Option Int).isSome=true then c else c+1)=c+1 from rfl,a1 s fun x hx rd=>hs x L8 rd];exact oF s fun e=>hs q Uh hd e.symm
   ·rw [show(if (none:Option Int).isSome=true then c else c+1)=c+1 from rfl]
    cases i with
    | zero=>
     obtain rfl:q=x:=F9;rw [a1 q.name fun y hy _ e=>ii y hy e.symm,xi];rfl
    | succ i=>
     rw [a2 i x F9 hx]
     congr 2;omega
   ·rw [show(if (none:Option Int).isSome=true then c else c+1)=c+1 from rfl,a3];have:Yn (q :: r)=Yn r+1:=by unfold Yn;rw [List.filter_cons,if_pos G2];rfl
    exact Ua
  ·rw [if_neg G2];obtain⟨a1,a2,a3⟩:=Jim r (k+1) f c gL (fun x hx=>hf x L8);refine⟨fun s hs=>a1 s fun x hx rd=>hs x L8 rd,fun i x hi hx=>?_,?_⟩
   ·cases i with
    | zero=>
     obtain rfl:q=x:=F9;exact absurd hx hd
    | succ i=>
     rw [a2 i x F9 hx]
     congr 2;omega
   ·rw [a3];have:Yn (q :: r)=Yn r:=by unfold Yn;rw [List.filter_cons,if_neg G2]
    exact Ua
namespace Ex
theorem Jmx {l:List Va} {x:Ex} {r:List Ex} (h:(typL l (x :: r)).2=0):(typ l x).2=0/\(typL l r).2=0:=by
 simp only [typL] at h
 by_cases hx:(typ l x).2=0
 ·rw [if_pos hx] at h;refine⟨hx,?_⟩;unfold Ku at h
  by_cases hr:(typL l r).2=0
  ·exact hr
  ·rw [if_neg hr] at h;exact absurd h hr
 ·rw [if_neg hx] at h;exact absurd h hx
theorem Jh2 {L:List Va} : ∀(r:List Ex),(∀x∈r,(typ L x).2=0->∀l s,s∈named l x->s∈l\/(K7 L s).2=true)->(typL L r).2=0->∀l s,s∈namedL l r->s∈l\/(K7 L s).2=true
 | [],_,_,l,s,hs=> .inl (by simpa [namedL] using hs)
 | x :: r,h,ht,l,s,hs=>by
  obtain⟨h1,h2⟩:=Jmx ht;rw [namedL] at hs
  rcases Jh2 r (fun y hy=>h y Mx) h2 _ s hs with h3|h3
  ·exact h x Uh h1 l s h3
  ·exact .inr h3
theorem named_found {L:List Va} (e:Ex):(typ L e).2=0->∀l s,s∈named l e->s∈l\/(K7 L s).2=true:=by
 induction e using ind with
 | h e ih=>
  intro ht l s hs;rw [typ_eq] at ht
  by_cases hr:(typL L e.sub).2=0
  ·rw [if_pos hr] at ht;rw [named_eq] at hs
   rcases Jh2 e.sub ih hr _ s hs with h1|h1
   ·unfold Yw at h1
    by_cases he:e.name.toList.isEmpty=true
    ·rw [if_pos he] at h1;exact .inl h1
    ·rw [if_neg he] at h1
     by_cases hh:Ka l e.name=true
     ·rw [if_pos hh] at h1;exact .inl h1
     ·rw [if_neg hh] at h1
      rcases List.mem_append.1 h1 with h2|h2
      ·exact .inl h2
      ·obtain rfl:s=e.name:=Lw
       right
       unfold Y2 at ht
       cases hf:(K7 L e.name).2
       ·rw [if_pos ⟨F8,hf⟩] at ht;exact absurd ht Ug
       ·exact Gp
   ·exact .inr h1
  ·rw [if_neg hr] at ht;exact absurd ht hr
end Ex
theorem Jiq {L:List Va} {e:Ex} (h:(e.typ L).2=0) {s:ByteArray} (hs:s∈Kx e):∃v∈L,v.name=s:=by
 have hf:(K7 L s).2=true:=by
  unfold Kx at hs
  split at hs
  ·simp at hs
  ·rcases Ex.named_found e h [] s hs with h1|h1
   ·simp at h1
   ·exact h1
 unfold K7 at hf
 cases hv:Qi L s with
 | none=>rw [hv] at hf;simp at hf
 | some j=>
  obtain⟨k,v,_,hk,hn⟩:=Zi hv;exact⟨v,Ni hk,hn⟩
theorem Xp {p:Pr} (h:J7 p=(0,0,0)):Qw p=true/\(∀(i j:Nat) (u v:Va),(Je p)[i]?=some u->(Je p)[j]?=some v->u.name=v.name->i=j)/\∀q∈p.eqs,(q.e.typ (Je p)).2=0:=by
 unfold J7 at h
 by_cases he:K5 p≠0
 ·rw [if_pos he] at h;simp at h
 rw [if_neg he] at h
 by_cases hb:8<p.ins.length\/8<p.outs.length\/24<(Je p).length
 ·rw [if_pos hb] at h;simp at h
 rw [if_neg hb] at h;have jn:=Z5 (Decidable.not_not.1 he);unfold Jhl at h
 cases hd:Jah (Je p) 0 (Je p) with
 | some k=>rw [hd] at h;simp at h
 | none=>
 rw [hd] at h;simp only at h;unfold Jkn at h
 cases hq:(Zy (Je p) p.ins.length 0 (fun _=>none) p.eqs).1 with
 | some k=>rw [hq] at h;simp at h
 | none=>
 have re:=Jg7 _ _ hd;refine⟨jn,fun i j u v hi hj hn=>?_,fun q kB=>?_⟩
 ·have h1:=re i u hi;have h2:=re j v hj;rw [hn,h2] at h1;exact Ua
 ·obtain⟨d',hd'⟩:=(Jfq _ _ _ hq).2.1 q kB;obtain⟨j,_,_,_,h4,_⟩:=Jhb hd';exact h4
theorem Jjd {L:List Va} : ∀(r:List Va) (k:Nat),Yy L k r=none->∀v∈r,Yc L v=0
 | [],_,_,v,hv=>by simp at hv
 | u :: r,k,h,v,hv=>by
  rw [Yy] at h
  by_cases hc:Yc L u≠0
  ·rw [if_pos hc] at h;cases h
  ·rw [if_neg hc] at h
   rcases List.mem_cons.1 hv with rfl|hv
   ·exact Decidable.not_not.1 hc
   ·exact Jjd r (k+1) h v hv
theorem Xk {p:Pr} (h:Qg p=(0,0,0)):J7 p=(0,0,0)/\∀v∈Je p,Yc (Je p) v=0:=by
 unfold Qg at h
 by_cases hc:J7 p≠(0,0,0)
 ·rw [if_pos hc] at h;exact absurd h hc
 rw [if_neg hc] at h;refine⟨Decidable.not_not.1 hc,?_⟩;unfold Jgx at h
 cases hv:Yy (Je p) 0 (Je p) with
 | some k=>rw [hv] at h;simp at h
 | none=>exact Jjd _ _ hv
theorem Jpm {s:ByteArray} : ∀ {r:List Qe} {q:Qe},q∈r->q.name=s->1<=cnt s r
 | [],q,h,_=>Lc
 | x :: r,q,h,hn=>by
  rw [cnt]
  rcases List.mem_cons.1 h with rfl|h
  ·rw [if_pos hn];omega
  ·have:=Jpm h hn;omega
theorem Jix:∀(l:List Qe),(∀q∈l,cnt q.name l<=1)->l.Pairwise (fun a b=>a.name≠b.name)
 | [],_=>List.Pairwise.nil
 | q :: r,h=>by
  refine List.pairwise_cons.2 ⟨fun b hb hn=>?_,Jix r fun x hx=>?_⟩
  ·have h1:=h q Uh;rw [cnt,if_pos rfl] at h1;have:=Jpm hb hn.symm;exact Ua
  ·have h1:=h x L8;rw [cnt] at h1;exact Ua
theorem Jmb {l:List Qe} (h:l.Pairwise (fun a b=>a.name≠b.name)) {i j:Nat} {a b:Qe} (hi:l[i]?=some a) (hj:l[j]?=some b) (hn:a.name=b.name):i=j:=by
 rw [List.pairwise_iff_getElem] at h;obtain⟨dN,dR⟩:=Nh hi;obtain⟨hj1,hj2⟩:=Nh hj
 rcases Nat.lt_trichotomy i j with am|he|am
 ·exact absurd (by rw [dR,hj2];exact hn) (h i j dN hj1 am)
 ·exact he
 ·exact absurd (by rw [dR,hj2];exact hn.symm) (h j i hj1 dN am)
theorem Jbe {p:Pr} (h:J7 p=(0,0,0)):p.eqs.Pairwise (fun a b=>a.name≠b.name)/\(∀q∈p.eqs,q.name ∉ p.ins.map (·.name))/\∀v∈Je p,v.name∈p.ins.map (·.name)\/∃q∈p.eqs,q.name=v.name:=by
 obtain⟨_,hb,_⟩:=Jyb h
 have nj:∀q∈p.eqs,∃(j:Nat) (v:Va),(Je p)[j]?=some v/\v.name=q.name:=by
  intro q hq;obtain⟨j,hj⟩:=Jf5 h q hq;obtain⟨k,v,_,hk,hn⟩:=Zi hj;exact⟨k,v,hk,hn⟩
 refine⟨Jix _ fun q hq=>?_,fun q hq hm=>?_,fun v hv=>?_⟩
 ·obtain⟨j,v,hj,hn⟩:=nj q hq;rw [<-hn,hb j v hj]
  split <;> omega
 ·rw [List.mem_map] at hm;obtain⟨v,hv,hn⟩:=hm;obtain⟨i,hi⟩:=List.getElem?_of_mem hv;have am:i<p.ins.length:=(Nh hi).1
  have dR:(Je p)[i]?=some v:=by
   unfold Je;rw [List.append_assoc,List.getElem?_append_left am];exact hi
  have:=hb i v dR;rw [if_pos am] at this;have h2:=Jpm hq hn.symm;exact Ua
 ·obtain⟨i,hi⟩:=List.getElem?_of_mem hv
  by_cases am:i<p.ins.length
  ·left
   have:p.ins[i]?=some v:=by
    unfold Je at hi;rw [List.append_assoc,List.getElem?_append_left am] at hi;exact hi
   exact List.mem_map.2 ⟨v,Ni this,rfl⟩
  ·right
   have h1:=hb i v hi;rw [if_neg am] at h1;refine Classical.byContradiction fun oG=>?_;have:=Jkj (s:=v.name) (r:=p.eqs) fun q hq hn=>oG ⟨q,hq,hn⟩;exact Ua
theorem Jnr {s:ByteArray} : ∀(L:List Va) (c:Int×ByteArray),(∀v∈L,v.name≠s)->L.foldl (fun c v=>if s.data=v.name.data then(v.ck,v.cn) else c) c=c
 | [],c,_=>rfl
 | v :: L,c,h=>by
  rw [List.foldl_cons,if_neg,Jnr L c fun u hu=>h u S0];intro hd;exact h v Uh (by ext1;exact hd.symm)
theorem Jm7 {s:ByteArray} : ∀(L:List Va) (c:Int×ByteArray),(∀(i j:Nat) (u v:Va),L[i]?=some u->L[j]?=some v->u.name=v.name->i=j)->L.foldl (fun c v=>if s.data=v.name.data then(v.ck,v.cn) else c) c=match Xb L s with|some v=>(v.ck,v.cn)|none=>c
 | [],c,_=>rfl
 | v :: L,c,h=>by
  have h':∀(i j:Nat) (u x:Va),L[i]?=some u->L[j]?=some x->u.name=x.name->i=j:=fun i j u x hi hj hn=>by
   have:=h (i+1) (j+1) u x F9 Ma hn;exact Ua
  rw [List.foldl_cons,Xb]
  by_cases hs:v.name=s
  ·rw [if_pos (by rw [hs]),if_pos (by rw [Zf];exact hs),Jnr];intro u hu hn;obtain⟨i,hi⟩:=List.getElem?_of_mem hu;have:=h 0 (i+1) v u rfl F9 (by rw [hs,hn]);exact Ua
  ·rw [if_neg (fun hd=>hs (by ext1;exact hd.symm)),if_neg (by rw [Zf];exact hs),Jm7 L c h']
theorem Jdd {v:Va} {b:Bool} (h:Ke v b=true):(v.ck=0/\v.cn.toList.isEmpty=true)\/(v.ck≠0/\v.cn.toList.isEmpty=false):=by
 simp only [Ke,Bool.and_eq_true] at h;have h3:=h.2
 by_cases h0:v.ck=0
 ·rw [if_pos h0] at h3;exact .inl ⟨h0,h3⟩
 ·rw [if_neg h0] at h3
  by_cases h1:v.ck=1\/v.ck=2
  ·rw [if_pos h1,Bool.and_eq_true] at h3;exact .inr ⟨h0,Jbx h3.2⟩
  ·rw [if_neg h1] at h3;simp at h3
theorem Jsf {p:Pr} (h:Qw p=true):∀v∈Je p,(v.ck=0/\v.cn.toList.isEmpty=true)\/(v.ck≠0/\v.cn.toList.isEmpty=false):=by
 simp only [Qw,Bool.and_eq_true,List.all_eq_true] at h;intro v hv;simp only [Je,List.mem_append] at hv
 rcases hv with (hv|hv)|hv
 ·exact Jdd (h.1.1.1.2 v hv)
 ·exact Jdd (h.1.1.2 v hv)
 ·exact Jdd (h.1.2 v hv)
theorem Ja3 {p:Pr} (h:Qg p=(0,0,0)) {q:Qe} (hq:q∈p.eqs):∃v∈Je p,Xb (Je p) q.name=some v/\v.name=q.name/\J9 (Je p) q.name=(v.ck,v.cn)/\((v.ck=0/\v.cn.toList.isEmpty=true)\/(v.ck≠0/\v.cn.toList.isEmpty=false/\∃u∈Je p,u.name=v.cn)):=by
 obtain⟨hc,dy⟩:=Xk h;obtain⟨jn,gG,htyp⟩:=Xp hc;obtain⟨j,hj⟩:=Jf5 hc q hq;obtain⟨k,v,_,hk,hf⟩:=Jgq _ _ 0 j hj;obtain⟨hm,hn⟩:=Jem hf;have eu:v.name=q.name:=by rw [<-Zf,beq_iff_eq];exact hn
 refine⟨v,hm,hf,eu,?_,?_⟩
 ·unfold J9;rw [Jm7 _ _ gG,hf]
 ·rcases Jsf jn v hm with h1|⟨h1,h2⟩
  ·exact .inl h1
  ·refine .inr ⟨h1,h2,?_⟩;have hd:=dy v hm;unfold Yc at hd;have aN:¬K9 v.ck v.cn 0 ⟨#[]⟩=true:=fun e=>h1 (Jdg.1 e).1;rw [if_neg aN] at hd
   cases hu:Xb (Je p) v.cn with
   | none=>rw [hu] at hd;simp at hd
   | some u=>
    obtain⟨hu1,hu2⟩:=Jem hu;exact⟨u,hu1,by rw [<-Zf,beq_iff_eq];exact hu2⟩
theorem Jui {p:Pr} (h:Qg p=(0,0,0)) {q:Qe} (hq:q∈p.eqs) (R:List ByteArray):(Z1 (Je p) q).all (Ka R)=(ofR (Je p) q).all (Ka R):=by
 obtain⟨v,hm,hf,hn,bO,nk⟩:=Ja3 h hq;unfold Z1 ofR;rw [bO,hf];dsimp only;unfold Yw
 rcases nk with ⟨h1,h2⟩|⟨h1,h2,_⟩
 ·rw [if_pos h1,if_pos h2]
 ·rw [if_neg h1,h2,if_neg Uh]
  by_cases hh:Ka (Kx q.e) v.cn=true
  ·rw [if_pos hh,List.all_append,Bool.eq_iff_iff];simp only [Bool.and_eq_true,List.all_eq_true];refine⟨fun a=>a.1,fun a=>⟨a,fun s hs=>?_⟩⟩;obtain rfl:s=v.cn:=by simpa using hs
   exact a _ (Jbk.1 hh)
  ·rw [if_neg hh]
theorem Jjh {p:Pr} (h:Qg p=(0,0,0)) {q:Qe} (hq:q∈p.eqs) {s:ByteArray} (hs:s∈Z1 (Je p) q):∃v∈Je p,v.name=s:=by
 obtain⟨v,hm,hf,hn,bO,nk⟩:=Ja3 h hq;have ht:=(Xp (Xk h).1).2.2 q hq;unfold Z1 at hs;rw [bO] at hs;dsimp only at hs
 rcases nk with ⟨h1,h2⟩|⟨h1,h2,u,hu,gG⟩
 ·rw [if_pos h1] at hs;exact Jiq ht hs
 ·rw [if_neg h1] at hs
  rcases List.mem_append.1 hs with h3|h3
  ·exact Jiq ht h3
  ·obtain rfl:s=v.cn:=S4;exact⟨u,hu,gG⟩
theorem Jsg {p:Pr} (h:J7 p=(0,0,0)):(∀(i:Nat) (q:Qe),p.eqs[i]?=some q->((Yt 0 (fun _=>none) 0 p.eqs).1 q.name=some (i:Int)<->Ka (Yj p) q.name=false))/\
  (∀v∈Je p,((Yt 0 (fun _=>none) 0 p.eqs).1 v.name).isSome=!Ka (Yj p) v.name)/\(Yt 0 (fun _=>none) 0 p.eqs).2=Yn p.eqs:=by
 obtain⟨xj,dV,dE⟩:=Jbe h;obtain⟨a1,a2,a3⟩:=Jim p.eqs 0 (fun _=>none) 0 xj (fun _ _=>rfl);generalize Yt 0 (fun _=>none) 0 p.eqs=W at *
 have dS:∀(i:Nat) (q:Qe),p.eqs[i]?=some q->q.delay=0->W.1 q.name=some (i:Int)/\Ka (Yj p) q.name=false:=by
  intro i q hi hd;refine⟨by rw [a2 i q hi hd,Nat.zero_add],?_⟩;rw [Jb5];unfold Yj;rw [List.mem_append,not_or];refine⟨dV q (Ni hi),fun hm=>?_⟩;obtain⟨x,hx,rd,xm⟩:=Jdq.1 hm;obtain⟨j,hj⟩:=List.getElem?_of_mem hx;obtain rfl:=Jmb xj hj hi xm;rw [hi] at hj;obtain rfl:q=x:=by injection hj
  exact rd hd
 have ek:∀(i:Nat) (q:Qe),p.eqs[i]?=some q->q.delay≠0->W.1 q.name=none/\Ka (Yj p) q.name=true:=by
  intro i q hi hd;refine⟨?_,?_⟩
  ·rw [a1 q.name fun x hx rd hn=>?_];obtain⟨j,hj⟩:=List.getElem?_of_mem hx;obtain rfl:=Jmb xj hj hi hn;rw [hi] at hj;obtain rfl:q=x:=by injection hj
   exact hd rd
  ·rw [Jbk];unfold Yj;rw [List.mem_append];exact .inr (Jdq.2 ⟨q,Ni hi,hd,rfl⟩)
 refine⟨fun i q hi=>?_,fun v hv=>?_,by rw [a3];omega⟩
 ·by_cases hd:q.delay=0
  ·obtain⟨h1,h2⟩:=dS i q hi hd;rw [h1,h2];simp
  ·obtain⟨h1,h2⟩:=ek i q hi hd;rw [h1,h2];simp
 ·rcases dE v hv with hm|⟨q,hq,hn⟩
  ·rw [a1 v.name fun x hx _ hn=>dV x hx (by rw [hn];exact hm)];have:Ka (Yj p) v.name=true:=by rw [Jbk];unfold Yj;exact List.mem_append.2 (.inl hm)
   rw [this];rfl
  ·obtain⟨i,hi⟩:=List.getElem?_of_mem hq;rw [<-hn]
   by_cases hd:q.delay=0
   ·obtain⟨h1,h2⟩:=dS i q hi hd;rw [h1,h2];rfl
   ·obtain⟨h1,h2⟩:=ek i q hi hd;rw [h1,h2];rfl
def Jdx (p:Pr):List Int×(Int×Int×Int):=Jj9 (Z1 (Je p)) p.eqs (Yt 0 (fun _=>none) 0 p.eqs).2 (Yt 0 (fun _=>none) 0 p.eqs).1 (Yt 0 (fun _=>none) 0 p.eqs).2 []
theorem Jtf {p:Pr} (h:Qg p=(0,0,0)):Jdx p=Jbo p:=by
 obtain⟨h1,h2,h3⟩:=Jsg (Xk h).1;unfold Jdx Jbo;rw [h3];refine Jue (fun q hq R=>Jui h hq R) (Yn p.eqs) _ _ _ _ Uh h1 fun q hq s hs=>?_;obtain⟨v,hv,rfl⟩:=Jjh h hq hs;exact h2 v hv
theorem Jmi {α:Type} : ∀(l m:List α),l.Nodup->(∀x∈l,x∈m)->l.length<=m.length
 | [],m,_,_=>Np
 | x :: l,m,hn,h=>by
  obtain⟨s,t,rfl⟩:=List.append_of_mem (h x Uh);obtain⟨h1,h2⟩:=List.nodup_cons.1 hn
  have:=Jmi l (s ++ t) h2 fun y hy=>by
   have:=h y Mx;simp only [List.mem_append,List.mem_cons] at this ⊢
   rcases this with h3|h3|h3
   ·exact .inl h3
   ·exact absurd (h3 ▸ hy) h1
   ·exact .inr h3
  simp only [Nk,Nl] at this ⊢;exact Ua
theorem Jfx {R:List ByteArray} {nd:Qe->List ByteArray} : ∀(l:List Qe) (k:Nat),¬(Yd R nd k l).2<0->∃(i:Nat) (q:Qe),(Yd R nd k l).2=((k+i:Nat):Int)/\l[i]?=some q/\Ka R q.name=false/\(nd q).all (Ka R)=true
 | [],k,h=>by simp [Yd] at h
 | q :: r,k,h=>by
  rw [Yd] at h ⊢
  by_cases hb:Ka R q.name=true
  ·rw [if_pos hb] at h ⊢;obtain⟨i,x,h1,h2,h3⟩:=Jfx r (k+1) h;exact⟨i+1,x,by rw [h1];congr 1;omega,Lw,h3⟩
  ·rw [if_neg hb] at h ⊢;dsimp only at h ⊢
   by_cases ha:(nd q).all (Ka R)=true
   ·rw [if_pos ha];exact⟨0,q,rfl,rfl,by simpa using hb,ha⟩
   ·rw [if_neg ha] at h ⊢;obtain⟨i,x,h1,h2,h3⟩:=Jfx r (k+1) h;exact⟨i+1,x,by rw [h1];congr 1;omega,Lw,h3⟩
theorem Jgb {R:List ByteArray} {nd:Qe->List ByteArray} : ∀(l:List Qe) (k:Nat),(Yd R nd k l).2<0->(∀q∈l,Ka R q.name=false->(nd q).all (Ka R)=false)/\((∃q∈l,Ka R q.name=false)->∃(i:Nat) (q:Qe),(Yd R nd k l).1=((k+i:Nat):Int)/\l[i]?=some q/\Ka R q.name=false)
 | [],k,h=>⟨Uh,Uh⟩
 | q :: r,k,h=>by
  rw [Yd] at h ⊢
  by_cases hb:Ka R q.name=true
  ·rw [if_pos hb] at h ⊢;obtain⟨h1,h2⟩:=Jgb r (k+1) h;refine⟨fun x hx rf=>?_,fun xn=>?_⟩
   ·rcases List.mem_cons.1 hx with rfl|hx
    ·rw [hb] at rf;cases rf
    ·exact h1 x hx rf
   ·obtain⟨x,hx,rf⟩:=xn
    rcases List.mem_cons.1 hx with rfl|hx
    ·rw [hb] at rf;cases rf
    ·obtain⟨i,y,e1,e2,e3⟩:=h2 ⟨x,hx,rf⟩;exact⟨i+1,y,by rw [e1];congr 1;omega,by simpa using e2,e3⟩
  ·rw [if_neg hb] at h ⊢;dsimp only at h ⊢
   by_cases ha:(nd q).all (Ka R)=true
   ·rw [if_pos ha] at h;omega
   ·rw [if_neg ha] at h;obtain⟨h1,h2⟩:=Jgb r (k+1) h;refine⟨fun x hx rf=>?_,fun _=>⟨0,q,rfl,rfl,by simpa using hb⟩⟩
    rcases List.mem_cons.1 hx with rfl|hx
    ·simpa using ha
    ·exact h1 x hx rf
def Joc (R0:List ByteArray) (nd:Qe->List ByteArray) (eqs:List Qe) (i:Nat) (j:Int) (l:List Int):Prop:=
 0<=j/\∃q,eqs[j.toNat]?=some q/\q.name ∉ R0 ++ (l.take i).map (Za eqs)/\∀s∈nd q,s∈R0 ++ (l.take i).map (Za eqs)
theorem Jkx {nd:Qe->List ByteArray} {eqs:List Qe} {left:Nat} {R0:List ByteArray} : ∀(t:Nat) (R:List ByteArray) (out:List Int),out.length+t=left->R=R0 ++ out.map (Za eqs)->(∀(i:Nat) (j:Int),out[i]?=some j->Joc R0 nd eqs i j out)->
  (∃res,Jfk nd eqs left t R out=(res,(0,0,0))/\res.length=left/\∀(i:Nat) (j:Int),res[i]?=some j->Joc R0 nd eqs i j res)\/
  (∃out',Jfk nd eqs left t R out=([],(3,(Yd (R0 ++ out'.map (Za eqs)) nd 0 eqs).1,22))/\out'.length<left/\(Yd (R0 ++ out'.map (Za eqs)) nd 0 eqs).2<0/\∀(i:Nat) (j:Int),out'[i]?=some j->Joc R0 nd eqs i j out')
 | 0,R,out,ht,hR,hg=> .inl ⟨out,rfl,Ua,hg⟩
 | t+1,R,out,ht,hR,hg=>by
  rw [Jfk,if_pos Ua]
  by_cases hn:(Yd R nd 0 eqs).2<0
  ·rw [if_pos hn]
   right
   subst hR;exact⟨out,rfl,Ua,hn,hg⟩
  ·rw [if_neg hn];obtain⟨j,q,h1,h2,h3,h4⟩:=Jfx eqs 0 hn;rw [Nat.zero_add] at h1;have hname:Za eqs (j:Int)=q.name:=by unfold Za;rw [Int.toNat_natCast,h2]
   rw [h1];refine Jkx t _ _ Ui (by rw [hR,List.map_append,List.append_assoc];rfl) fun i x hi=>?_
   rcases Nat.lt_trichotomy i out.length with am|he|am
   ·rw [List.getElem?_append_left am] at hi;have:=hg i x hi;unfold Joc at this ⊢;rw [List.take_append_of_le_length Ua];exact this
   ·subst he;rw [List.getElem?_append_right (Ns _),Nat.sub_self] at hi;obtain rfl:(j:Int)=x:=F9;refine⟨Ua,q,by rw [Int.toNat_natCast];exact h2,?_,?_⟩
    ·rw [List.take_left' rfl,<-hR];exact Jb5.1 h3
    ·rw [List.take_left' rfl,<-hR];intro s hs;exact Jbk.1 (List.all_eq_true.1 h4 s hs)
   ·rw [List.getElem?_eq_none Ui] at hi
    cases hi
theorem Jms {eqs:List Qe} {j:Int} {q:Qe} (h:eqs[j.toNat]?=some q):Za eqs j=q.name:=by unfold Za;rw [h]
theorem Jqy {p:Pr} (h:J7 p=(0,0,0)):((p.eqs.filter (fun q=>q.delay == 0)).map (·.name)).Nodup:=by
 unfold List.Nodup;rw [List.pairwise_map];exact(Jbe h).1.filter _
theorem Jrq {p:Pr} (h:J7 p=(0,0,0)) {nd:Qe->List ByteArray} {out:List Int} (hl:out.length<Yn p.eqs):∃q∈p.eqs,Ka (Yj p ++ out.map (Za p.eqs)) q.name=false:=by
 refine Classical.byContradiction fun oG=>?_
 have eF:∀q∈p.eqs,q.name∈Yj p ++ out.map (Za p.eqs):=fun q hq=>by
  rw [<-Jbk]
  cases hb:Ka (Yj p ++ out.map (Za p.eqs)) q.name
  ·exact absurd ⟨q,hq,hb⟩ oG
  ·exact Gp
 have h1:=Jmi _ (out.map (Za p.eqs)) (Jqy h) fun s hs=>by
  rw [List.mem_map] at hs;obtain⟨q,hq,rfl⟩:=hs;rw [List.mem_filter] at hq;obtain⟨i,hi⟩:=List.getElem?_of_mem hq.1;obtain⟨xj,dV,_⟩:=Jbe h
  rcases List.mem_append.1 (eF q hq.1) with h2|h2
  ·exfalso
   unfold Yj at h2
   rcases List.mem_append.1 h2 with h3|h3
   ·exact dV q hq.1 h3
   ·obtain⟨x,hx,rd,xm⟩:=Jdq.1 h3;obtain⟨j,hj⟩:=List.getElem?_of_mem hx;obtain rfl:=Jmb xj hj hi xm;rw [hi] at hj;obtain rfl:q=x:=by injection hj
    exact rd (by simpa using hq.2)
  ·exact h2
 rw [List.length_map,List.length_map] at h1;unfold Yn at hl;exact Ua
theorem Jw0 {p:Pr} {l:List ByteArray} {q:Qe} (hq:q∈p.eqs) (h:q.name ∉ Yj p ++ l):q.delay=0:=by
 refine Classical.byContradiction fun hd=>h ?_;refine List.mem_append.2 (.inl ?_);unfold Yj;exact List.mem_append.2 (.inr (Jdq.2 ⟨q,hq,hd,rfl⟩))
theorem Jiu {p:Pr} (h:J7 p=(0,0,0)) :
  (∃res,Jbo p=(res,(0,0,0))/\res.length=Yn p.eqs/\∀(i:Nat) (j:Int),res[i]?=some j->Joc (Yj p) (ofR (Je p)) p.eqs i j res)\/
  (∃(out:List Int) (at':Nat) (q:Qe),Jbo p=([],(3,(at':Int),22))/\p.eqs[at']?=some q/\q.name ∉ Yj p ++ out.map (Za p.eqs)/\q.delay=0/\∀x∈p.eqs,x.name ∉ Yj p ++ out.map (Za p.eqs)->¬ ∀s∈ofR (Je p) x,s∈Yj p ++ out.map (Za p.eqs)):=by
 rcases Jkx (nd:=ofR (Je p)) (eqs:=p.eqs) (left:=Yn p.eqs) (R0:=Yj p) (Yn p.eqs) (Yj p) [] Uh Uh Uh with ⟨res,h1,h2,h3⟩|⟨out,h1,h2,h3,_⟩
 ·exact .inl ⟨res,h1,h2,h3⟩
 ·right
  obtain⟨s1,s2⟩:=Jgb p.eqs 0 h3;obtain⟨i,q,e1,e2,e3⟩:=s2 (Jrq (nd:=ofR (Je p)) h h2);rw [Nat.zero_add] at e1;refine⟨out,i,q,by unfold Jbo;rw [h1,e1],e2,Jb5.1 e3,Jw0 (Ni e2) (Jb5.1 e3),fun x hx hn eF=>?_⟩;have:=s1 x hx (Jb5.2 hn);rw [<-Bool.not_eq_true] at this;exact this (List.all_eq_true.2 fun s hs=>Jbk.2 (eF s hs))
def Kot (p:Pr):List Int×(Int×Int×Int):=if Qg p=(0,0,0) then Jbo p else([],Qg p)
end Go.Proofs.YtdgjplldlfeolaaGreatDoor
namespace Go.Proofs.YtdgjplldlfeolaaGreatDoor
open Go.RowKit Go.Sort
theorem Jjz {l:List Va} : ∀ {r:List Va} {k j:Nat} {e:Int},Yy l k r=some (j,e)->e≠0
 | [],k,j,e,h=>by simp [Yy] at h
 | v :: r,k,j,e,h=>by
  rw [Yy] at h
  by_cases hc:Yc l v≠0
  ·exact Ubu
  ·rw [if_neg hc] at h;exact Jjz h
theorem Jjo {l:List Va} : ∀ {r:List Qe} {k j:Nat} {e:Int},Y7 l k r=some (j,e)->e≠0
 | [],k,j,e,h=>by simp [Y7] at h
 | q :: r,k,j,e,h=>by
  rw [Y7] at h
  by_cases hc:q.e.clk l (Jcy l q.name)≠0
  ·exact Ubu
  ·rw [if_neg hc] at h;exact Jjo h
theorem Jxh {p:Pr} (h:Qg p≠(0,0,0)):(Qg p).2.2≠0:=by
 unfold Qg at h ⊢
 by_cases hc:J7 p≠(0,0,0)
 ·rw [if_pos hc];exact Jrg hc
 rw [if_neg hc] at h ⊢;unfold Jgx at h ⊢
 cases hv:Yy (Je p) 0 (Je p) with
 | some k=>exact Jjz (e:=k.2) (j:=k.1) hv
 | none=>
 rw [hv] at h;simp only at h ⊢;unfold Ji8 at h ⊢
 cases hq:Y7 (Je p) 0 p.eqs with
 | some k=>exact Jjo (e:=k.2) (j:=k.1) hq
 | none=>rw [hq] at h;simp at h
theorem Jqt (p:Pr) (a:PrA) (w:World) (hg:Ql w) (hp:Kr w p a) (n1:p.ins.length<=1000000) (n2:p.outs.length<=1000000) (n3:p.locals.length<=1000000) (n4:p.eqs.length<=1000000) (aN:Qg p≠(0,0,0)) :
  Calls Tryz.prog 106 #[prV p a] w fun r w'=>r = .returned (.tuple #[.slice none 0 0,fV (Qg p)])/\Below w.heap.size w w':=by
 have aV:=fun W h=>Jhx p a W (hg.later h) (hp.later h) n1 n2 n3 n4
 have aS:((Qg p).1 == 0 && (Qg p).2.1 == 0 && (Qg p).2.2 == 0)=false:=by
  exact Uaz
 have dp:∀w,(Op.equalIn 10000 32 (.agg #[.int .i64 (Qg p).1,.int .i64 (Qg p).2.1,.int .i64 (Qg p).2.2]) (.agg #[.int .i64 0,.int .i64 0,.int .i64 0])).run Tryz.prog w = .ok false w:=fun w=>by rw [Zr,aS]
 have fM:Tryz.prog.eqGuardType Tryz.prog.depth 32=false:=Ue;clear aN aS;obtain⟨A1,c1,A2,c2,A3,c3,A4,c4⟩:=a;unfold prV fV at *;dsimp only at *;generalize (Qg p).1=k1 at *;generalize (Qg p).2.1=k2 at *;generalize (Qg p).2.2=k3 at *
 go_enter Tryz.func106,Tryz.ntmps106
 go_wp2_with (first|(go_at_call 121;refine(aV _ Jb).mono ?_;rintro r wa ⟨rfl,aA⟩;have aW:=Jg aA;have bS:=Jf aA;have cN:w.heap.size+2<=wa.heap.size:=U3;have dG:=lt0 w wa;have aX:=ltA w 1 wa))
 go_region
 all_goals
  go_wp2_with fail
  refine Nv (v:= .tuple #[.slice none 0 0,.agg #[.int .i64 k1,.int .i64 k2,.int .i64 k3]]) Gj rfl ⟨rfl,?_⟩
  (repeat refine Jh ?_)
  exact Km
def Jfh (v:Value):Nat:=match v with | .slice _ n _=>n|_=>0
theorem Jq7 {v:Value} {B s z:Nat} (am:∀k,v.ownBlock=some k->B<=k/\k<s) (hz:z<B):v.ownBlock=none\/v.ownBlock≠some z:=by
 cases hv:v.ownBlock with
 | none=>exact .inl rfl
 | some b=>exact .inr fun e=>by have:=(am b hv).1;injection e with e;omega
theorem Jap.nameCell {w:World} {l:List Qe} {b off cap k:Nat} {q:Qe} (h:Jap w l (some ⟨b,off,none⟩) cap) (hk:l[k]?=some q):w.cell? ⟨b,off+k * 10,none⟩=some (.string q.name):=by
 obtain⟨b',o',_,_,_,_,hA,_,hc⟩:=h.get hk;injection hA with e;injection e with e1 e2;subst e1 e2;exact hc.g0
theorem Jdu {B:Nat} {w w':World} (h:Below B w w'):∀b o:Nat,b<B->w'.cell? ⟨b,o,none⟩=w.cell? ⟨b,o,none⟩:=fun b o hb=>h.cell (p:=⟨b,o,none⟩) hb
theorem Jfi {B:Nat} {w w':World} (h:Below B w w'):∀b o:Nat,b<B->w'.frozen? ⟨b,o,none⟩=w.frozen? ⟨b,o,none⟩:=fun b o hb=>h.frozen (p:=⟨b,o,none⟩) hb
theorem Jql (p:Pr) (a:PrA) (w:World) (hg:Ql w) (hp:Kr w p a) (aw:Ke5 p) (n1:p.ins.length<=1000000) (n2:p.outs.length<=1000000) (n3:p.locals.length<=1000000) (n4:p.eqs.length<=1000000) (aN:Qg p=(0,0,0)) :
  Calls Tryz.prog 106 #[prV p a] w fun r w'=>(∃v,r = .returned (.tuple #[v,fV (Jdx p).2])/\w'.ownsRow w.heap.size 3 1 v (Jdx p).1.length ((Jdx p).1.map (.int .i64)))/\Below w.heap.size w w':=by
 have hO:Jdx p=Jj9 (Z1 (Je p)) p.eqs (Yt 0 (fun _=>none) 0 p.eqs).2 (Yt 0 (fun _=>none) 0 p.eqs).1 (Yt 0 (fun _=>none) 0 p.eqs).2 []:=rfl;generalize Jdx p=O at *;obtain⟨FW,hFW⟩:∃F,F=Yt 0 (fun _=>none) 0 p.eqs:=⟨_,rfl⟩;rw [<-hFW] at hO;have jn:=(Xp (Xk aN).1).1
 have dn:∀q∈p.eqs,q.name.size<=maxLen/\q.e.OK/\q.e.size<=1000000:=fun q hq=>by
  obtain⟨h1,_,h2,_⟩:=Jaq ((X4 jn).2.2.2.2 q hq);exact⟨Uo,(aw.eqs q hq).2.2.2,Ua⟩
 have nb:∀v∈Je p,v.name.size<=maxLen:=fun v hv=>by have:=(Jep jn v hv).1;unfold maxLen;omega
 have lg:∀q∈p.eqs,∀s∈Z1 (Je p) q,s.size<=maxLen:=fun q hq s hs=>by
  obtain⟨v,hv,rfl⟩:=Jjh aN hq hs;exact nb v hv
 have aV:=fun W h=>Jhx p a W (hg.later h) (hp.later h) n1 n2 n3 n4;have qm:=Nf (fun W (h:Below w.heap.size w W)=>Jsz p a W (hp.later h) n1 n2 n3 n4 nb dn);rw [aN] at aV;clear aN jn aw hg;generalize Je p=L at *;obtain⟨nd,nq⟩:∃nd,nd=Z1 L:=⟨_,rfl⟩;have hnrow:∀g k W xs,Jde L p.eqs g k W xs->∀(j:Nat) (q:Qe),j<k->p.eqs[j]?=some q->∃A cap,xs[j]?=some (.slice A (nd q).length cap)/\Off (g+1) none W (fun V=>Qf V (nd q) A cap):=fun g k W xs h=>by rw [nq];exact h.1
 rw [<-nq] at hO lg;have HO:=Nf hO;have HFW:=Nf hFW;have jR:=Nf dn;have HNDS:=Nf lg;clear hO hFW dn lg nb nq;have dp:∀w,(Op.equalIn 10000 32 (.agg #[.int .i64 0,.int .i64 0,.int .i64 0]) (.agg #[.int .i64 0,.int .i64 0,.int .i64 0])).run Tryz.prog w = .ok true w:=fun w=>So;have fM:Tryz.prog.eqGuardType Tryz.prog.depth 32=false:=Ue;have gI:=@run_makeMap Tryz.prog;have bT:=hp.eqs;have cG:=hp.eqs.len;obtain⟨A1,c1,A2,c2,A3,c3,A4,c4⟩:=a;unfold maxLen at cG;unfold prV fV at *;dsimp only at *;obtain⟨fT,fU⟩:=cG;clear hp
 go_enter Tryz.func106,Tryz.ntmps106
 go_wp2_with (first|(go_at_call 121;refine(aV _ Jb).mono ?_;rintro r wa ⟨rfl,aA⟩;have aW:=Jg aA;have bS:=Jf aA;have cN:w.heap.size+2<=wa.heap.size:=U3;have dG:=lt0 w wa;have aX:=ltA w 1 wa))
 refine Jo fun W0 ag=>?_;have ax:=Nd w W0 L1;have hmb1:w.heap.size+1<(wa.heap.size+1):=Ua;have hmb2:(wa.heap.size+1)<W0.heap.size:=Vu
 have eU:Jaj Tryz.prog 9 3 W0 (wa.heap.size+1) 0 (fun _=>none) 0:=by
  rw [ag];have h1:=Jaj.made (P:=Tryz.prog) (k:=9) (e:=3) (wa.alloc (.cells #[.int .i64 0,.int .i64 0,.int .i64 0] 32));exact Lk
 have x0:=Nb W0 w.heap.size 0 (.string p.name) Uf;have x1:=Nb W0 w.heap.size 1 (.slice A1 p.ins.length c1) Uf;have x2:=Nb W0 w.heap.size 2 (.slice A2 p.outs.length c2) Uf;have x3:=Nb W0 w.heap.size 3 (.slice A3 p.locals.length c3) Uf;have x4:=Nb W0 w.heap.size 4 (.slice A4 p.eqs.length c4) Uf;have f0:=Na W0 (w.heap.size+1) 0 0 Uf;have f1:=Na W0 (w.heap.size+1) 1 0 Uf;have f2:=Na W0 (w.heap.size+1) 2 0 Uf;have z0:=Nc W0 (w.heap.size+1) 0 Uf;have z1:=Nc W0 (w.heap.size+1) 1 Uf;have z2:=Nc W0 (w.heap.size+1) 2 Uf;have hmb0:w.heap.size<(wa.heap.size+1):=Ua;clear ag aW bS aA cN dG aX aV gI dp fM
 go_loopw [26] (fun i wr=>∃(k n c:Nat) (f:ByteArray->Option Int),k<=p.eqs.length/\i = .int .i64 k/\n<=k/\c<=k/\Hid (Jaj Tryz.prog 9 3 wr (wa.heap.size+1) n f c)/\Hid (Yt k f c (p.eqs.drop k)=FW)/\Hid (W0.grownBy wr (some (wa.heap.size+1)))) (fun i _=>p.eqs.length-(intOf i).toNat)
 case atStart=>exact⟨0,0,0,_,Np,rfl,Ns _,Ns _,Nf eU,Nf (by rw [List.drop_zero];exact HFW.out.symm),Nf ⟨rfl,rfl,rfl,Ns _,fun _ _ _=>rfl⟩⟩
 case round=>
  obtain⟨k,n,c,f,hk,rfl,hn,hc,hm,nf,bB⟩:=hrel;have eC:=bB.out.size;have dh:=Nd w wr (Kou ax bB.out (fun b hb=>Uv) Ua);have iQ:Below (wa.heap.size+1) W0 wr:=Kou (Below.refl (wa.heap.size+1) W0) bB.out (fun b hb=>Uv) Ua;have fG:=Jdu iQ;have wZ:=Jfi iQ;have ej:=hm.out;have dW:=hm.out.lt;have qn:=lt0 w wr
  by_cases am:k<p.eqs.length
  ·obtain⟨q,hx,-,hd⟩:=Kl am;obtain⟨b,off,B1,n1,B2,n2,rfl,aH,⟨g0,g1,g2,g3,g4,g5,g6,g7,g8,g9,s1,s2⟩⟩:=(bT.later dh).get hx;have qo:=nf.out;rw [hd,Yt] at qo;have dn:=(jR.out q (Ni hx)).1;clear hd hx nf
   cases ek:(q.delay == 0)
   ·rw [ek,if_neg Uh] at qo;have HW:=Nf qo;clear qo
    go_wp2_with fail
    go_roundw
    case rel=>exact⟨k+1,n,c,f,Ua,Uw,Ua,Ua,Nf (ej.keep1 (heap_alloc_old _ _ dW)),HW,Nf (Qn bB.out (World.grownBy_alloc wr _ _))⟩
    case measure=>simp [intOf];omega
   ·rw [ek,if_pos rfl] at qo;have HW:=Nf qo;clear qo
    go_wp2_with (first|(at_mapUpdate;go_loud (refine Jte rfl (.tmp 34) (.tmp 36) (.tmp 37) 235 rfl Tryz.underlying9 Tryz.underlying235 Tryz.underlying3 (wa.heap.size+1) n f c q.name (k:Int) rfl (ej.keep1 (heap_alloc_old _ _ dW)) Ua rfl rfl dn Ua ?_;intro w2 cI aG;have kj:=Nf cI;have kr:=Nf aG;clear cI aG)))
    go_roundw
    case rel=>exact⟨k+1,n+1,_,_,Ua,Uw,Ua,by split <;> omega,kj,HW,Nf (Qn bB.out (Qn (World.grownBy_alloc wr _ _) kr.out))⟩
    case measure=>simp [intOf];omega
  ·obtain rfl:k=p.eqs.length:=Ua;have qo:=nf.out;rw [Nn] at qo;have hfw:FW=(f,c):=qo.symm;have ho:=HO.out;rw [hfw] at ho;have sK:=Nf ho.symm;clear nf qo hfw ho HO HFW
   go_wp2_with (first|(go_at_call 122;go_loud (refine(qm.out _ Jb).mono ?_;rintro r wn ⟨⟨g,xs,rfl,rG,ae,vE⟩,dI⟩;have qJ:=Jg dI;have lF:=Jf dI;have qp:=dI.size;have xa:=lt0 w wn;have hyn1:=ltA w 1 wn;have tm:=Nf ae;have HNR:=Nf vE;clear ae vE)))
   have hmn:(wa.heap.size+1)<g:=Ua;refine Jo fun W1 bt=>?_;have hW1n:wn=W1:=by rw [bt]
   subst hW1n;have vF:=Nd w wn (Jn dh dI Ua);have vG:Below (wa.heap.size+1) W0 wn:=iQ.trans (dI.mono Ua);have iw:Hid (Jaj Tryz.prog 9 3 wn (wa.heap.size+1) n f c):=Nf (ej.bel dI);have hglt:g<wn.heap.size:=(tm.out.lt g rfl).2;clear qJ lF fG wZ iQ dh bB hm ej bt qm dI
   go_loopw [9] (fun o wr=>∃(c:Nat) (f:ByteArray->Option Int) (B:Option Addr) (bc:Nat) (out:List Int),out.length+c<=1000000/\o = .slice B out.length bc/\Hid (Jaj Tryz.prog 9 3 wr (wa.heap.size+1) n f c)/\Hid (Jj9 nd p.eqs c f c out=O)/\Hid (wr.ownsRow wn.heap.size 3 1 (.slice B out.length bc) out.length (out.map (.int .i64)))/\Hid (wn.grownBy wr (some (wa.heap.size+1)))) (fun o _=>1000000-Jfh o)
   case atStart=>exact⟨c,f,none,0,[],Ui,rfl,iw,sK,Nf (Nw),Nf ⟨rfl,rfl,rfl,Ns _,fun _ _ _=>rfl⟩⟩
   case round=>
    clear iw sK hc;obtain⟨c,f,B,bc,out,lq,rfl,hm,aa,iX,bB⟩:=hrel;have eC:=bB.out.size;have aC:=Nd w wr (Kou vF bB.out (fun b hb=>Uv) Ua);have iQ:Below (wa.heap.size+1) W0 wr:=Kou vG bB.out (fun b hb=>Uv) Ua;have fG:=Jdu iQ;have wZ:=Jfi iQ;have wD:=ltA w 1 wr;have tL:=lt0 w wr
    cases c with
    | zero=>
     have hv:O=(out,(0,0,0)):=by rw [<-aa.out];rfl
     have ql:=iX.out;have HV:=Nf hv;clear hv aa
     go_wp2_with (first|(at_len;go_loud (refine Jjm rfl (.tmp 41) 235 rfl Tryz.underlying235 (wa.heap.size+1) n f 0 rfl hm.out ?_)))
     refine Nv (v:= .tuple #[.slice B out.length bc,.agg #[.int .i64 0,.int .i64 0,.int .i64 0]]) Gj rfl ⟨⟨.slice B out.length bc,Ln,?_⟩,?_⟩
     ·rw [HV.out];dsimp only;refine K8 (B:=wn.heap.size) ?_ Ua
      (repeat first|(with_reducible assumption)|refine Js ?_|refine Kp ?_|refine Kn ?_ (fun b hb=>by have:=(ql.lt b hb).1;omega) _ _)
     ·(repeat refine Jh ?_)
      exact Km
    | succ c=>
     have gm:=aa.out;rw [Jj9,if_pos Ua,Nat.add_sub_cancel] at gm;obtain⟨S,hS⟩:∃S,S=Jbi f nd 0 p.eqs (-1):=⟨_,rfl⟩;rw [<-hS] at gm;have wY:=Nf gm;have tN:=Nf hS;clear gm aa hS;obtain⟨W3,rfl⟩:∃W3,W3=wr:=⟨wr,rfl⟩;have ss:(0:Int)<((c+1:Nat):Int):=Ua;have hw3g:g<W3.heap.size:=Ua
     go_wp2_with (first|(at_len;go_loud (refine Jjm rfl (.tmp 41) 235 rfl Tryz.underlying235 (wa.heap.size+1) n f (c+1) rfl hm.out ?_)))
     go_loopw [10,11,47] (fun x l i wr=>∃(k:Nat) (m0:Int),k<=p.eqs.length/\i = .int .i64 k/\x = .int .i64 (-1)/\l = .int .i64 m0/\Hid (Jbi f nd k (p.eqs.drop k) m0=S)/\Below W3.heap.size W3 wr) (fun _ _ i _=>p.eqs.length-(intOf i).toNat)
     case atStart=>exact⟨0,-1,Np,rfl,rfl,rfl,Nf (by rw [List.drop_zero];exact tN.out.symm),Nt⟩
     case round=>
      obtain⟨k,m0,hk,rfl,rfl,rfl,pZ,dB⟩:=hrel;have rR:=Nd w wr (Jn aC dB Ua);have ky:=Jg dB;have lc:=Jf dB;have rP:=dB.size;have hwv:=lt0 w wr;have hwv1:=ltA w 1 wr;have hwvg:g<wr.heap.size:=Ua
      by_cases am:k<p.eqs.length
      ·obtain⟨q,hx,-,hd⟩:=Kl am;obtain⟨b,off,B1,n1,B2,n2,rfl,aH,⟨g0,g1,g2,g3,g4,g5,g6,g7,g8,g9,s1,s2⟩⟩:=(bT.later rR).get hx;have dw:=pZ.out;rw [hd,Jbi] at dw;obtain⟨Ar,cr,sd,fb⟩:=hnrow g _ _ xs HNR.out k q am hx;have kq:Qf wr (nd q) Ar cr:=fb wr (fun b h1 h2 _=>(dB.block b Ua).trans (bB.out.block b h2 U2));have r0:=Nb W3 g k (.slice Ar (nd q).length cr) (Jr (bB.out.block g hglt U2) ((tm.out.cellAt k Ua).trans sd));have ej:=hm.out.bel dB;have dW:=ej.lt;have aj:=Ni hx;have dn:=(jR.out q aj).1;have lg:=HNDS.out q aj;have HX:=Nf hx;have hbk:b<wr.heap.size:=Ua;clear sd fb hd hx pZ aj s1 s2
       rcases lF:f q.name with _|v
       ·rw [lF,if_neg Uh] at dw;have rb:=Nf lF;have vH:=Nf dw;clear lF dw;exact Bi
       by_cases uY:v=(k:Int)
       ·subst uY;rw [lF,if_pos rfl] at dw;have rb:=Nf lF;have t5:((k:Int) != (k:Int))=false:=Uh;clear lF
        cases xb:Jb2 f (nd q)
        ·rw [xb,if_neg Uh] at dw;have HRD:=Nf xb;clear xb
         by_cases eU:m0<0
         ·rw [if_pos eU] at dw;have vH:=Nf dw;clear dw
          go_wp2_with (first|(at_lookup;go_loud (refine Qh rfl (.tmp 53) (.tmp 55) 235 rfl Tryz.underlying9 Tryz.underlying235 Tryz.underlying3 (Kj _) (wa.heap.size+1) n f q.name rfl ((ej.keep1 (heap_alloc_old _ _ dW)).plain) rfl dn ?_;rw [rb.out];simp only [Option.getD_none,Option.isSome_none,Option.getD_some,Option.isSome_some]))|(go_at_call 123;go_loud (refine(Jf0 (nd q) Ar cr (wa.heap.size+1) n f _ (kq.later Jb) ((ej.keep1 (heap_alloc_old _ _ dW)).plain) lg).mono ?_;rw [HRD.out];rintro r wy ⟨rfl,gl⟩;have hcy:=Jg gl;have hfy:=Jf gl;have hzy:wr.heap.size+1<=wy.heap.size:=Gf;have hyy:=lt0 w wy;have pu:=ltA w 1 wy)))
          go_roundw
          case rel=>exact⟨k+1,k,Ua,Uw,rfl,rfl,vH,Jb⟩
          case measure=>simp [intOf];try omega
         ·rw [if_neg eU] at dw;have vH:=Nf dw;clear dw
          go_wp2_with (first|(at_lookup;go_loud (refine Qh rfl (.tmp 53) (.tmp 55) 235 rfl Tryz.underlying9 Tryz.underlying235 Tryz.underlying3 (Kj _) (wa.heap.size+1) n f q.name rfl ((ej.keep1 (heap_alloc_old _ _ dW)).plain) rfl dn ?_;rw [rb.out];simp only [Option.getD_none,Option.isSome_none,Option.getD_some,Option.isSome_some]))|(go_at_call 123;go_loud (refine(Jf0 (nd q) Ar cr (wa.heap.size+1) n f _ (kq.later Jb) ((ej.keep1 (heap_alloc_old _ _ dW)).plain) lg).mono ?_;rw [HRD.out];rintro r wy ⟨rfl,gl⟩;have hcy:=Jg gl;have hfy:=Jf gl;have hzy:wr.heap.size+1<=wy.heap.size:=Gf;have hyy:=lt0 w wy;have pu:=ltA w 1 wy)))
          go_roundw
          case rel=>exact⟨k+1,m0,Ua,Uw,rfl,rfl,vH,Jb⟩
          case measure=>simp [intOf];try omega
        ·rw [xb,if_pos rfl] at dw;have HRD:=Nf xb;have gm:=wY.out;rw [<-dw] at gm;dsimp only at gm;rw [if_neg Ua,Jms (q:=q) (by rw [Int.toNat_natCast];exact HX.out)] at gm;have HV:=Nf gm;have eR:¬((k:Int)<0):=Ua;clear xb dw gm wY tN
         by_cases eU:m0<0
         ·exact Tj
         ·exact Tj
       ·rw [lF,if_neg (by intro e;injection e with e;exact uY e)] at dw;have rb:=Nf lF;have vH:=Nf dw;have t5:(v != (k:Int))=true:=by simpa using uY
        clear lF dw uY;exact Bi
      ·obtain rfl:k=p.eqs.length:=Ua;have dw:=pZ.out;rw [Nn,Jbi] at dw;have gm:=wY.out;rw [<-dw] at gm;dsimp only at gm;rw [if_pos Ug] at gm;have HV:=Nf gm;clear gm dw pZ
       go_wp2_with fail
       refine Nv (v:= .tuple #[.slice none 0 0,.agg #[.int .i64 3,.int .i64 m0,.int .i64 22]]) Gj rfl ⟨⟨.slice none 0 0,by rw [<-HV.out],?_⟩,?_⟩
       ·rw [<-HV.out];exact Nw
       ·(repeat refine Jh ?_)
        exact Km
end Go.Proofs.YtdgjplldlfeolaaGreatDoor
namespace Go.Proofs.YtdgjplldlfeolaaGreatDoor
open Go.RowKit
namespace Ex
mutual
def reach (g:ByteArray->Bool):Ex->Bool
 | mk k _ s sub=>g s || (if k=7 then reachF g sub else reachL g sub)
def reachF (g:ByteArray->Bool):List Ex->Bool
 | []=>false
 | x :: _=>reach g x
def reachL (g:ByteArray->Bool):List Ex->Bool
 | []=>false
 | x :: r=>reach g x || reachL g r
end
theorem reach_eq (g:ByteArray->Bool) (e:Ex):e.reach g=(g e.name || (if e.kind=7 then reachF g e.sub else reachL g e.sub)):=by cases e;rw [reach];rfl
theorem reachL_app (g:ByteArray->Bool):∀(a b:List Ex),reachL g (a ++ b)=(reachL g a || reachL g b)
 | [],b=>by simp [reachL]
 | x :: a,b=>by rw [List.cons_append,reachL,reachL,reachL_app g a b,Bool.or_assoc]
theorem sizeL_app:∀(a b:List Ex),sizeL (a ++ b)=sizeL a+sizeL b
 | [],b=>by simp [sizeL]
 | x :: a,b=>by rw [List.cons_append,sizeL,sizeL,sizeL_app a b];omega
theorem size_pos (e:Ex):0<e.size:=by rw [size_eq];omega
theorem len_sizeL:∀l:List Ex,l.length<=sizeL l
 | []=>Uh
 | x :: l=>by have:=len_sizeL l;have:=x.size_pos;rw [sizeL,Nl];omega
end Ex
def onM (f:ByteArray->Option Int) (s:ByteArray):Bool:=decide (0<(f s).getD 0)
def inL (l:List ByteArray) (s:ByteArray):Bool:=!s.toList.isEmpty && Ka l s
def Jc7 (f:ByteArray->Option Int) (l:List ByteArray):Prop:=∀s,onM f s=inL l s
theorem Juq:Jc7 (fun _=>none) []:=fun s=>by unfold onM inL Ka;simp
theorem Jlu {f:ByteArray->Option Int} {l:List ByteArray} {n:ByteArray} (h:Jc7 f l) (hn:n.toList.isEmpty=false):Jc7 (upd f n 1) (l ++ [n]):=fun s=>by
 have hs:=h s;unfold onM inL at hs ⊢;rw [Jcx,Jgw];unfold upd
 by_cases hd:s.data=n.data
 ·have fE:s=n:=by ext1;exact hd
  rw [if_pos hd,fE,hn];exact Uh
 ·exact Ua3
theorem Jc7.reach {f:ByteArray->Option Int} {l:List ByteArray} (h:Jc7 f l) (e:Ex):e.reach (onM f)=e.reach (inL l):=by rw [show onM f=inL l from funext h]
def Jbj (l:List Qe):List ByteArray:=(l.filter (fun q=>q.delay == 2)).map (·.name)
theorem Jlf (l:List Qe) {k:Nat} {q:Qe} (h:l[k]?=some q):Jbj (l.take (k+1))=if (q.delay == 2)=true then Jbj (l.take k) ++ [q.name] else Jbj (l.take k):=by
 rw [List.take_add_one,h];unfold Jbj;show((l.take k ++ [q]).filter _).map _=_;rw [List.filter_append]
 cases hd:q.delay == 2 <;> simp [hd]
def Xj (eqs:List Qe):List ByteArray->List Int->List ByteArray
 | out,[]=>out
 | out,j :: r=>Xj eqs (match eqs[j.toNat]? with|some q=>if q.e.reach (inL out)=true then out ++ [q.name] else out|none=>out) r
def Qs (p:Pr):List ByteArray×(Int×Int×Int):=if (Kot p).2=(0,0,0) then(Xj p.eqs (Jbj p.eqs) (Kot p).1,(0,0,0)) else([],(Kot p).2)
theorem Yg {p:Pr} (h:(Kot p).2=(0,0,0)):Qg p=(0,0,0)/\(Kot p).1.length<=p.eqs.length/\∀(i:Nat) (j:Int),(Kot p).1[i]?=some j->∃(m:Nat) (q:Qe),j=m/\p.eqs[m]?=some q:=by
 unfold Kot at h ⊢
 by_cases aN:Qg p=(0,0,0)
 ·rw [if_pos aN] at h ⊢;refine⟨aN,?_⟩
  rcases Jiu (Xk aN).1 with ⟨res,h1,h2,h3⟩|⟨out,m,q,h1,_⟩
  ·rw [h1];refine⟨by have:=Jvy p.eqs;show res.length<=_;omega,fun i j hi=>?_⟩;obtain⟨h0,q,hq,_⟩:=h3 i j hi;exact⟨j.toNat,q,Ua,hq⟩
  ·rw [h1] at h;exact absurd h Uh
 ·rw [if_neg aN] at h;exact absurd h aN
end Go.Proofs.YtdgjplldlfeolaaGreatDoor
