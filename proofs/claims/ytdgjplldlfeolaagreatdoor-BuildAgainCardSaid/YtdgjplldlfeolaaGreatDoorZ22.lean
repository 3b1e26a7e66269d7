/- Lemmas. -/
import Derived.Test.YtdgjplldlfeolaaGreatDoorZ17
import Derived.Test.YtdgjplldlfeolaaGreatDoorZ19
import Derived.Test.YtdgjplldlfeolaaGreatDoorZ00
import Derived.Test.YtdgjplldlfeolaaGreatDoorZ01
import Derived.Test.YtdgjplldlfeolaaGreatDoorRows
import Derived.Test.YtdgjplldlfeolaaGreatDoorZ03
import Derived.IntWalk
import Derived.Test.YtdgjplldlfeolaaGreatDoorZ14
import Derived.Test.YtdgjplldlfeolaaGreatDoorZ10
import Derived.Test.YtdgjplldlfeolaaGreatDoorZ02
import Derived.Laws.StructEq
import Derived.Test.YtdgjplldlfeolaaGreatDoorZ06
import Derived.Test.YtdgjplldlfeolaaGreatDoorZ13
import Derived.Test.YtdgjplldlfeolaaGreatDoorZ16
import Derived.Test.YtdgjplldlfeolaaGreatDoorZ04
import Derived.WalkMore
set_option linter.unusedVariables false
set_option linter.unusedSimpArgs false
set_option maxRecDepth 100000
set_option maxHeartbeats 64000000
namespace Go.Proofs.YtdgjplldlfeolaaGreatDoor
open Go.RowKit
theorem Jbk {l:List ByteArray} {s:ByteArray} : Ka l s=true<->s∈l:=by
 unfold Ka;rw [List.any_eq_true]
 constructor
 ·rintro⟨x,hx,h⟩;rw [Zf] at h;rw [<-h];exact hx
 ·intro h;exact⟨s,h,by rw [Zf]⟩
theorem Jb5 {l:List ByteArray} {s:ByteArray} : Ka l s=false<->s ∉ l:=by
 rw [<-Bool.not_eq_true,Jbk]
def Jbq (l:List Qe):List ByteArray:=(l.filter (fun q=>q.delay != 0)).map (·.name)
def Yn (l:List Qe):Nat:=(l.filter (fun q=>q.delay == 0)).length
theorem Jvy (l:List Qe):Yn l<=l.length:=List.length_filter_le _ _
theorem Jdq {l:List Qe} {s:ByteArray} : s∈Jbq l<->∃q∈l,q.delay≠0/\q.name=s:=by
 unfold Jbq;rw [List.mem_map]
 constructor
 ·rintro⟨q,hq,rfl⟩;rw [List.mem_filter] at hq;exact⟨q,hq.1,by simpa using hq.2,rfl⟩
 ·rintro⟨q,hq,hd,rfl⟩;exact⟨q,by rw [List.mem_filter];exact⟨hq,by simpa using hd⟩,rfl⟩
def Yj (p:Pr):List ByteArray:=p.ins.map (·.name) ++ Jbq p.eqs
def Jbo (p:Pr):List Int×(Int×Int×Int):=Jfk (ofR (Je p)) p.eqs (Yn p.eqs) (Yn p.eqs) (Yj p) []
def Yt:Nat->(ByteArray->Option Int)->Nat->List Qe->(ByteArray->Option Int)×Nat
 | _,f,c,[]=>(f,c)
 | k,f,c,q :: r=>if (q.delay == 0)=true then Yt (k+1) (upd f q.name (k:Int)) (if (f q.name).isSome then c else c+1) r else Yt (k+1) f c r
theorem Jim:∀(l:List Qe) (k:Nat) (f:ByteArray->Option Int) (c:Nat),l.Pairwise (fun a b=>a.name≠b.name)->(∀q∈l,f q.name=none)->
  (∀s,(∀q∈l,q.delay=0->q.name≠s)->(Yt k f c l).1 s=f s)/\(∀(i:Nat) (q:Qe),l[i]?=some q->q.delay=0->(Yt k f c l).1 q.name=some ((k+i:Nat):Int))/\(Yt k f c l).2=c+Yn l
 | [],k,f,c,_,_=>⟨fun s _=>rfl,by simp,by simp [Yt,Yn]⟩
 | q :: r,k,f,c,hp,hf=>by
  obtain⟨ii,gL⟩:=List.pairwise_cons.1 hp
  have oF:∀s,s≠q.name->upd f q.name (k:Int) s=f s:=by
   intro s hs;unfold upd;rw [if_neg];intro hd;exact hs (by ext1;exact hd)
  have xi:upd f q.name (k:Int) q.name=some (k:Int):=by unfold upd;rw [if_pos rfl]
  rw [Yt]
  by_cases hd:q.delay=0
  ·rw [if_pos (by simpa using hd),hf q (by simp)];obtain⟨a1,a2,a3⟩:=Jim r (k+1) (upd f q.name (k:Int)) (c+1) gL (fun x hx=>by rw [oF _ (fun e=>ii x hx e.symm)];exact hf x (by simp [hx]));refine⟨fun s hs=>?_,fun i x hi hx=>?_,?_⟩
   ·rw [show(if (none:Option Int).isSome=true then c else c+1)=c+1 from rfl,a1 s fun x hx rd=>hs x (by simp [hx]) rd];exact oF s fun e=>hs q (by simp) hd e.symm
   ·rw [show(if (none:Option Int).isSome=true then c else c+1)=c+1 from rfl]
    cases i with
    | zero=>
     obtain rfl:q=x:=by simpa using hi
     rw [a1 q.name fun y hy _ e=>ii y hy e.symm,xi];rfl
    | succ i=>
     rw [a2 i x (by simpa using hi) hx]
     congr 2;omega
   ·rw [show(if (none:Option Int).isSome=true then c else c+1)=c+1 from rfl,a3];have:Yn (q :: r)=Yn r+1:=by unfold Yn;rw [List.filter_cons,if_pos (by simpa using hd)];rfl
    omega
  ·rw [if_neg (by simpa using hd)];obtain⟨a1,a2,a3⟩:=Jim r (k+1) f c gL (fun x hx=>hf x (by simp [hx]));refine⟨fun s hs=>a1 s fun x hx rd=>hs x (by simp [hx]) rd,fun i x hi hx=>?_,?_⟩
   ·cases i with
    | zero=>
     obtain rfl:q=x:=by simpa using hi
     exact absurd hx hd
    | succ i=>
     rw [a2 i x (by simpa using hi) hx]
     congr 2;omega
   ·rw [a3];have:Yn (q :: r)=Yn r:=by unfold Yn;rw [List.filter_cons,if_neg (by simpa using hd)]
    omega
namespace Ex
theorem Jmx {l:List Va} {x:Ex} {r:List Ex} (h:(typL l (x :: r)).2=0):(typ l x).2=0/\(typL l r).2=0:=by
 simp only [typL] at h
 by_cases hx:(typ l x).2=0
 ·rw [if_pos hx] at h;refine⟨hx,?_⟩;unfold Ku at h
  by_cases hr:(typL l r).2=0
  ·exact hr
  ·rw [if_neg hr] at h;exact absurd h hr
 ·rw [if_neg hx] at h;exact absurd h hx
theorem Jh2 {L:List Va} : ∀(r:List Ex),(∀x∈r,(typ L x).2=0->∀l s,s∈named l x->s∈l\/(K7 L s).2=true)->(typL L r).2=0->∀l s,s∈namedL l r->s∈l\/(K7 L s).2=true
 | [],_,_,l,s,hs=> .inl (by simpa [namedL] using hs)
 | x :: r,h,ht,l,s,hs=>by
  obtain⟨h1,h2⟩:=Jmx ht;rw [namedL] at hs
  rcases Jh2 r (fun y hy=>h y (by simp [hy])) h2 _ s hs with h3|h3
  ·exact h x (by simp) h1 l s h3
  ·exact .inr h3
theorem named_found {L:List Va} (e:Ex):(typ L e).2=0->∀l s,s∈named l e->s∈l\/(K7 L s).2=true:=by
 induction e using ind with
 | h e ih=>
  intro ht l s hs;rw [typ_eq] at ht
  by_cases hr:(typL L e.sub).2=0
  ·rw [if_pos hr] at ht;rw [named_eq] at hs
   rcases Jh2 e.sub ih hr _ s hs with h1|h1
   ·unfold Yw at h1
    by_cases he:e.name.toList.isEmpty=true
    ·rw [if_pos he] at h1;exact .inl h1
    ·rw [if_neg he] at h1
     by_cases hh:Ka l e.name=true
     ·rw [if_pos hh] at h1;exact .inl h1
     ·rw [if_neg hh] at h1
      rcases List.mem_append.1 h1 with h2|h2
      ·exact .inl h2
      ·obtain rfl:s=e.name:=by simpa using h2
       right
       unfold Y2 at ht
       cases hf:(K7 L e.name).2
       ·rw [if_pos ⟨by simpa using he,hf⟩] at ht;exact absurd ht (by decide)
       ·rfl
   ·exact .inr h1
  ·rw [if_neg hr] at ht;exact absurd ht hr
end Ex
theorem Jiq {L:List Va} {e:Ex} (h:(e.typ L).2=0) {s:ByteArray} (hs:s∈Kx e):∃v∈L,v.name=s:=by
 have hf:(K7 L s).2=true:=by
  unfold Kx at hs
  split at hs
  ·simp at hs
  ·rcases Ex.named_found e h [] s hs with h1|h1
   ·simp at h1
   ·exact h1
 unfold K7 at hf
 cases hv:Qi L s with
 | none=>rw [hv] at hf;simp at hf
 | some j=>
  obtain⟨k,v,_,hk,hn⟩:=Zi hv;exact⟨v,List.mem_of_getElem? hk,hn⟩
theorem Xp {p:Pr} (h:J7 p=(0,0,0)):Qw p=true/\(∀(i j:Nat) (u v:Va),(Je p)[i]?=some u->(Je p)[j]?=some v->u.name=v.name->i=j)/\∀q∈p.eqs,(q.e.typ (Je p)).2=0:=by
 unfold J7 at h
 by_cases he:K5 p≠0
 ·rw [if_pos he] at h;simp at h
 rw [if_neg he] at h
 by_cases hb:8<p.ins.length\/8<p.outs.length\/24<(Je p).length
 ·rw [if_pos hb] at h;simp at h
 rw [if_neg hb] at h;have jn:=Z5 (Decidable.not_not.1 he);unfold Jhl at h
 cases hd:Jah (Je p) 0 (Je p) with
 | some k=>rw [hd] at h;simp at h
 | none=>
 rw [hd] at h;simp only at h;unfold Jkn at h
 cases hq:(Zy (Je p) p.ins.length 0 (fun _=>none) p.eqs).1 with
 | some k=>rw [hq] at h;simp at h
 | none=>
 have re:=Jg7 _ _ hd;refine⟨jn,fun i j u v hi hj hn=>?_,fun q kB=>?_⟩
 ·have h1:=re i u hi;have h2:=re j v hj;rw [hn,h2] at h1;omega
 ·obtain⟨d',hd'⟩:=(Jfq _ _ _ hq).2.1 q kB;obtain⟨j,_,_,_,h4,_⟩:=Jhb hd';exact h4
theorem Jjd {L:List Va} : ∀(r:List Va) (k:Nat),Yy L k r=none->∀v∈r,Yc L v=0
 | [],_,_,v,hv=>by simp at hv
 | u :: r,k,h,v,hv=>by
  rw [Yy] at h
  by_cases hc:Yc L u≠0
  ·rw [if_pos hc] at h;cases h
  ·rw [if_neg hc] at h
   rcases List.mem_cons.1 hv with rfl|hv
   ·exact Decidable.not_not.1 hc
   ·exact Jjd r (k+1) h v hv
theorem Xk {p:Pr} (h:Qg p=(0,0,0)):J7 p=(0,0,0)/\∀v∈Je p,Yc (Je p) v=0:=by
 unfold Qg at h
 by_cases hc:J7 p≠(0,0,0)
 ·rw [if_pos hc] at h;exact absurd h hc
 rw [if_neg hc] at h;refine⟨Decidable.not_not.1 hc,?_⟩;unfold Jgx at h
 cases hv:Yy (Je p) 0 (Je p) with
 | some k=>rw [hv] at h;simp at h
 | none=>exact Jjd _ _ hv
theorem Jpm {s:ByteArray} : ∀ {r:List Qe} {q:Qe},q∈r->q.name=s->1<=cnt s r
 | [],q,h,_=>by simp at h
 | x :: r,q,h,hn=>by
  rw [cnt]
  rcases List.mem_cons.1 h with rfl|h
  ·rw [if_pos hn];omega
  ·have:=Jpm h hn;omega
theorem Jix:∀(l:List Qe),(∀q∈l,cnt q.name l<=1)->l.Pairwise (fun a b=>a.name≠b.name)
 | [],_=>List.Pairwise.nil
 | q :: r,h=>by
  refine List.pairwise_cons.2 ⟨fun b hb hn=>?_,Jix r fun x hx=>?_⟩
  ·have h1:=h q (by simp);rw [cnt,if_pos rfl] at h1;have:=Jpm hb hn.symm;omega
  ·have h1:=h x (by simp [hx]);rw [cnt] at h1;omega
theorem Jmb {l:List Qe} (h:l.Pairwise (fun a b=>a.name≠b.name)) {i j:Nat} {a b:Qe} (hi:l[i]?=some a) (hj:l[j]?=some b) (hn:a.name=b.name):i=j:=by
 rw [List.pairwise_iff_getElem] at h;obtain⟨dN,dR⟩:=List.getElem?_eq_some_iff.1 hi;obtain⟨hj1,hj2⟩:=List.getElem?_eq_some_iff.1 hj
 rcases Nat.lt_trichotomy i j with am|he|am
 ·exact absurd (by rw [dR,hj2];exact hn) (h i j dN hj1 am)
 ·exact he
 ·exact absurd (by rw [dR,hj2];exact hn.symm) (h j i hj1 dN am)
theorem Jbe {p:Pr} (h:J7 p=(0,0,0)):p.eqs.Pairwise (fun a b=>a.name≠b.name)/\(∀q∈p.eqs,q.name ∉ p.ins.map (·.name))/\∀v∈Je p,v.name∈p.ins.map (·.name)\/∃q∈p.eqs,q.name=v.name:=by
 obtain⟨_,hb,_⟩:=Jyb h
 have nj:∀q∈p.eqs,∃(j:Nat) (v:Va),(Je p)[j]?=some v/\v.name=q.name:=by
  intro q hq;obtain⟨j,hj⟩:=Jf5 h q hq;obtain⟨k,v,_,hk,hn⟩:=Zi hj;exact⟨k,v,hk,hn⟩
 refine⟨Jix _ fun q hq=>?_,fun q hq hm=>?_,fun v hv=>?_⟩
 ·obtain⟨j,v,hj,hn⟩:=nj q hq;rw [<-hn,hb j v hj]
  split <;> omega
 ·rw [List.mem_map] at hm;obtain⟨v,hv,hn⟩:=hm;obtain⟨i,hi⟩:=List.getElem?_of_mem hv;have am:i<p.ins.length:=(List.getElem?_eq_some_iff.1 hi).1
  have dR:(Je p)[i]?=some v:=by
   unfold Je;rw [List.append_assoc,List.getElem?_append_left am];exact hi
  have:=hb i v dR;rw [if_pos am] at this;have h2:=Jpm hq hn.symm;omega
 ·obtain⟨i,hi⟩:=List.getElem?_of_mem hv
  by_cases am:i<p.ins.length
  ·left
   have:p.ins[i]?=some v:=by
    unfold Je at hi;rw [List.append_assoc,List.getElem?_append_left am] at hi;exact hi
   exact List.mem_map.2 ⟨v,List.mem_of_getElem? this,rfl⟩
  ·right
   have h1:=hb i v hi;rw [if_neg am] at h1;refine Classical.byContradiction fun oG=>?_;have:=Jkj (s:=v.name) (r:=p.eqs) fun q hq hn=>oG ⟨q,hq,hn⟩;omega
theorem Jnr {s:ByteArray} : ∀(L:List Va) (c:Int×ByteArray),(∀v∈L,v.name≠s)->L.foldl (fun c v=>if s.data=v.name.data then(v.ck,v.cn) else c) c=c
 | [],c,_=>rfl
 | v :: L,c,h=>by
  rw [List.foldl_cons,if_neg,Jnr L c fun u hu=>h u (by simp [hu])];intro hd;exact h v (by simp) (by ext1;exact hd.symm)
theorem Jm7 {s:ByteArray} : ∀(L:List Va) (c:Int×ByteArray),(∀(i j:Nat) (u v:Va),L[i]?=some u->L[j]?=some v->u.name=v.name->i=j)->L.foldl (fun c v=>if s.data=v.name.data then(v.ck,v.cn) else c) c=match Xb L s with|some v=>(v.ck,v.cn)|none=>c
 | [],c,_=>rfl
 | v :: L,c,h=>by
  have h':∀(i j:Nat) (u x:Va),L[i]?=some u->L[j]?=some x->u.name=x.name->i=j:=fun i j u x hi hj hn=>by
   have:=h (i+1) (j+1) u x (by simpa using hi) (by simpa using hj) hn;omega
  rw [List.foldl_cons,Xb]
  by_cases hs:v.name=s
  ·rw [if_pos (by rw [hs]),if_pos (by rw [Zf];exact hs),Jnr];intro u hu hn;obtain⟨i,hi⟩:=List.getElem?_of_mem hu;have:=h 0 (i+1) v u rfl (by simpa using hi) (by rw [hs,hn]);omega
  ·rw [if_neg (fun hd=>hs (by ext1;exact hd.symm)),if_neg (by rw [Zf];exact hs),Jm7 L c h']
theorem Jdd {v:Va} {b:Bool} (h:Ke v b=true):(v.ck=0/\v.cn.toList.isEmpty=true)\/(v.ck≠0/\v.cn.toList.isEmpty=false):=by
 simp only [Ke,Bool.and_eq_true] at h;have h3:=h.2
 by_cases h0:v.ck=0
 ·rw [if_pos h0] at h3;exact .inl ⟨h0,h3⟩
 ·rw [if_neg h0] at h3
  by_cases h1:v.ck=1\/v.ck=2
  ·rw [if_pos h1,Bool.and_eq_true] at h3;exact .inr ⟨h0,Jbx h3.2⟩
  ·rw [if_neg h1] at h3;simp at h3
theorem Jsf {p:Pr} (h:Qw p=true):∀v∈Je p,(v.ck=0/\v.cn.toList.isEmpty=true)\/(v.ck≠0/\v.cn.toList.isEmpty=false):=by
 simp only [Qw,Bool.and_eq_true,List.all_eq_true] at h;intro v hv;simp only [Je,List.mem_append] at hv
 rcases hv with (hv|hv)|hv
 ·exact Jdd (h.1.1.1.2 v hv)
 ·exact Jdd (h.1.1.2 v hv)
 ·exact Jdd (h.1.2 v hv)
theorem Ja3 {p:Pr} (h:Qg p=(0,0,0)) {q:Qe} (hq:q∈p.eqs):∃v∈Je p,Xb (Je p) q.name=some v/\v.name=q.name/\J9 (Je p) q.name=(v.ck,v.cn)/\((v.ck=0/\v.cn.toList.isEmpty=true)\/(v.ck≠0/\v.cn.toList.isEmpty=false/\∃u∈Je p,u.name=v.cn)):=by
 obtain⟨hc,dy⟩:=Xk h;obtain⟨jn,gG,htyp⟩:=Xp hc;obtain⟨j,hj⟩:=Jf5 hc q hq;obtain⟨k,v,_,hk,hf⟩:=Jgq _ _ 0 j hj;obtain⟨hm,hn⟩:=Jem hf;have eu:v.name=q.name:=by rw [<-Zf,beq_iff_eq];exact hn
 refine⟨v,hm,hf,eu,?_,?_⟩
 ·unfold J9;rw [Jm7 _ _ gG,hf]
 ·rcases Jsf jn v hm with h1|⟨h1,h2⟩
  ·exact .inl h1
  ·refine .inr ⟨h1,h2,?_⟩;have hd:=dy v hm;unfold Yc at hd;have aN:¬K9 v.ck v.cn 0 ⟨#[]⟩=true:=fun e=>h1 (Jdg.1 e).1;rw [if_neg aN] at hd
   cases hu:Xb (Je p) v.cn with
   | none=>rw [hu] at hd;simp at hd
   | some u=>
    obtain⟨hu1,hu2⟩:=Jem hu;exact⟨u,hu1,by rw [<-Zf,beq_iff_eq];exact hu2⟩
theorem Jui {p:Pr} (h:Qg p=(0,0,0)) {q:Qe} (hq:q∈p.eqs) (R:List ByteArray):(Z1 (Je p) q).all (Ka R)=(ofR (Je p) q).all (Ka R):=by
 obtain⟨v,hm,hf,hn,bO,nk⟩:=Ja3 h hq;unfold Z1 ofR;rw [bO,hf];dsimp only;unfold Yw
 rcases nk with ⟨h1,h2⟩|⟨h1,h2,_⟩
 ·rw [if_pos h1,if_pos h2]
 ·rw [if_neg h1,h2,if_neg (by simp)]
  by_cases hh:Ka (Kx q.e) v.cn=true
  ·rw [if_pos hh,List.all_append,Bool.eq_iff_iff];simp only [Bool.and_eq_true,List.all_eq_true];refine⟨fun a=>a.1,fun a=>⟨a,fun s hs=>?_⟩⟩;obtain rfl:s=v.cn:=by simpa using hs
   exact a _ (Jbk.1 hh)
  ·rw [if_neg hh]
theorem Jjh {p:Pr} (h:Qg p=(0,0,0)) {q:Qe} (hq:q∈p.eqs) {s:ByteArray} (hs:s∈Z1 (Je p) q):∃v∈Je p,v.name=s:=by
 obtain⟨v,hm,hf,hn,bO,nk⟩:=Ja3 h hq;have ht:=(Xp (Xk h).1).2.2 q hq;unfold Z1 at hs;rw [bO] at hs;dsimp only at hs
 rcases nk with ⟨h1,h2⟩|⟨h1,h2,u,hu,gG⟩
 ·rw [if_pos h1] at hs;exact Jiq ht hs
 ·rw [if_neg h1] at hs
  rcases List.mem_append.1 hs with h3|h3
  ·exact Jiq ht h3
  ·obtain rfl:s=v.cn:=by simpa using h3
   exact⟨u,hu,gG⟩
theorem Jsg {p:Pr} (h:J7 p=(0,0,0)):(∀(i:Nat) (q:Qe),p.eqs[i]?=some q->((Yt 0 (fun _=>none) 0 p.eqs).1 q.name=some (i:Int)<->Ka (Yj p) q.name=false))/\
  (∀v∈Je p,((Yt 0 (fun _=>none) 0 p.eqs).1 v.name).isSome=!Ka (Yj p) v.name)/\(Yt 0 (fun _=>none) 0 p.eqs).2=Yn p.eqs:=by
 obtain⟨xj,dV,dE⟩:=Jbe h;obtain⟨a1,a2,a3⟩:=Jim p.eqs 0 (fun _=>none) 0 xj (fun _ _=>rfl);generalize Yt 0 (fun _=>none) 0 p.eqs=W at *
 have dS:∀(i:Nat) (q:Qe),p.eqs[i]?=some q->q.delay=0->W.1 q.name=some (i:Int)/\Ka (Yj p) q.name=false:=by
  intro i q hi hd;refine⟨by rw [a2 i q hi hd,Nat.zero_add],?_⟩;rw [Jb5];unfold Yj;rw [List.mem_append,not_or];refine⟨dV q (List.mem_of_getElem? hi),fun hm=>?_⟩;obtain⟨x,hx,rd,xm⟩:=Jdq.1 hm;obtain⟨j,hj⟩:=List.getElem?_of_mem hx;obtain rfl:=Jmb xj hj hi xm;rw [hi] at hj;obtain rfl:q=x:=by injection hj
  exact rd hd
 have ek:∀(i:Nat) (q:Qe),p.eqs[i]?=some q->q.delay≠0->W.1 q.name=none/\Ka (Yj p) q.name=true:=by
  intro i q hi hd;refine⟨?_,?_⟩
  ·rw [a1 q.name fun x hx rd hn=>?_];obtain⟨j,hj⟩:=List.getElem?_of_mem hx;obtain rfl:=Jmb xj hj hi hn;rw [hi] at hj;obtain rfl:q=x:=by injection hj
   exact hd rd
  ·rw [Jbk];unfold Yj;rw [List.mem_append];exact .inr (Jdq.2 ⟨q,List.mem_of_getElem? hi,hd,rfl⟩)
 refine⟨fun i q hi=>?_,fun v hv=>?_,by rw [a3];omega⟩
 ·by_cases hd:q.delay=0
  ·obtain⟨h1,h2⟩:=dS i q hi hd;rw [h1,h2];simp
  ·obtain⟨h1,h2⟩:=ek i q hi hd;rw [h1,h2];simp
 ·rcases dE v hv with hm|⟨q,hq,hn⟩
  ·rw [a1 v.name fun x hx _ hn=>dV x hx (by rw [hn];exact hm)];have:Ka (Yj p) v.name=true:=by rw [Jbk];unfold Yj;exact List.mem_append.2 (.inl hm)
   rw [this];rfl
  ·obtain⟨i,hi⟩:=List.getElem?_of_mem hq;rw [<-hn]
   by_cases hd:q.delay=0
   ·obtain⟨h1,h2⟩:=dS i q hi hd;rw [h1,h2];rfl
   ·obtain⟨h1,h2⟩:=ek i q hi hd;rw [h1,h2];rfl
def Jdx (p:Pr):List Int×(Int×Int×Int):=Jj9 (Z1 (Je p)) p.eqs (Yt 0 (fun _=>none) 0 p.eqs).2 (Yt 0 (fun _=>none) 0 p.eqs).1 (Yt 0 (fun _=>none) 0 p.eqs).2 []
theorem Jtf {p:Pr} (h:Qg p=(0,0,0)):Jdx p=Jbo p:=by
 obtain⟨h1,h2,h3⟩:=Jsg (Xk h).1;unfold Jdx Jbo;rw [h3];refine Jue (fun q hq R=>Jui h hq R) (Yn p.eqs) _ _ _ _ (by simp) h1 fun q hq s hs=>?_;obtain⟨v,hv,rfl⟩:=Jjh h hq hs;exact h2 v hv
end Go.Proofs.YtdgjplldlfeolaaGreatDoor
namespace Go.Proofs.YtdgjplldlfeolaaGreatDoor
open Go.RowKit Go.Sort
theorem Jqt (p:Pr) (a:PrA) (w:World) (hg:Ql w) (hp:Kr w p a) (n1:p.ins.length<=1000000) (n2:p.outs.length<=1000000) (n3:p.locals.length<=1000000) (n4:p.eqs.length<=1000000) (aN:Qg p≠(0,0,0)) :
  Calls Tryz.prog 106 #[prV p a] w fun r w'=>r = .returned (.tuple #[.slice none 0 0,fV (Qg p)])/\Below w.heap.size w w':=by
 have aV:=fun W h=>Jhx p a W (hg.later h) (hp.later h) n1 n2 n3 n4
 have aS:((Qg p).1 == 0 && (Qg p).2.1 == 0 && (Qg p).2.2 == 0)=false:=by
  rw [Bool.eq_false_iff];intro h;simp only [Bool.and_eq_true,beq_iff_eq] at h;exact aN (Prod.ext h.1.1 (Prod.ext h.1.2 h.2))
 have dp:∀w,(Op.equalIn 10000 32 (.agg #[.int .i64 (Qg p).1,.int .i64 (Qg p).2.1,.int .i64 (Qg p).2.2]) (.agg #[.int .i64 0,.int .i64 0,.int .i64 0])).run Tryz.prog w = .ok false w:=fun w=>by rw [Zr,aS]
 have fM:Tryz.prog.eqGuardType Tryz.prog.depth 32=false:=by kernel_rfl
 clear aN aS;obtain⟨A1,c1,A2,c2,A3,c3,A4,c4⟩:=a;unfold prV fV at *;dsimp only at *;generalize (Qg p).1=k1 at *;generalize (Qg p).2.1=k2 at *;generalize (Qg p).2.2=k3 at *
 go_enter Tryz.func106,Tryz.ntmps106
 go_wp2_with (first|(go_at_call 121;refine(aV _ Jb).mono ?_;rintro r wa ⟨rfl,aA⟩;have aW:=Jg aA;have bS:=Jf aA;have cN:w.heap.size+2<=wa.heap.size:=(by have:=aA.size;simpa using this);have dG:w.heap.size<wa.heap.size:=(by omega);have aX:w.heap.size+1<wa.heap.size:=(by omega)))
 go_region
 all_goals
  go_wp2_with fail
  refine bodyPost_ret (v:= .tuple #[.slice none 0 0,.agg #[.int .i64 k1,.int .i64 k2,.int .i64 k3]]) (by simp [results,Tryz.results106,go_sem, *]) rfl ⟨rfl,?_⟩
  (repeat refine Jh ?_)
  exact Km
end Go.Proofs.YtdgjplldlfeolaaGreatDoor
namespace Go.Proofs.YtdgjplldlfeolaaGreatDoor
open Go.RowKit
theorem Jmi {α:Type} : ∀(l m:List α),l.Nodup->(∀x∈l,x∈m)->l.length<=m.length
 | [],m,_,_=>Nat.zero_le _
 | x :: l,m,hn,h=>by
  obtain⟨s,t,rfl⟩:=List.append_of_mem (h x (by simp));obtain⟨h1,h2⟩:=List.nodup_cons.1 hn
  have:=Jmi l (s ++ t) h2 fun y hy=>by
   have:=h y (by simp [hy]);simp only [List.mem_append,List.mem_cons] at this ⊢
   rcases this with h3|h3|h3
   ·exact .inl h3
   ·exact absurd (h3 ▸ hy) h1
   ·exact .inr h3
  simp only [List.length_append,List.length_cons] at this ⊢;omega
theorem Jfx {R:List ByteArray} {nd:Qe->List ByteArray} : ∀(l:List Qe) (k:Nat),¬(Yd R nd k l).2<0->∃(i:Nat) (q:Qe),(Yd R nd k l).2=((k+i:Nat):Int)/\l[i]?=some q/\Ka R q.name=false/\(nd q).all (Ka R)=true
 | [],k,h=>by simp [Yd] at h
 | q :: r,k,h=>by
  rw [Yd] at h ⊢
  by_cases hb:Ka R q.name=true
  ·rw [if_pos hb] at h ⊢;obtain⟨i,x,h1,h2,h3⟩:=Jfx r (k+1) h;exact⟨i+1,x,by rw [h1];congr 1;omega,by simpa using h2,h3⟩
  ·rw [if_neg hb] at h ⊢;dsimp only at h ⊢
   by_cases ha:(nd q).all (Ka R)=true
   ·rw [if_pos ha];exact⟨0,q,rfl,rfl,by simpa using hb,ha⟩
   ·rw [if_neg ha] at h ⊢;obtain⟨i,x,h1,h2,h3⟩:=Jfx r (k+1) h;exact⟨i+1,x,by rw [h1];congr 1;omega,by simpa using h2,h3⟩
theorem Jgb {R:List ByteArray} {nd:Qe->List ByteArray} : ∀(l:List Qe) (k:Nat),(Yd R nd k l).2<0->(∀q∈l,Ka R q.name=false->(nd q).all (Ka R)=false)/\((∃q∈l,Ka R q.name=false)->∃(i:Nat) (q:Qe),(Yd R nd k l).1=((k+i:Nat):Int)/\l[i]?=some q/\Ka R q.name=false)
 | [],k,h=>⟨by simp,by simp⟩
 | q :: r,k,h=>by
  rw [Yd] at h ⊢
  by_cases hb:Ka R q.name=true
  ·rw [if_pos hb] at h ⊢;obtain⟨h1,h2⟩:=Jgb r (k+1) h;refine⟨fun x hx rf=>?_,fun xn=>?_⟩
   ·rcases List.mem_cons.1 hx with rfl|hx
    ·rw [hb] at rf;cases rf
    ·exact h1 x hx rf
   ·obtain⟨x,hx,rf⟩:=xn
    rcases List.mem_cons.1 hx with rfl|hx
    ·rw [hb] at rf;cases rf
    ·obtain⟨i,y,e1,e2,e3⟩:=h2 ⟨x,hx,rf⟩;exact⟨i+1,y,by rw [e1];congr 1;omega,by simpa using e2,e3⟩
  ·rw [if_neg hb] at h ⊢;dsimp only at h ⊢
   by_cases ha:(nd q).all (Ka R)=true
   ·rw [if_pos ha] at h;omega
   ·rw [if_neg ha] at h;obtain⟨h1,h2⟩:=Jgb r (k+1) h;refine⟨fun x hx rf=>?_,fun _=>⟨0,q,rfl,rfl,by simpa using hb⟩⟩
    rcases List.mem_cons.1 hx with rfl|hx
    ·simpa using ha
    ·exact h1 x hx rf
def Joc (R0:List ByteArray) (nd:Qe->List ByteArray) (eqs:List Qe) (i:Nat) (j:Int) (l:List Int):Prop:=
 0<=j/\∃q,eqs[j.toNat]?=some q/\q.name ∉ R0 ++ (l.take i).map (Za eqs)/\∀s∈nd q,s∈R0 ++ (l.take i).map (Za eqs)
theorem Jkx {nd:Qe->List ByteArray} {eqs:List Qe} {left:Nat} {R0:List ByteArray} : ∀(t:Nat) (R:List ByteArray) (out:List Int),out.length+t=left->R=R0 ++ out.map (Za eqs)->(∀(i:Nat) (j:Int),out[i]?=some j->Joc R0 nd eqs i j out)->
  (∃res,Jfk nd eqs left t R out=(res,(0,0,0))/\res.length=left/\∀(i:Nat) (j:Int),res[i]?=some j->Joc R0 nd eqs i j res)\/
  (∃out',Jfk nd eqs left t R out=([],(3,(Yd (R0 ++ out'.map (Za eqs)) nd 0 eqs).1,22))/\out'.length<left/\(Yd (R0 ++ out'.map (Za eqs)) nd 0 eqs).2<0/\∀(i:Nat) (j:Int),out'[i]?=some j->Joc R0 nd eqs i j out')
 | 0,R,out,ht,hR,hg=> .inl ⟨out,rfl,by omega,hg⟩
 | t+1,R,out,ht,hR,hg=>by
  rw [Jfk,if_pos (by omega)]
  by_cases hn:(Yd R nd 0 eqs).2<0
  ·rw [if_pos hn]
   right
   subst hR;exact⟨out,rfl,by omega,hn,hg⟩
  ·rw [if_neg hn];obtain⟨j,q,h1,h2,h3,h4⟩:=Jfx eqs 0 hn;rw [Nat.zero_add] at h1;have hname:Za eqs (j:Int)=q.name:=by unfold Za;rw [Int.toNat_natCast,h2]
   rw [h1];refine Jkx t _ _ (by simp;omega) (by rw [hR,List.map_append,List.append_assoc];rfl) fun i x hi=>?_
   rcases Nat.lt_trichotomy i out.length with am|he|am
   ·rw [List.getElem?_append_left am] at hi;have:=hg i x hi;unfold Joc at this ⊢;rw [List.take_append_of_le_length (by omega)];exact this
   ·subst he;rw [List.getElem?_append_right (Nat.le_refl _),Nat.sub_self] at hi;obtain rfl:(j:Int)=x:=by simpa using hi
    refine⟨by omega,q,by rw [Int.toNat_natCast];exact h2,?_,?_⟩
    ·rw [List.take_left' rfl,<-hR];exact Jb5.1 h3
    ·rw [List.take_left' rfl,<-hR];intro s hs;exact Jbk.1 (List.all_eq_true.1 h4 s hs)
   ·rw [List.getElem?_eq_none (by simp;omega)] at hi
    cases hi
theorem Jms {eqs:List Qe} {j:Int} {q:Qe} (h:eqs[j.toNat]?=some q):Za eqs j=q.name:=by unfold Za;rw [h]
theorem Jqy {p:Pr} (h:J7 p=(0,0,0)):((p.eqs.filter (fun q=>q.delay == 0)).map (·.name)).Nodup:=by
 unfold List.Nodup;rw [List.pairwise_map];exact(Jbe h).1.filter _
theorem Jrq {p:Pr} (h:J7 p=(0,0,0)) {nd:Qe->List ByteArray} {out:List Int} (hl:out.length<Yn p.eqs):∃q∈p.eqs,Ka (Yj p ++ out.map (Za p.eqs)) q.name=false:=by
 refine Classical.byContradiction fun oG=>?_
 have eF:∀q∈p.eqs,q.name∈Yj p ++ out.map (Za p.eqs):=fun q hq=>by
  rw [<-Jbk]
  cases hb:Ka (Yj p ++ out.map (Za p.eqs)) q.name
  ·exact absurd ⟨q,hq,hb⟩ oG
  ·rfl
 have h1:=Jmi _ (out.map (Za p.eqs)) (Jqy h) fun s hs=>by
  rw [List.mem_map] at hs;obtain⟨q,hq,rfl⟩:=hs;rw [List.mem_filter] at hq;obtain⟨i,hi⟩:=List.getElem?_of_mem hq.1;obtain⟨xj,dV,_⟩:=Jbe h
  rcases List.mem_append.1 (eF q hq.1) with h2|h2
  ·exfalso
   unfold Yj at h2
   rcases List.mem_append.1 h2 with h3|h3
   ·exact dV q hq.1 h3
   ·obtain⟨x,hx,rd,xm⟩:=Jdq.1 h3;obtain⟨j,hj⟩:=List.getElem?_of_mem hx;obtain rfl:=Jmb xj hj hi xm;rw [hi] at hj;obtain rfl:q=x:=by injection hj
    exact rd (by simpa using hq.2)
  ·exact h2
 rw [List.length_map,List.length_map] at h1;unfold Yn at hl;omega
theorem Jw0 {p:Pr} {l:List ByteArray} {q:Qe} (hq:q∈p.eqs) (h:q.name ∉ Yj p ++ l):q.delay=0:=by
 refine Classical.byContradiction fun hd=>h ?_;refine List.mem_append.2 (.inl ?_);unfold Yj;exact List.mem_append.2 (.inr (Jdq.2 ⟨q,hq,hd,rfl⟩))
theorem Jiu {p:Pr} (h:J7 p=(0,0,0)) :
  (∃res,Jbo p=(res,(0,0,0))/\res.length=Yn p.eqs/\∀(i:Nat) (j:Int),res[i]?=some j->Joc (Yj p) (ofR (Je p)) p.eqs i j res)\/
  (∃(out:List Int) (at':Nat) (q:Qe),Jbo p=([],(3,(at':Int),22))/\p.eqs[at']?=some q/\q.name ∉ Yj p ++ out.map (Za p.eqs)/\q.delay=0/\∀x∈p.eqs,x.name ∉ Yj p ++ out.map (Za p.eqs)->¬ ∀s∈ofR (Je p) x,s∈Yj p ++ out.map (Za p.eqs)):=by
 rcases Jkx (nd:=ofR (Je p)) (eqs:=p.eqs) (left:=Yn p.eqs) (R0:=Yj p) (Yn p.eqs) (Yj p) [] (by simp) (by simp) (by simp) with ⟨res,h1,h2,h3⟩|⟨out,h1,h2,h3,_⟩
 ·exact .inl ⟨res,h1,h2,h3⟩
 ·right
  obtain⟨s1,s2⟩:=Jgb p.eqs 0 h3;obtain⟨i,q,e1,e2,e3⟩:=s2 (Jrq (nd:=ofR (Je p)) h h2);rw [Nat.zero_add] at e1;refine⟨out,i,q,by unfold Jbo;rw [h1,e1],e2,Jb5.1 e3,Jw0 (List.mem_of_getElem? e2) (Jb5.1 e3),fun x hx hn eF=>?_⟩;have:=s1 x hx (Jb5.2 hn);rw [<-Bool.not_eq_true] at this;exact this (List.all_eq_true.2 fun s hs=>Jbk.2 (eF s hs))
def J1 (p:Pr):List Int×(Int×Int×Int):=if Qg p=(0,0,0) then Jbo p else([],Qg p)
end Go.Proofs.YtdgjplldlfeolaaGreatDoor
namespace Go.Proofs.YtdgjplldlfeolaaGreatDoor
open Go.RowKit Go.Sort
def Jfh (v:Value):Nat:=match v with | .slice _ n _=>n|_=>0
end Go.Proofs.YtdgjplldlfeolaaGreatDoor
namespace Go.Proofs.YtdgjplldlfeolaaGreatDoor
open Go.RowKit
namespace Ex
mutual
def reach (g:ByteArray->Bool):Ex->Bool
 | mk k _ s sub=>g s || (if k=7 then reachF g sub else reachL g sub)
def reachF (g:ByteArray->Bool):List Ex->Bool
 | []=>false
 | x :: _=>reach g x
def reachL (g:ByteArray->Bool):List Ex->Bool
 | []=>false
 | x :: r=>reach g x || reachL g r
end
theorem reach_eq (g:ByteArray->Bool) (e:Ex):e.reach g=(g e.name || (if e.kind=7 then reachF g e.sub else reachL g e.sub)):=by cases e;rw [reach];rfl
theorem reachL_app (g:ByteArray->Bool):∀(a b:List Ex),reachL g (a ++ b)=(reachL g a || reachL g b)
 | [],b=>by simp [reachL]
 | x :: a,b=>by rw [List.cons_append,reachL,reachL,reachL_app g a b,Bool.or_assoc]
theorem sizeL_app:∀(a b:List Ex),sizeL (a ++ b)=sizeL a+sizeL b
 | [],b=>by simp [sizeL]
 | x :: a,b=>by rw [List.cons_append,sizeL,sizeL,sizeL_app a b];omega
theorem size_pos (e:Ex):0<e.size:=by rw [size_eq];omega
theorem len_sizeL:∀l:List Ex,l.length<=sizeL l
 | []=>by simp
 | x :: l=>by have:=len_sizeL l;have:=x.size_pos;rw [sizeL,List.length_cons];omega
end Ex
def onM (f:ByteArray->Option Int) (s:ByteArray):Bool:=decide (0<(f s).getD 0)
def inL (l:List ByteArray) (s:ByteArray):Bool:=!s.toList.isEmpty && Ka l s
def Jc7 (f:ByteArray->Option Int) (l:List ByteArray):Prop:=∀s,onM f s=inL l s
theorem Juq:Jc7 (fun _=>none) []:=fun s=>by unfold onM inL Ka;simp
theorem Jlu {f:ByteArray->Option Int} {l:List ByteArray} {n:ByteArray} (h:Jc7 f l) (hn:n.toList.isEmpty=false):Jc7 (upd f n 1) (l ++ [n]):=fun s=>by
 have hs:=h s;unfold onM inL at hs ⊢;rw [Jcx,Jgw];unfold upd
 by_cases hd:s.data=n.data
 ·have fE:s=n:=by ext1;exact hd
  rw [if_pos hd,fE,hn];simp
 ·rw [if_neg hd];have:decide (n.data=s.data)=false:=by simpa using fun e=>hd e.symm
  rw [this,Bool.or_false];exact hs
theorem Jc7.reach {f:ByteArray->Option Int} {l:List ByteArray} (h:Jc7 f l) (e:Ex):e.reach (onM f)=e.reach (inL l):=by rw [show onM f=inL l from funext h]
def Jbj (l:List Qe):List ByteArray:=(l.filter (fun q=>q.delay == 2)).map (·.name)
theorem Jlf (l:List Qe) {k:Nat} {q:Qe} (h:l[k]?=some q):Jbj (l.take (k+1))=if (q.delay == 2)=true then Jbj (l.take k) ++ [q.name] else Jbj (l.take k):=by
 rw [List.take_add_one,h];unfold Jbj;show((l.take k ++ [q]).filter _).map _=_;rw [List.filter_append]
 cases hd:q.delay == 2 <;> simp [hd]
def Xj (eqs:List Qe):List ByteArray->List Int->List ByteArray
 | out,[]=>out
 | out,j :: r=>Xj eqs (match eqs[j.toNat]? with|some q=>if q.e.reach (inL out)=true then out ++ [q.name] else out|none=>out) r
def Qs (p:Pr):List ByteArray×(Int×Int×Int):=if (J1 p).2=(0,0,0) then(Xj p.eqs (Jbj p.eqs) (J1 p).1,(0,0,0)) else([],(J1 p).2)
theorem Yg {p:Pr} (h:(J1 p).2=(0,0,0)):Qg p=(0,0,0)/\(J1 p).1.length<=p.eqs.length/\∀(i:Nat) (j:Int),(J1 p).1[i]?=some j->∃(m:Nat) (q:Qe),j=m/\p.eqs[m]?=some q:=by
 unfold J1 at h ⊢
 by_cases aN:Qg p=(0,0,0)
 ·rw [if_pos aN] at h ⊢;refine⟨aN,?_⟩
  rcases Jiu (Xk aN).1 with ⟨res,h1,h2,h3⟩|⟨out,m,q,h1,_⟩
  ·rw [h1];refine⟨by have:=Jvy p.eqs;show res.length<=_;omega,fun i j hi=>?_⟩;obtain⟨h0,q,hq,_⟩:=h3 i j hi;exact⟨j.toNat,q,by omega,hq⟩
  ·rw [h1] at h;exact absurd h (by simp)
 ·rw [if_neg aN] at h;exact absurd h aN
end Go.Proofs.YtdgjplldlfeolaaGreatDoor
namespace Go.Proofs.YtdgjplldlfeolaaGreatDoor
open Go.RowKit Go.Sort
theorem Je8 {e:Ex} (h:e.formed=true) (hk:e.kind=7):e.sub.length=2:=by
 rw [Ex.formed_eq,Bool.and_eq_true] at h;have:=h.1;unfold Jl Jw at this;rw [hk] at this;simp at this;omega
theorem Jgc (e:Ex) (A:Option Addr) (cap:Nat) (B n:Nat) (f:ByteArray->Option Int) (w:World) (he:Jt w e A cap) (hf:e.formed=true) (aw:e.OK) (hz:e.size<=1000000) (hm:Jz Tryz.prog 9 3 w B n f) :
  Calls Tryz.prog 141 #[.map (some B),exV e A cap] w fun r w'=>r = .returned (.bool (e.reach (onM f)))/\Below w.heap.size w w':=by
 obtain⟨R,hR⟩:∃R,R=e.reach (onM f):=⟨_,rfl⟩;rw [<-hR];have vi:=Lib.hid (by rw [hR];simp [Ex.reachL]:Ex.reachL (onM f) [e]=R);clear hR;unfold exV
 go_enter Tryz.func141,Tryz.ntmps141
 go_wp2_with fail
 go_step3
 go_wp2_with fail
 go_step3
 go_wp2_with fail
 refine Jo fun W0 ag=>?_;have ax:Below w.heap.size w W0:=by rw [ag];exact Jb
 have jx:Jca w W0 w.heap.size 73 [e] (some ⟨w.heap.size+1,0,none⟩) 1:=by
  refine⟨[(A,cap)],rfl,fun j x a hx ha=>?_,?_⟩
  ·match j with
   | 0=>
     obtain rfl:e=x:=by simpa using hx
     obtain rfl:(A,cap)=a:=by simpa using ha
     exact he
   | j+1=>simp at hx
  ·rw [ag];have:=World.ownsRow_lit (base:=w.heap.size) (e:=73) (size:=4) (w.alloc (.cells #[.int .i64 e.kind,.int .i32 e.n,.string e.name,.slice A e.sub.length cap] 73)) #[.int .i64 e.kind,.int .i32 e.n,.string e.name,.slice A e.sub.length cap] 1 (by simp) (by unfold maxLen;omega) rfl;simpa [Ya,exC] using this
 have zb:∀x∈[e],x.formed=true/\x.OK:=fun x hx=>by
  obtain rfl:x=e:=by simpa using hx
  exact⟨hf,aw⟩
 have HF0:=Lib.hid zb;clear ag he hf aw zb
 go_loopg [5,6] (e.size) (fun gk todo met wr=>∃(st:List Ex) (m:Nat) (D:Option Addr) (dc:Nat),todo = .slice D m dc/\met = .bool false/\Hid (m=st.length)/\Ex.sizeL st<=gk/\gk<=1000000/\Hid (Ex.reachL (onM f) st=R)/\Hid (∀x∈st,x.formed=true/\x.OK)/\Hid (Jca w wr w.heap.size 73 st D dc)/\Below w.heap.size w wr)
 case atStart=>exact⟨[e],1,_,1,rfl,rfl,Lib.hid rfl,by simp [Ex.sizeL],hz,vi,HF0,Lib.hid jx,ax⟩
 case round=>
  obtain⟨st,m,D,dc,rfl,rfl,tX,hgs,hgk,aa,lz,cP,ab⟩:=hrel;have bu:=ab.size;have ej:=hm.bel ab
  rcases Jls st with rfl|⟨st,x,rfl⟩
  ·have eU:m=0:=by simpa using tX.out
   subst eU;have HR:=Lib.hid (show false=R from aa.out);clear aa tX lz cP
   go_wp2_with fail
   (try rw [Exit.noGoto_ret])
   go_ret;exact⟨Jk HR.out,Jb⟩
  ·have eU:m=st.length+1:=by simpa using tX.out
   subst eU;obtain⟨b,A',cap',rfl,ac,aq,js,gN,dT,c0,c1,c2,c3,hst'⟩:=cP.out.pop;obtain⟨gW,jz⟩:=lz.out x (by simp);have hr:=aa.out;rw [Ex.reachL_app,show Ex.reachL (onM f) [x]=x.reach (onM f) by simp [Ex.reachL],Ex.reach_eq] at hr
   have bC:Ex.sizeL st+(Ex.sizeL x.sub+1)<=gk:=by
    rw [Ex.sizeL_app] at hgs;simpa [Ex.sizeL,Ex.size_eq] using hgs
   have hfo':∀y∈st,y.formed=true/\y.OK:=fun y hy=>lz.out y (by simp [hy]);have qU:x.name.size<=maxLen:=by cases x;simp only [Ex.OK] at jz;exact jz.2.2.1
   have hstl:=Ex.len_sizeL st;have sd:Ex.OKL x.sub:=by cases x;simp only [Ex.OK] at jz;exact jz.2.2.2
   have pM:st.length<=dc:=by omega
   have hdc0:¬dc=0:=by omega
   unfold maxLen at gN;obtain⟨ls,hl,kq,ae⟩:=hst';have HFO:=Lib.hid hfo';have od:=Lib.hid kq;have wJ:=Lib.hid hl;clear aa tX lz cP hfo' hgs kq hl
   by_cases h0:0<(f x.name).getD 0
   ·rw [show onM f x.name=true by unfold onM;simpa using h0,Bool.true_or,Bool.or_true] at hr;have HR:=Lib.hid hr;clear hr
    go_wp2_with (first|(at_lookup;go_loud (refine Qb rfl (.tmp 29) (.tmp 31) 256 rfl Tryz.underlying9 Tryz.underlying256 Tryz.underlying3 (Kj _) B n f x.name rfl (ej.bel Jb) rfl qU ?_)))
    (try rw [Exit.noGoto_ret])
    go_ret;exact⟨Jk HR.out,Jb⟩
   ·rw [show onM f x.name=false by unfold onM;simpa using h0,Bool.false_or] at hr
    by_cases hk:x.kind=7
    ·have ai:=Je8 gW hk
     obtain⟨y,z,qZ⟩:∃y z,x.sub = [y,z]:=by
      match h:x.sub,ai with
      | [y,z],_=>exact⟨y,z,rfl⟩
     rw [if_pos hk,qZ] at hr;have rU:y.formed=true:=Q9 gW y (by rw [qZ];simp);have hyok:y.OK:=Ex.OKL_mem sd y (by rw [qZ];simp);have hysz:y.size<=Ex.sizeL x.sub:=by rw [qZ];simp [Ex.sizeL]
     obtain⟨b2,o2,A2,cap2,rfl,e0,e1,e2,e3,oN⟩:=dT.get (by rw [qZ];rfl:x.sub[0]?=some y);rw [Nat.zero_mul,Nat.add_zero] at e0 e1 e2 e3;have e0':=Ja ab e0;have e1':=Ja ab e1;have e2':=Ja ab e2;have e3':=Ja ab e3;have hb2w:b2<wr.heap.size:=block_lt_of_cell e0';have tk:(x.kind == 7)=true:=by simpa using hk
     have eb:0<x.sub.length:=by omega
     have HR:=Lib.hid hr;have HY:=Lib.hid qZ;clear hr hk qZ ai e0 e1 e2 e3
     go_wp2_with (first|(at_lookup;go_loud (refine Qb rfl (.tmp 29) (.tmp 31) 256 rfl Tryz.underlying9 Tryz.underlying256 Tryz.underlying3 (Kj _) B n f x.name rfl (ej.bel Jb) rfl qU ?_))|(at_builtin;go_loud (refine K6 rfl (.tmp 38) (.tmp 43) 71 rfl w.heap.size 73 _ 4 56 Tryz.underlying71 Jon rfl (by omega) (.slice (some ⟨b,0,none⟩) st.length dc) st.length (Ya st ls) _ 1 1 (exC y (A2,cap2)) rfl (Js (Js ae)) rfl ⟨rfl,fun _=>⟨_,_,rfl,fun j u hj=>by rw [Nat.zero_add];exact(Qo (by simp)).trans (by simpa [exC] using hj)⟩⟩ (by simp [exC,Value.oneCell']) (by omega) (by omega) (by simp;omega) ?_;intro v9 w9 dL nh;have hz9:=nh.size;obtain⟨A9,c9,rfl,it,iu⟩:=Jv dL)))
     go_roundg (gk-1)
     case measure=>omega
     case rel=>
      refine⟨st ++ [y],st.length+1,A9,c9,by first|rfl|simp,rfl,Lib.hid (by simp),?_,by omega,?_,?_,?_,Jb⟩
      ·rw [Ex.sizeL_app];simp only [Ex.sizeL];omega
      ·refine Lib.hid ?_;rw [Ex.reachL_app,<-HR.out];simp [Ex.reachL,Ex.reachF]
      ·refine Lib.hid fun u hu=>?_
       rcases List.mem_append.1 hu with h1|h1
       ·exact HFO.out u h1
       ·obtain rfl:u=y:=by simpa using h1
        exact⟨rU,hyok⟩
      ·refine Lib.hid (Jca.push (sub:=[y]) (ms:=[(A2,cap2)]) wJ.out od.out rfl (fun j u a hu ha=>?_) (by simpa [Ya] using dL))
       match j with
       | 0=>
         obtain rfl:y=u:=by simpa using hu
         obtain rfl:(A2,cap2)=a:=by simpa using ha
         exact oN
       | j+1=>simp at hu
    ·rw [if_neg hk] at hr;have tk:(x.kind == 7)=false:=by simpa using hk
     obtain⟨ms,iw,cI,kV⟩:=dT.lies;have HR:=Lib.hid hr;have uO:=Lib.hid iw;have HM3:=Lib.hid kV;have kj:=Lib.hid cI;have lB:=Ex.len_sizeL x.sub;clear hr hk iw cI kV
     go_wp2_with (first|(at_lookup;go_loud (refine Qb rfl (.tmp 29) (.tmp 31) 256 rfl Tryz.underlying9 Tryz.underlying256 Tryz.underlying3 (Kj _) B n f x.name rfl (ej.bel Jb) rfl qU ?_))|(at_builtin;go_loud (refine K6 rfl (.tmp 24) (.tmp 26) 71 rfl w.heap.size 73 _ 4 56 Tryz.underlying71 Jon rfl (by omega) (.slice (some ⟨b,0,none⟩) st.length dc) st.length (Ya st ls) A' x.sub.length cap' (Ya x.sub ms) rfl (Js ae) rfl (kj.out.moved Jb) (Jox _ _) (by omega) (by omega) (by simp;omega) ?_;intro v9 w9 dL nh;have hz9:=nh.size;obtain⟨A9,c9,rfl,it,iu⟩:=Jv dL)))
     go_roundg (gk-1)
     case measure=>omega
     case rel=>
      refine⟨st ++ x.sub,st.length+x.sub.length,A9,c9,by first|rfl|simp,rfl,Lib.hid (by simp),?_,by omega,?_,?_,?_,Jb⟩
      ·rw [Ex.sizeL_app];omega
      ·refine Lib.hid ?_;rw [Ex.reachL_app,<-HR.out]
      ·refine Lib.hid fun u hu=>?_
       rcases List.mem_append.1 hu with h1|h1
       ·exact HFO.out u h1
       ·exact⟨Q9 gW u h1,Ex.OKL_mem sd u h1⟩
      ·exact Lib.hid (Jca.push wJ.out od.out uO.out HM3.out dL)
end Go.Proofs.YtdgjplldlfeolaaGreatDoor
namespace Go.Proofs.YtdgjplldlfeolaaGreatDoor
open Go.RowKit
namespace Ex
mutual
def torn (g:ByteArray->Bool):Ex->Bool
 | mk k n s sub=>(decide (k=10) && reach g (mk k n s sub)) || tornL g sub
def tornL (g:ByteArray->Bool):List Ex->Bool
 | []=>false
 | x :: r=>torn g x || tornL g r
end
theorem torn_eq (g:ByteArray->Bool) (e:Ex):e.torn g=((decide (e.kind=10) && e.reach g) || tornL g e.sub):=by cases e;rw [torn];rfl
end Ex
end Go.Proofs.YtdgjplldlfeolaaGreatDoor
namespace Go.Proofs.YtdgjplldlfeolaaGreatDoor
open Go.RowKit Go.Sort
theorem Jwk (B n:Nat) (f:ByteArray->Option Int) (e:Ex):∀(A:Option Addr) (cap:Nat) (w:World),Jt w e A cap->e.formed=true->e.OK->e.size<=1000000->Jz Tryz.prog 9 3 w B n f->
  Calls Tryz.prog 142 #[.map (some B),exV e A cap] w fun r w'=>r = .returned (.bool (e.torn (onM f)))/\Below w.heap.size w w':=by
 induction e using Ex.ind with
 | h e ih=>
 intro A cap w he hf aw hz hm;obtain⟨R,hR⟩:∃R,R=e.torn (onM f):=⟨_,rfl⟩;rw [<-hR];rw [Ex.torn_eq] at hR;have eY:=fun W h=>Jgc e A cap B n f W (he.later h) hf aw hz (hm.bel h);have hoks:Ex.OKL e.sub:=by cases e;simp only [Ex.OK] at aw;exact aw.2.2.2
 have hse:=Ex.size_eq e;have ot:=he.len;unfold maxLen at ot;obtain⟨hel1,hel2⟩:=ot;unfold exV at *
 by_cases hk:e.kind=10
 ·have tk:(e.kind == 10)=true:=by simpa using hk
  rw [show decide (e.kind=10)=true by simpa using hk,Bool.true_and] at hR;clear hk
  cases hZ:e.reach (onM f)
  ·rw [hZ,Bool.false_or] at hR;have lv:=Lib.hid hZ;have HB:=Lib.hid (by rw [hR];rfl:Ex.tornL (onM f) (e.sub.drop 0)=R);clear hZ hR aw
   go_enter Tryz.func142,Tryz.ntmps142
   go_wp2_with (first|(go_at_call 141;go_loud (refine(eY _ Jb).mono ?_;rw [lv.out];rintro r wh ⟨rfl,dX⟩;have fJ:=Jg dX;have nX:w.heap.size+1<=wh.heap.size:=(by have:=dX.size;simpa using this);have iZ:w.heap.size<wh.heap.size:=(by omega))))
   refine Jo fun W0 ag=>?_;have ax:Below w.heap.size w W0:=by rw [ag];exact Jb
   clear ag
   go_loopw [18] (fun i wr=>∃k:Nat,k<=e.sub.length/\i = .int .i64 k/\Hid (Ex.tornL (onM f) (e.sub.drop k)=R)/\Below w.heap.size w wr) (fun i _=>e.sub.length-(intOf i).toNat)
   case atStart=>exact⟨0,Nat.zero_le _,rfl,HB,ax⟩
   case round=>
    obtain⟨k,hk,rfl,aa,ab⟩:=hrel;have bu:=ab.size
    by_cases am:k<e.sub.length
    ·have hx:e.sub[k]?=some e.sub[k]:=List.getElem?_eq_getElem am;have aj:e.sub[k]∈e.sub:=List.getElem_mem am;have hd:e.sub.drop k=e.sub[k] :: e.sub.drop (k+1):=List.drop_eq_getElem_cons am;generalize e.sub[k]=x at hx aj hd;obtain⟨b,off,A',cap',rfl,c0,c1,c2,c3,hs⟩:=(he.later ab).get hx;have ihx:=ih x aj;have gW:=Q9 hf x aj;have jz:=Ex.OKL_mem hoks x aj;have hxz:x.size<=1000000:=by have:=Ex.size_mem _ _ _ hx;omega
     have hr:=aa.out;rw [hd,Ex.tornL] at hr;clear hd hx aj aa
     cases dC:x.torn (onM f)
     ·rw [dC,Bool.false_or] at hr;have gg:=Lib.hid dC;have HR:=Lib.hid hr;clear dC hr
      go_wp2_with (first|(go_at_call 142;go_loud (refine(ihx A' cap' _ (hs.later Jb) gW jz hxz (hm.bel Jb)).mono ?_;rw [gg.out];rintro r w1 ⟨rfl,ac⟩)))
      go_roundw
      case rel=>exact⟨k+1,by omega,by go_num,HR,Jb⟩
      case measure=>simp [intOf];try omega
     ·rw [dC,Bool.true_or] at hr;have gg:=Lib.hid dC;have HR:=Lib.hid hr;clear dC hr
      go_wp2_with (first|(go_at_call 142;go_loud (refine(ihx A' cap' _ (hs.later Jb) gW jz hxz (hm.bel Jb)).mono ?_;rw [gg.out];rintro r w1 ⟨rfl,ac⟩)))
      go_ret;exact⟨Jk HR.out,Jb⟩
    ·obtain rfl:k=e.sub.length:=by omega
     have hr:=aa.out;rw [List.drop_length,Ex.tornL] at hr;have HR:=Lib.hid hr;clear hr aa
     go_wp2_with fail
     go_ret;exact⟨Jk HR.out,Jb⟩
  ·rw [hZ,Bool.true_or] at hR;have lv:=Lib.hid hZ;have HR:=Lib.hid hR.symm;clear hZ hR aw
   go_enter Tryz.func142,Tryz.ntmps142
   go_wp2_with (first|(go_at_call 141;go_loud (refine(eY _ Jb).mono ?_;rw [lv.out];rintro r wh ⟨rfl,dX⟩)))
   go_ret;exact⟨Jk HR.out,Jb⟩
 ·have tk:(e.kind == 10)=false:=by simpa using hk
  rw [show decide (e.kind=10)=false by simpa using hk,Bool.false_and,Bool.false_or] at hR;have HB:=Lib.hid (by rw [hR];rfl:Ex.tornL (onM f) (e.sub.drop 0)=R);clear hk hR aw eY
  go_enter Tryz.func142,Tryz.ntmps142
  go_wp2_with (first|(go_at_call 141;go_loud (refine(eY _ Jb).mono ?_;rw [lv.out];rintro r wh ⟨rfl,dX⟩;have fJ:=Jg dX;have nX:w.heap.size+1<=wh.heap.size:=(by have:=dX.size;simpa using this);have iZ:w.heap.size<wh.heap.size:=(by omega))))
  refine Jo fun W0 ag=>?_;have ax:Below w.heap.size w W0:=by rw [ag];exact Jb
  clear ag
  go_loopw [18] (fun i wr=>∃k:Nat,k<=e.sub.length/\i = .int .i64 k/\Hid (Ex.tornL (onM f) (e.sub.drop k)=R)/\Below w.heap.size w wr) (fun i _=>e.sub.length-(intOf i).toNat)
  case atStart=>exact⟨0,Nat.zero_le _,rfl,HB,ax⟩
  case round=>
   obtain⟨k,hk,rfl,aa,ab⟩:=hrel;have bu:=ab.size
   by_cases am:k<e.sub.length
   ·have hx:e.sub[k]?=some e.sub[k]:=List.getElem?_eq_getElem am;have aj:e.sub[k]∈e.sub:=List.getElem_mem am;have hd:e.sub.drop k=e.sub[k] :: e.sub.drop (k+1):=List.drop_eq_getElem_cons am;generalize e.sub[k]=x at hx aj hd;obtain⟨b,off,A',cap',rfl,c0,c1,c2,c3,hs⟩:=(he.later ab).get hx;have ihx:=ih x aj;have gW:=Q9 hf x aj;have jz:=Ex.OKL_mem hoks x aj;have hxz:x.size<=1000000:=by have:=Ex.size_mem _ _ _ hx;omega
    have hr:=aa.out;rw [hd,Ex.tornL] at hr;clear hd hx aj aa
    cases dC:x.torn (onM f)
    ·rw [dC,Bool.false_or] at hr;have gg:=Lib.hid dC;have HR:=Lib.hid hr;clear dC hr
     go_wp2_with (first|(go_at_call 142;go_loud (refine(ihx A' cap' _ (hs.later Jb) gW jz hxz (hm.bel Jb)).mono ?_;rw [gg.out];rintro r w1 ⟨rfl,ac⟩)))
     go_roundw
     case rel=>exact⟨k+1,by omega,by go_num,HR,Jb⟩
     case measure=>simp [intOf];try omega
    ·rw [dC,Bool.true_or] at hr;have gg:=Lib.hid dC;have HR:=Lib.hid hr;clear dC hr
     go_wp2_with (first|(go_at_call 142;go_loud (refine(ihx A' cap' _ (hs.later Jb) gW jz hxz (hm.bel Jb)).mono ?_;rw [gg.out];rintro r w1 ⟨rfl,ac⟩)))
     go_ret;exact⟨Jk HR.out,Jb⟩
   ·obtain rfl:k=e.sub.length:=by omega
    have hr:=aa.out;rw [List.drop_length,Ex.tornL] at hr;have HR:=Lib.hid hr;clear hr aa
    go_wp2_with fail
    go_ret;exact⟨Jk HR.out,Jb⟩
end Go.Proofs.YtdgjplldlfeolaaGreatDoor
namespace Go.Proofs.YtdgjplldlfeolaaGreatDoor
open Go.RowKit
def Jdp (t c l d r o s:Bool):Bool:=t || (c && l) || (d && r) || (o && s)
def Jen (p:Pr) (LF:List ByteArray) (q:Qe):Bool:=
 Jdp (q.e.torn (inL LF)) ((J9 (Je p) q.name).1 != 0) (inL LF (J9 (Je p) q.name).2) (q.delay != 0) (q.e.reach (inL LF)) (Ka (p.outs.map (·.name)) q.name) (inL LF q.name)
def Zg (h:Qe->Bool):Nat->List Qe->Int×Int×Int
 | _,[]=>(0,0,0)
 | k,q :: r=>if h q=true then(3,(k:Int),23) else Zg h (k+1) r
def Ks (p:Pr):Int×Int×Int:=if (J1 p).2=(0,0,0) then Zg (Jen p (Qs p).1) 0 p.eqs else(J1 p).2
theorem Jud (t c l d r o s:Bool) :
  (t=true/\(d=true\/d=false)/\(o=true\/o=false)/\Jdp t c l d r o s=true)\/
  (t=false/\c=true/\l=true/\(d=true\/d=false)/\(o=true\/o=false)/\Jdp t c l d r o s=true)\/
  (t=false/\((c=true/\l=false)\/c=false)/\d=true/\r=true/\(o=true\/o=false)/\Jdp t c l d r o s=true)\/
  (t=false/\((c=true/\l=false)\/c=false)/\((d=true/\r=false)\/d=false)/\o=true/\s=true/\Jdp t c l d r o s=true)\/
  (t=false/\((c=true/\l=false)\/c=false)/\((d=true/\r=false)\/d=false)/\((o=true/\s=false)\/o=false)/\Jdp t c l d r o s=false):=by
 revert t c l d r o s
 decide
theorem Jsc {f:ByteArray->Option Int} {l:List ByteArray} (h:Jc7 f l) (e:Ex):e.torn (onM f)=e.torn (inL l):=by rw [show onM f=inL l from funext h]
theorem Jsa {L:List Va} (h:∀v∈L,v.cn.size<=maxLen) (s:ByteArray):(J9 L s).2.size<=maxLen:=by
 unfold J9
 have:∀(l:List Va) (c:Int×ByteArray),(∀v∈l,v.cn.size<=maxLen)->c.2.size<=maxLen->(l.foldl (fun c v=>if s.data=v.name.data then(v.ck,v.cn) else c) c).2.size<=maxLen:=by
  intro l
  induction l with
  | nil=>exact fun c _ hc=>hc
  | cons v l ih=>
   intro c hl hc;rw [List.foldl_cons];refine ih _ (fun u hu=>hl u (by simp [hu])) ?_
   split
   ·exact hl v (by simp)
   ·exact hc
 exact this L _ h (by unfold maxLen;show 0<=_;omega)
theorem Jho {eqs:List Qe} (he:∀q∈eqs,q.name.toList.isEmpty=false):∀(l:List Int) (out:List ByteArray),(∀s∈out,s.toList.isEmpty=false)->∀s∈Xj eqs out l,s.toList.isEmpty=false
 | [],out,ho,s,hs=>ho s hs
 | j :: r,out,ho,s,hs=>by
  rw [Xj] at hs;refine Jho he r _ ?_ s hs
  cases hq:eqs[j.toNat]? with
  | none=>exact ho
  | some q=>
   dsimp only
   split
   ·intro x hx
    rcases List.mem_append.1 hx with h1|h1
    ·exact ho x h1
    ·obtain rfl:x=q.name:=by simpa using h1
     exact he q (List.mem_of_getElem? hq)
   ·exact ho
theorem Jm6 {p:Pr} (h:Qw p=true):∀q∈p.eqs,q.name.toList.isEmpty=false:=fun q hq=>by
 have hb:=(X4 h).2.2.2.2 q hq;simp only [eqB,Bool.and_eq_true] at hb;exact Jbx hb.1.1
theorem Jj2 {p:Pr} (hO:(J1 p).2=(0,0,0)):∀s∈(Qs p).1,s.toList.isEmpty=false:=by
 have jn:=(Xp (Xk (Yg hO).1).1).1;unfold Qs;rw [if_pos hO];refine Jho (Jm6 jn) _ _ fun s hs=>?_;unfold Jbj at hs;rw [List.mem_map] at hs;obtain⟨q,hq,rfl⟩:=hs;exact Jm6 jn q (List.mem_filter.1 hq).1
theorem Jl2 {LF:List ByteArray} (h:∀s∈LF,s.toList.isEmpty=false) (s:ByteArray):inL LF s=Ka LF s:=by
 unfold inL
 cases hs:s.toList.isEmpty
 ·simp
 ·have:Ka LF s=false:=Jb5.2 fun hm=>by rw [h s hm] at hs;cases hs
  rw [this];rfl
theorem Jhp {eqs:List Qe} : ∀(l:List Int) (out:List ByteArray),∀s∈out,s∈Xj eqs out l
 | [],out,s,hs=>hs
 | j :: r,out,s,hs=>by
  rw [Xj];refine Jhp r _ s ?_
  cases eqs[j.toNat]? with
  | none=>exact hs
  | some q=>
   dsimp only
   split
   ·exact List.mem_append.2 (.inl hs)
   ·exact hs
theorem Jc5 {eqs:List Qe} : ∀(l:List Int) (out:List ByteArray),∀s∈Xj eqs out l,s∈out\/∃(j:Int) (q:Qe) (o:List ByteArray),j∈l/\eqs[j.toNat]?=some q/\q.name=s/\q.e.reach (inL o)=true/\∀x∈o,x∈Xj eqs out l
 | [],out,s,hs=> .inl hs
 | j :: r,out,s,hs=>by
  rw [Xj] at hs
  cases hq:eqs[j.toNat]? with
  | none=>
   rw [hq] at hs
   rcases Jc5 r _ s hs with h|⟨j',q,o,h1,h2,h3,h4,h5⟩
   ·exact .inl h
   ·refine .inr ⟨j',q,o,by simp [h1],h2,h3,h4,?_⟩;rw [Xj,hq];exact h5
  | some q=>
   rw [hq] at hs;dsimp only at hs
   by_cases hr:q.e.reach (inL out)=true
   ·rw [if_pos hr] at hs
    rcases Jc5 r _ s hs with h|⟨j',q',o,h1,h2,h3,h4,h5⟩
    ·rcases List.mem_append.1 h with h|h
     ·exact .inl h
     ·have dw:s=q.name:=by simpa using h
      refine .inr ⟨j,q,out,by simp,hq,dw.symm,hr,fun x hx=>?_⟩;exact Jhp (j :: r) out x hx
    ·refine .inr ⟨j',q',o,by simp [h1],h2,h3,h4,?_⟩;rw [Xj,hq];dsimp only;rw [if_pos hr];exact h5
   ·rw [if_neg hr] at hs
    rcases Jc5 r _ s hs with h|⟨j',q',o,h1,h2,h3,h4,h5⟩
    ·exact .inl h
    ·refine .inr ⟨j',q',o,by simp [h1],h2,h3,h4,?_⟩;rw [Xj,hq];dsimp only;rw [if_neg hr];exact h5
namespace Ex
end Ex
theorem Jnt {p:Pr} (hO:(J1 p).2=(0,0,0)) {v:Va} (hv:v∈p.ins):inL (Qs p).1 v.name=false:=by
 have hc:=(Xk (Yg hO).1).1;have nl:=Jj2 hO;obtain⟨_,dV,_⟩:=Jbe hc;rw [Jl2 nl];refine Jb5.2 fun hm=>?_;have hE:(Qs p).1=Xj p.eqs (Jbj p.eqs) (J1 p).1:=by unfold Qs;rw [if_pos hO]
 rw [hE] at hm
 rcases Jc5 _ _ _ hm with h1|⟨j,x,o,h1,h2,h3,_⟩
 ·unfold Jbj at h1;rw [List.mem_map] at h1;obtain⟨x,hx,hn⟩:=h1;exact dV x (List.mem_filter.1 hx).1 (List.mem_map.2 ⟨v,hv,hn.symm⟩)
 ·exact dV x (List.mem_of_getElem? h2) (List.mem_map.2 ⟨v,hv,h3.symm⟩)
theorem Jin {h:Qe->Bool} : ∀(l:List Qe) (k:Nat),Zg h k l=(0,0,0)->∀q∈l,h q=false
 | [],_,_,q,hq=>by simp at hq
 | x :: r,k,hs,q,hq=>by
  rw [Zg] at hs
  by_cases hx:h x=true
  ·rw [if_pos hx] at hs;simp at hs
  ·rw [if_neg hx] at hs
   rcases List.mem_cons.1 hq with rfl|hq
   ·simpa using hx
   ·exact Jin r (k+1) hs q hq
theorem Jl6 {v:Va} (h:Ke v false=true):v.cn.toList.isEmpty=true:=by
 simp only [Ke,Bool.and_eq_true] at h;have h3:=h.2
 by_cases h0:v.ck=0
 ·rw [if_pos h0] at h3;exact h3
 ·rw [if_neg h0] at h3
  by_cases h1:v.ck=1\/v.ck=2
  ·rw [if_pos h1] at h3;simp at h3
  ·rw [if_neg h1] at h3;simp at h3
theorem Jhq {p:Pr} (hc:J7 p=(0,0,0)) {u v:Va} (hu:u∈Je p) (hv:v∈Je p) (hn:u.name=v.name):u=v:=by
 obtain⟨i,hi⟩:=List.getElem?_of_mem hu;obtain⟨j,hj⟩:=List.getElem?_of_mem hv;have:=(Xp hc).2.1 i j u v hi hj hn;subst this;rw [hi] at hj;injection hj
theorem Jsu {p:Pr} (h:Ks p=(0,0,0)):(J1 p).2=(0,0,0)/\(∀v∈p.ins ++ p.outs,inL (Qs p).1 v.name=false)/\∀v∈Je p,v.cn.toList.isEmpty=false->inL (Qs p).1 v.cn=false:=by
 unfold Ks at h
 by_cases hO:(J1 p).2=(0,0,0)
 ·rw [if_pos hO] at h;have aN:=(Yg hO).1;have hc:=(Xk aN).1;have jn:=(Xp hc).1;have kD:=jn;simp only [Qw,Bool.and_eq_true,List.all_eq_true] at kD;have hz:=Jin _ _ h;obtain⟨_,dV,dE⟩:=Jbe hc;refine⟨hO,fun v hv=>?_,fun v hv aS=>?_⟩
  ·rcases List.mem_append.1 hv with h1|h1
   ·exact Jnt hO h1
   ·have xo:v∈Je p:=by simp [Je,h1]
    rcases dE v xo with h2|⟨q,hq,qL⟩
    ·obtain⟨u,hu,gG⟩:=List.mem_map.1 h2;have:=Jhq hc (by simp [Je,hu]) xo gG;subst this;exact Jnt hO hu
    ·have hh:=hz q hq;unfold Jen Jdp at hh;simp only [Bool.or_eq_false_iff,Bool.and_eq_false_iff] at hh;rw [<-qL]
     rcases hh.2 with h3|h3
     ·exact absurd (Jbk.2 (List.mem_map.2 ⟨v,h1,qL.symm⟩)) (by rw [h3];simp)
     ·exact h3
  ·have hnin:v ∉ p.ins:=fun hi=>by rw [Jl6 (kD.1.1.1.2 v hi)] at aS;cases aS
   rcases dE v hv with h2|⟨q,hq,qL⟩
   ·obtain⟨u,hu,gG⟩:=List.mem_map.1 h2;have:=Jhq hc (by simp [Je,hu]) hv gG;subst this;exact absurd hu hnin
   ·obtain⟨v',hm,_,wg,bO,nk⟩:=Ja3 aN hq;have:=Jhq hc hm hv (wg.trans qL);subst this;have hh:=hz q hq;unfold Jen Jdp at hh;rw [bO] at hh;simp only [Bool.or_eq_false_iff,Bool.and_eq_false_iff] at hh
    rcases nk with ⟨_,h4⟩|⟨h4,_,_⟩
    ·rw [h4] at aS;cases aS
    ·rcases hh.1.1.2 with h5|h5
     ·exact absurd h5 (by simpa using h4)
     ·exact h5
 ·rw [if_neg hO] at h;exact absurd h hO
end Go.Proofs.YtdgjplldlfeolaaGreatDoor
