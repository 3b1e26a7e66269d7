/- Lemmas. -/
import Derived.Test.YtknfcamdfdfoeaaGreatDoorMac
import Derived.Test.YtknfcamdfdfoeaaGreatDoorZ12
import Derived.Test.YtknfcamdfdfoeaaGreatDoorZ16
import Derived.Test.YtknfcamdfdfoeaaGreatDoorZ09
import Derived.Test.YtknfcamdfdfoeaaGreatDoorZ04
import Derived.Maps.Keyed
import Derived.DeepKeys4
import Derived.Test.YtknfcamdfdfoeaaGreatDoorRows
import Derived.Test.YtknfcamdfdfoeaaGreatDoorZ05
import Derived.WalkMore
import Derived.Test.YtknfcamdfdfoeaaGreatDoorZ17
set_option linter.unusedVariables false
set_option linter.unusedSimpArgs false
set_option maxRecDepth 100000
set_option maxHeartbeats 64000000
namespace Go.Proofs.YtknfcamdfdfoeaaGreatDoor
open Go.RowKit
structure Fr where
 s:Int
 o:Int
 n:Int
 i:Int
 u:Int
def inB (n m:Int):Bool:=decide (0<=n) && decide (n<=m)
def Fr.good (f:Fr):Bool:=inB f.s 24 && inB f.o 16 && inB f.n 16 && inB f.i 8 && inB f.u 8
def Qp (op:Int):Int:=if op=1 then 4 else if op=10\/op=11 then 2 else if 1<op/\op<10 then 1 else 0
def Qj (i:Int×Int):Int:=
 if Qp i.1=0 then 9
 else if Qp i.1=4 then 0
 else if i.1=8/\(i.2<1\/2<i.2) then 9
 else if i.1=9/\(i.2<1\/16<i.2) then 9
 else if Qp i.1=2/\(i.2<0\/65535<i.2) then 10
 else if Qp i.1=1/\(i.2<0\/255<i.2) then 10
 else 0
def Ky (op:Int):Int:=if op=3\/op=5\/op=7\/op=8\/op=11 then 1 else if op=9 then 2 else 0
def Kan (op:Int):Int:=if op=1\/op=2\/op=4\/op=6\/op=8\/op=9 then 1 else 0
def Xn (op:Int) (f:Fr):Int:=if op=2\/op=3 then f.s else if op=4 then f.o else if op=5 then f.n else if op=6 then f.i else if op=7 then f.u else -1
structure Pl where
 met:Bool
 d:Int
 f:Int
def Pl.no:Pl:=⟨false,0,0⟩
def Ja5 (ps:List Pl) (tg:Nat) (d f:Int):Option (List Pl):=
 match ps[tg]? with
 | none=>none
 | some p=>if p.met=true then if p.d=d then some (ps.set tg ⟨true,p.d,max p.f f⟩) else none else some (ps.set tg ⟨true,d,f⟩)
def Jct (f:Fr) (at_:Nat) (i:Int×Int) (ps:List Pl) (dep:Int):Int×List Pl×Int:=
 if Qj i≠0 then(Qj i,ps,dep)
 else if 0<=Xn i.1 f/\Xn i.1 f<=i.2 then(10,ps,dep)
 else if (ps.getD at_ Pl.no).met=false then(13,ps,dep)
 else if (ps.getD at_ Pl.no).d<Ky i.1\/16<(ps.getD at_ Pl.no).d-Ky i.1+Kan i.1 then(12,ps,dep)
 else if (i.1=10\/i.1=11)/\(ps.length:Int)<=at_+1+i.2 then(11,ps,max dep ((ps.getD at_ Pl.no).d-Ky i.1+Kan i.1))
 else
  match (if i.1=10 then some ps else Ja5 ps (at_+1) ((ps.getD at_ Pl.no).d-Ky i.1+Kan i.1) ((ps.getD at_ Pl.no).f+1)) with
  | none=>(12,ps,max dep ((ps.getD at_ Pl.no).d-Ky i.1+Kan i.1))
  | some ps1=>
   if i.1=10\/i.1=11 then
    match Ja5 ps1 ((at_:Int)+1+i.2).toNat ((ps.getD at_ Pl.no).d-Ky i.1+Kan i.1) ((ps.getD at_ Pl.no).f+1) with
    | none=>(12,ps1,max dep ((ps.getD at_ Pl.no).d-Ky i.1+Kan i.1))
    | some ps2=>(0,ps2,max dep ((ps.getD at_ Pl.no).d-Ky i.1+Kan i.1))
   else(0,ps1,max dep ((ps.getD at_ Pl.no).d-Ky i.1+Kan i.1))
def goJ (f:Fr) (n:Nat):Nat->List (Int×Int)->List Pl->Int->(Int×Int)×Int×Int
 | _,[],ps,dep=>if (ps.getD n Pl.no).d≠0 then((0,0),12,n) else((dep,(ps.getD n Pl.no).f),0,0)
 | at_,i :: r,ps,dep=>if (Jct f at_ i ps dep).1≠0 then((0,0),(Jct f at_ i ps dep).1,at_) else goJ f n (at_+1) r (Jct f at_ i ps dep).2.1 (Jct f at_ i ps dep).2.2
def Jdk (n:Nat):List Pl:=⟨true,0,0⟩ :: List.replicate n Pl.no
def Yi (c:List (Int×Int)) (f:Fr):(Int×Int)×Int×Int:=
 if f.good=false then((0,0),1,0)
 else if 600<c.length then((0,0),3,0)
 else goJ f c.length 0 c (Jdk c.length) 0
structure Jaa (k n:Nat) (dep:Int) (ps:List Pl):Prop where
 len:ps.length=n+1
 dep0:0<=dep/\dep<=16
 all:∀(j:Nat) (p:Pl),ps[j]?=some p->0<=p.d/\p.d<=16/\0<=p.f/\p.f<=k/\(p.met=false->p.d=0/\p.f=0)
theorem Jaa.start (n:Nat):Jaa 0 n 0 (Jdk n):=by
 refine⟨by simp [Jdk],Ua,fun j p h=>?_⟩;unfold Jdk at h
 cases j with
 | zero=>simp at h;subst h;simp
 | succ j=>
  rw [List.getElem?_cons_succ,List.getElem?_replicate] at h
  split at h
  ·injection h with h;subst h;simp [Pl.no]
  ·cases h
theorem Jaa.get {k n:Nat} {dep:Int} {ps:List Pl} (h:Jaa k n dep ps) (j:Nat):0<=(ps.getD j Pl.no).d/\(ps.getD j Pl.no).d<=16/\0<=(ps.getD j Pl.no).f/\(ps.getD j Pl.no).f<=k/\((ps.getD j Pl.no).met=false->(ps.getD j Pl.no).d=0/\(ps.getD j Pl.no).f=0):=by
 rw [List.getD_eq_getElem?_getD]
 cases hx:ps[j]? with
 | none=>simp [Pl.no]
 | some p=>exact h.all j p hx
theorem Jaa.more {k k' n:Nat} {dep:Int} {ps:List Pl} (h:Jaa k n dep ps) (hk:k<=k'):Jaa k' n dep ps:=
 ⟨h.len,h.dep0,fun j p hp=>by have:=h.all j p hp;exact⟨this.1,this.2.1,this.2.2.1,Ua,this.2.2.2.2⟩⟩
theorem Jaa.deeper {k n:Nat} {dep d:Int} {ps:List Pl} (h:Jaa k n dep ps) (hd:0<=d/\d<=16):Jaa k n d ps:=⟨h.len,hd,h.all⟩
theorem Jaa.come {k n:Nat} {dep d f:Int} {ps ps':List Pl} {tg:Nat} (h:Jaa k n dep ps) (hc:Ja5 ps tg d f=some ps') (hd:0<=d/\d<=16) (hf:0<=f/\f<=k):Jaa k n dep ps':=by
 unfold Ja5 at hc
 cases hx:ps[tg]? with
 | none=>rw [hx] at hc;cases hc
 | some p=>
  rw [hx] at hc;have am:=(Nh hx).1;have hp:=h.all tg p hx;dsimp only at hc
  have key:∀q:Pl,0<=q.d/\q.d<=16->0<=q.f/\q.f<=k->q.met=true->Jaa k n dep (ps.set tg q):=fun q h1 h2 h3=>⟨by rw [List.length_set];exact h.len,h.dep0,fun j r hj=>by
   rw [List.getElem?_set] at hj
   by_cases hjj:tg=j
   ·rw [if_pos hjj,if_pos am] at hj;injection hj with hj;subst hj;exact⟨h1.1,h1.2,h2.1,h2.2,fun he=>by rw [h3] at he;cases he⟩
   ·rw [if_neg hjj] at hj;exact h.all j r hj⟩
  split at hc
  ·split at hc
   ·injection hc with hc;subst hc;exact key _ ⟨hp.1,hp.2.1⟩ (by dsimp only;omega) rfl
   ·cases hc
  ·injection hc with hc;subst hc;exact key _ hd hf rfl
theorem Jjp (op:Int):0<=Ky op/\Ky op<=2:=by
  unfold Ky;repeat' split
  all_goals omega
theorem Jj1 (op:Int):0<=Kan op/\Kan op<=1:=by unfold Kan;split <;> omega
theorem Jaa.one {k n:Nat} {dep:Int} {ps:List Pl} {f:Fr} {at_:Nat} {i:Int×Int} (h:Jaa k n dep ps) (h0:(Jct f at_ i ps dep).1=0):Jaa (k+1) n (Jct f at_ i ps dep).2.2 (Jct f at_ i ps dep).2.1:=by
 have hg:=h.get at_;have ht:=Jjp i.1;have hv:=Jj1 i.1;have oH:=h.dep0
 revert h0
 unfold Jct
 split
 ·intro h0;exact absurd h0 (by assumption)
 split
 ·intro h0;exact absurd (show(10:Int)=0 from h0) Ux
 split
 ·intro h0;exact absurd (show(13:Int)=0 from h0) Ux
 split
 ·intro h0;exact absurd (show(12:Int)=0 from h0) Ux
 split
 ·intro h0;exact absurd (show(11:Int)=0 from h0) Ux
 rename_i aS _;have hd:0<=(ps.getD at_ Pl.no).d-Ky i.1+Kan i.1/\(ps.getD at_ Pl.no).d-Ky i.1+Kan i.1<=16:=Ua;have hf:0<=(ps.getD at_ Pl.no).f+1/\(ps.getD at_ Pl.no).f+1<=((k+1:Nat):Int):=Ua;have hm:0<=max dep ((ps.getD at_ Pl.no).d-Ky i.1+Kan i.1)/\max dep ((ps.getD at_ Pl.no).d-Ky i.1+Kan i.1)<=16:=Ua;generalize (ps.getD at_ Pl.no).d-Ky i.1+Kan i.1=d at hd hm;generalize (ps.getD at_ Pl.no).f+1=fu at hf;have h1:=h.more (Nat.le_succ k)
 cases hc:(if i.1=10 then some ps else Ja5 ps (at_+1) d fu) with
 | none=>intro h0;exact absurd (show(12:Int)=0 from h0) Ux
 | some ps1=>
  have h2:Jaa (k+1) n dep ps1:=by
   split at hc
   ·injection hc with hc;subst hc;exact h1
   ·exact h1.come hc hd hf
  dsimp only
  split
  ·cases dm:Ja5 ps1 ((at_:Int)+1+i.2).toNat d fu with
   | none=>intro h0;exact absurd (show(12:Int)=0 from h0) Ux
   | some ps2=>exact fun _=>(h2.come dm hd hf).deeper hm
  ·exact fun _=>h2.deeper hm
theorem Jhp {eqs:List Qe} : ∀(l:List Int) (out:List ByteArray),∀s∈out,s∈Xj eqs out l
 | [],out,s,hs=>hs
 | j :: r,out,s,hs=>by
  rw [Xj];refine Jhp r _ s ?_
  cases eqs[j.toNat]? with
  | none=>exact hs
  | some q=>
   dsimp only
   split
   ·exact List.mem_append.2 (.inl hs)
   ·exact hs
theorem Jc5 {eqs:List Qe} : ∀(l:List Int) (out:List ByteArray),∀s∈Xj eqs out l,s∈out\/∃(j:Int) (q:Qe) (o:List ByteArray),j∈l/\eqs[j.toNat]?=some q/\q.name=s/\q.e.reach (inL o)=true/\∀x∈o,x∈Xj eqs out l
 | [],out,s,hs=> .inl hs
 | j :: r,out,s,hs=>by
  rw [Xj] at hs
  cases hq:eqs[j.toNat]? with
  | none=>
   rw [hq] at hs
   rcases Jc5 r _ s hs with h|⟨j',q,o,h1,h2,h3,h4,h5⟩
   ·exact .inl h
   ·refine .inr ⟨j',q,o,by simp [h1],h2,h3,h4,?_⟩;rw [Xj,hq];exact h5
  | some q=>
   rw [hq] at hs;dsimp only at hs
   by_cases hr:q.e.reach (inL out)=true
   ·rw [if_pos hr] at hs
    rcases Jc5 r _ s hs with h|⟨j',q',o,h1,h2,h3,h4,h5⟩
    ·rcases List.mem_append.1 h with h|h
     ·exact .inl h
     ·have dw:s=q.name:=Ve;refine .inr ⟨j,q,out,Ul,hq,dw.symm,hr,fun x hx=>?_⟩;exact Jhp (j :: r) out x hx
    ·refine .inr ⟨j',q',o,by simp [h1],h2,h3,h4,?_⟩;rw [Xj,hq];dsimp only;rw [if_pos hr];exact h5
   ·rw [if_neg hr] at hs
    rcases Jc5 r _ s hs with h|⟨j',q',o,h1,h2,h3,h4,h5⟩
    ·exact .inl h
    ·refine .inr ⟨j',q',o,by simp [h1],h2,h3,h4,?_⟩;rw [Xj,hq];dsimp only;rw [if_neg hr];exact h5
namespace Ex
end Ex
theorem Jnt {p:Pr} (hO:(J1 p).2=(0,0,0)) {v:Va} (hv:v∈p.ins):inL (Qs p).1 v.name=false:=by
 have hc:=(Xk (Yg hO).1).1;have nl:=Jj2 hO;obtain⟨_,dV,_⟩:=Jbe hc;rw [Jl2 nl];refine Jb5.2 fun hm=>?_;have hE:(Qs p).1=Xj p.eqs (Jbj p.eqs) (J1 p).1:=by unfold Qs;rw [if_pos hO]
 rw [hE] at hm
 rcases Jc5 _ _ _ hm with h1|⟨j,x,o,h1,h2,h3,_⟩
 ·unfold Jbj at h1;rw [List.mem_map] at h1;obtain⟨x,hx,hn⟩:=h1;exact dV x (List.mem_filter.1 hx).1 (List.mem_map.2 ⟨v,hv,hn.symm⟩)
 ·exact dV x (Ni h2) (List.mem_map.2 ⟨v,hv,h3.symm⟩)
theorem Jin {h:Qe->Bool} : ∀(l:List Qe) (k:Nat),Zg h k l=(0,0,0)->∀q∈l,h q=false
 | [],_,_,q,hq=>by simp at hq
 | x :: r,k,hs,q,hq=>by
  rw [Zg] at hs
  by_cases hx:h x=true
  ·rw [if_pos hx] at hs;simp at hs
  ·rw [if_neg hx] at hs
   rcases List.mem_cons.1 hq with rfl|hq
   ·simpa using hx
   ·exact Jin r (k+1) hs q hq
theorem Jl6 {v:Va} (h:Ke v false=true):v.cn.toList.isEmpty=true:=by
 simp only [Ke,Bool.and_eq_true] at h;have h3:=h.2
 by_cases h0:v.ck=0
 ·rw [if_pos h0] at h3;exact h3
 ·rw [if_neg h0] at h3
  by_cases h1:v.ck=1\/v.ck=2
  ·rw [if_pos h1] at h3;simp at h3
  ·rw [if_neg h1] at h3;simp at h3
theorem Jhq {p:Pr} (hc:J7 p=(0,0,0)) {u v:Va} (hu:u∈Je p) (hv:v∈Je p) (hn:u.name=v.name):u=v:=by
 obtain⟨i,hi⟩:=List.getElem?_of_mem hu;obtain⟨j,hj⟩:=List.getElem?_of_mem hv;have:=(Xp hc).2.1 i j u v hi hj hn;subst this;rw [hi] at hj;injection hj
theorem Jsu {p:Pr} (h:Ks p=(0,0,0)):(J1 p).2=(0,0,0)/\(∀v∈p.ins ++ p.outs,inL (Qs p).1 v.name=false)/\∀v∈Je p,v.cn.toList.isEmpty=false->inL (Qs p).1 v.cn=false:=by
 unfold Ks at h
 by_cases hO:(J1 p).2=(0,0,0)
 ·rw [if_pos hO] at h;have aN:=(Yg hO).1;have hc:=(Xk aN).1;have jn:=(Xp hc).1;have kD:=jn;simp only [Qw,Bool.and_eq_true,List.all_eq_true] at kD;have hz:=Jin _ _ h;obtain⟨_,dV,dE⟩:=Jbe hc;refine⟨hO,fun v hv=>?_,fun v hv aS=>?_⟩
  ·rcases List.mem_append.1 hv with h1|h1
   ·exact Jnt hO h1
   ·have xo:v∈Je p:=by simp [Je,h1]
    rcases dE v xo with h2|⟨q,hq,qL⟩
    ·obtain⟨u,hu,gG⟩:=List.mem_map.1 h2;have:=Jhq hc (by simp [Je,hu]) xo gG;subst this;exact Jnt hO hu
    ·have hh:=hz q hq;unfold Jen Jdp at hh;simp only [Bool.or_eq_false_iff,Bool.and_eq_false_iff] at hh;rw [<-qL]
     rcases hh.2 with h3|h3
     ·exact absurd (Jbk.2 (List.mem_map.2 ⟨v,h1,qL.symm⟩)) (by rw [h3];simp)
     ·exact h3
  ·have hnin:v ∉ p.ins:=fun hi=>by rw [Jl6 (kD.1.1.1.2 v hi)] at aS;cases aS
   rcases dE v hv with h2|⟨q,hq,qL⟩
   ·obtain⟨u,hu,gG⟩:=List.mem_map.1 h2;have:=Jhq hc (by simp [Je,hu]) hv gG;subst this;exact absurd hu hnin
   ·obtain⟨v',hm,_,wg,bO,nk⟩:=Ja3 aN hq;have:=Jhq hc hm hv (wg.trans qL);subst this;have hh:=hz q hq;unfold Jen Jdp at hh;rw [bO] at hh;simp only [Bool.or_eq_false_iff,Bool.and_eq_false_iff] at hh
    rcases nk with ⟨_,h4⟩|⟨h4,_,_⟩
    ·rw [h4] at aS;cases aS
    ·rcases hh.1.1.2 with h5|h5
     ·exact absurd h5 (by simpa using h4)
     ·exact h5
 ·rw [if_neg hO] at h;exact absurd h hO
structure Ce where
 name:ByteArray
 ck:Int
 cn:ByteArray
 first:Int
def inC (l:List (Int×ByteArray)) (c:Int×ByteArray):Bool:=l.any fun d=>K9 d.1 d.2 c.1 c.2
theorem Jwh (l:List (Int×ByteArray)) (d c:Int×ByteArray):inC (l ++ [d]) c=(inC l c || K9 d.1 d.2 c.1 c.2):=by unfold inC;simp
theorem Jyj {c d:Int×ByteArray} (h:K9 c.1 c.2 d.1 d.2=true):c=d:=by
 obtain⟨h1,h2⟩:=Jdg.1 h;exact Prod.ext h1 (Jej h2)
theorem Jvf (c:Int×ByteArray):K9 c.1 c.2 c.1 c.2=true:=Jdg.2 ⟨rfl,rfl⟩
theorem Kce {l:List (Int×ByteArray)} {c:Int×ByteArray} : inC l c=true<->c∈l:=by
 unfold inC;rw [List.any_eq_true]
 constructor
 ·rintro⟨d,hd,h⟩;rw [<-Jyj h];exact hd
 ·exact fun h=>⟨c,h,Jvf c⟩
namespace Ex
mutual
def arrs:List (Int×ByteArray)->Ex->Int×ByteArray->List (Int×ByteArray)
 | l,mk k _ s sub,c=>arrsL (if k=7 then l ++ [c] else l) k s c 0 sub
def arrsL:List (Int×ByteArray)->Int->ByteArray->Int×ByteArray->Nat->List Ex->List (Int×ByteArray)
 | l,_,_,_,_,[]=>l
 | l,k,s,c,i,x :: r=>arrsL (arrs l x (K4 k s c i)) k s c (i+1) r
end
theorem arrs_eq (l:List (Int×ByteArray)) (e:Ex) (c:Int×ByteArray):e.arrs l c=arrsL (if e.kind=7 then l ++ [c] else l) e.kind e.name c 0 e.sub:=by cases e;rw [arrs];rfl
end Ex
def Jai (e:Ex):Int:=if e.kind=4 then W32 (-(match e.sub with|x :: _=>x.n | []=>0)) else e.n
def Xm (L:List Va) (q:Qe):Ce:=⟨q.name,(J9 L q.name).1,(J9 L q.name).2,Jai q.first⟩
def J0 (l:List Qe):List Qe:=l.filter (fun q=>q.delay != 0)
def Jad (L:List Va) (l:List Qe):List (Int×ByteArray):=l.foldl (fun m q=>q.e.arrs m (J9 L q.name)) []
def X3 (L:List Va):List (Int×ByteArray):=(0,⟨#[]⟩) :: L.flatMap fun v=>[(1,v.name),(2,v.name)]
def Jb6 (c:Int×ByteArray):Ce:=⟨⟨#[]⟩,c.1,c.2,0⟩
def Kaq (m:List (Int×ByteArray)) (l:List (Int×ByteArray)):List Ce:=(l.filter (inC m)).map Jb6
def Jq (p:Pr):List Ce:=(J0 p.eqs).map (Xm (Je p)) ++ Kaq (Jad (Je p) p.eqs) (X3 (Je p))
def Kf (p:Pr):List Ce×(Int×Int×Int):=if Ks p=(0,0,0) then if 16<(Jq p).length then([],(4,0,3)) else(Jq p,(0,0,0)) else([],Ks p)
def Jz7 (g:ByteArray->Int) (fl:Int×ByteArray->Int) (k n:Int) (s:ByteArray) (c:Int×ByteArray) (vs:List Int):Int:=
 if k=3 then g s
 else if k=4 then unF n (vs.getD 0 0)
 else if k=5 then Kak n (vs.getD 0 0) (vs.getD 1 0)
 else if k=6 then if vs.getD 0 0≠0 then vs.getD 1 0 else vs.getD 2 0
 else if k=7 then if fl c≠0 then vs.getD 1 0 else vs.getD 0 0
 else if k=8\/k=9 then vs.getD 0 0
 else if k=10 then if g s≠0 then vs.getD 0 0 else vs.getD 1 0
 else n
namespace Ex
mutual
def eval (g:ByteArray->Int) (fl:Int×ByteArray->Int):Ex->Int×ByteArray->Int
 | mk k n s sub,c=>Jz7 g fl k n s c (Jxk g fl k s c 0 sub)
def Jxk (g:ByteArray->Int) (fl:Int×ByteArray->Int):Int->ByteArray->Int×ByteArray->Nat->List Ex->List Int
 | _,_,_,_,[]=>[]
 | k,s,c,i,x :: r=>eval g fl x (K4 k s c i) :: Jxk g fl k s c (i+1) r
end
end Ex
def Kam (g:ByteArray->Int) (c:Int×ByteArray):Bool:=if c.1=1 then g c.2 != 0 else if c.1=2 then g c.2 == 0 else true
theorem Jxo {s t:ByteArray} : s.data=t.data<->s=t:=⟨fun h=>by ext1;exact h,fun h=>Ti⟩
def Jb4 (L:List Va):Prop:=∀(i j:Nat) (u v:Va),L[i]?=some u->L[j]?=some v->u.name=v.name->i=j
theorem Jb4.tail {v:Va} {L:List Va} (h:Jb4 (v :: L)):Jb4 L/\∀u∈L,u.name≠v.name:=by
 refine⟨fun i j a b ha hb hn=>?_,fun u hu hn=>?_⟩
 ·have:=h (i+1) (j+1) a b (by simpa using ha) (by simpa using hb) hn;exact Ua
 ·obtain⟨i,hi⟩:=List.getElem?_of_mem hu;have:=h (i+1) 0 u v Mf rfl hn;exact Ua
theorem Jfn {L:List Va} {c:Int×ByteArray} : c∈L.flatMap (fun v=>[((1:Int),v.name),(2,v.name)])<->∃v∈L,c=(1,v.name)\/c=(2,v.name):=by
 simp [List.mem_flatMap]
theorem Jjk:∀ {L:List Va},Jb4 L->(L.flatMap fun v=>[((1:Int),v.name),(2,v.name)]).Pairwise (·≠·)
 | [],_=>Ul
 | v :: L,h=>by
  obtain⟨h1,h2⟩:=h.tail;rw [List.flatMap_cons,List.pairwise_append];refine⟨Ul,Jjk h1,fun a ha b hb=>?_⟩;obtain⟨u,hu,hb⟩:=Jfn.1 hb;have aS:=h2 u hu;simp only [List.mem_cons,List.not_mem_nil,or_false] at ha
  rcases ha with rfl|rfl <;> rcases hb with rfl|rfl <;> intro e <;> injection e with e1 e2
  ·exact aS e2.symm
  ·exact absurd e1 Ux
  ·exact absurd e1 Ux
  ·exact aS e2.symm
theorem Jsh {L:List Va} (h:Jb4 L):(X3 L).Pairwise (·≠·):=by
 unfold X3;rw [List.pairwise_cons];refine⟨fun b hb=>?_,Jjk h⟩;obtain⟨u,_,hb⟩:=Jfn.1 hb
 rcases hb with rfl|rfl <;> intro e <;> injection e with e1 e2 <;> exact absurd e1 Ux
def Jha (l:List Ce):Prop:=l.Pairwise fun a b=>a.name.toList.isEmpty=true->b.name.toList.isEmpty=true->(a.ck,a.cn)≠(b.ck,b.cn)
theorem Jn1 {m l:List (Int×ByteArray)} (h:l.Pairwise (·≠·)):Jha (Kaq m l):=by
 unfold Jha Kaq;rw [List.pairwise_map];exact(h.filter _).imp fun aS _ _=>aS
theorem Jo1 {p:Pr} (gG:Jb4 (Je p)) (hn:∀q∈p.eqs,q.name.toList.isEmpty=false):Jha (Jq p):=by
 unfold Jq Jha;rw [List.pairwise_append];refine⟨?_,Jn1 (Jsh gG),fun a ha b _ xp=>?_⟩
 ·rw [List.pairwise_map];refine List.Pairwise.imp_of_mem (R:=fun _ _=>True) ?_ (List.pairwise_of_forall fun _ _=>trivial);intro a b ha _ _ xp;have:=hn a (List.mem_filter.1 ha).1;rw [show(Xm (Je p) a).name=a.name from rfl,this] at xp
  cases xp
 ·obtain⟨q,hq,rfl⟩:=List.mem_map.1 ha;have:=hn q (List.mem_filter.1 hq).1;rw [show(Xm (Je p) q).name=q.name from rfl,this] at xp
  cases xp
namespace Ex
theorem Kat {k:Int} {s:ByteArray} {c:Int×ByteArray} : ∀(r:List Ex),(∀x∈r,∀l c,x.arrs l c=l ++ x.arrs [] c)->∀(l:List (Int×ByteArray)) (i:Nat),arrsL l k s c i r=l ++ arrsL [] k s c i r
 | [],_,l,i=>by rw [arrsL,arrsL];simp
 | x :: r,h,l,i=>by
  rw [arrsL,arrsL,Kat r (fun y hy=>h y F0) (x.arrs l _),Kat r (fun y hy=>h y F0) (x.arrs [] _),h x Ul l,List.append_assoc]
theorem arrs_app (e:Ex):∀l c,e.arrs l c=l ++ e.arrs [] c:=by
 induction e using ind with
 | h e ih=>
  intro l c;rw [arrs_eq,arrs_eq []];rw [Kat e.sub ih,Kat e.sub ih (if e.kind=7 then [] ++ [c] else [])]
  split <;> simp
theorem Kbn {k:Int} {s:ByteArray} {c:Int×ByteArray} : ∀(r:List Ex) (l:List (Int×ByteArray)) (i j:Nat) (x:Ex),r[j]?=some x->∀d∈x.arrs [] (K4 k s c (i+j)),d∈arrsL l k s c i r
 | [],l,i,j,x,h=>Lt
 | y :: r,l,i,0,x,h=>fun d hd=>by
  simp at h;subst h;rw [arrsL,Kat r (fun z _=>arrs_app z),arrs_app];simp [show i+0=i from rfl] at hd ⊢;exact .inr (.inl hd)
 | y :: r,l,i,j+1,x,h=>fun d hd=>by
  rw [arrsL];exact Kbn r _ (i+1) j x Ve d (by rwa [show i+1+j=i+(j+1) from by omega])
theorem arrs_sub {e x:Ex} {j:Nat} (h:e.sub[j]?=some x) (c:Int×ByteArray):∀d∈x.arrs [] (K4 e.kind e.name c j),d∈e.arrs [] c:=fun d hd=>by
 rw [arrs_eq];exact Kbn e.sub _ 0 j x h d (by rwa [Nat.zero_add])
theorem arrs_here {e:Ex} (h:e.kind=7) (c:Int×ByteArray):c∈e.arrs [] c:=by
 rw [arrs_eq,if_pos h,Kat e.sub (fun x _=>arrs_app x)];exact Ul
end Ex
end Go.Proofs.YtknfcamdfdfoeaaGreatDoor
namespace Go.Proofs.YtknfcamdfdfoeaaGreatDoor
open Go.RowKit Go.Sort Go.Maps Go.ChangeMaps Go.WideMaps
structure Jer (P:Program) (k:TypeId) {K:Type} (ok:K->Prop) (kv:K->Value) (kl:K->Lit):Prop where
 keyed:Keyed P k
 read:∀x,ok x->keyOf P k (kv x)=some (kl x)
 inj:∀x y,ok x->ok y->kl x=kl y->x=y
def Q3 (P:Program) (k e:TypeId) (q:IntKind) {K:Type} (ok:K->Prop) (kl:K->Lit) (w:World) (b n:Nat) (f:K->Option Int) (c:Nat):Prop:=
 ∃D:DataW Unit,w.ownsMap P k (plainElem P e) b n D/\Maps.Tidy D/\Maps.size D=c/\
  ∀x,ok x->Maps.has D (kl x)=(f x).isSome/\D.atKey (kl x) (.lit (.int q 0)) = .lit (.int q ((f x).getD 0))
section
variable {P:Program} {k e:TypeId} {q:IntKind} {K:Type} {ok:K->Prop} {kv:K->Value} {kl:K->Lit} {w w':World} {b n c:Nat} {f:K->Option Int}
theorem Q3.made (w:World):Q3 P k e q ok kl (w.alloc (.map #[] 0)) w.heap.size 0 (fun _=>none) 0:=
 ⟨.map [],World.ownsMap_made w P k _,Maps.tidy_empty,rfl,fun x _=>⟨rfl,rfl⟩⟩
theorem Q3.lt (h:Q3 P k e q ok kl w b n f c):b<w.heap.size:=by
 obtain⟨D,h1,_⟩:=h;exact h1.lt
theorem Q3.keep1 (h:Q3 P k e q ok kl w b n f c) (hb:w'.heap[b]?=w.heap[b]?):Q3 P k e q ok kl w' b n f c:=by
 exact Uc4
theorem Q3.bel (h:Q3 P k e q ok kl w b n f c) (hb:Below w.heap.size w w'):Q3 P k e q ok kl w' b n f c:=h.keep1 (hb.block b h.lt)
theorem Q3.more (h:Q3 P k e q ok kl w b n f c) {m:Nat} (hm:n<=m):Q3 P k e q ok kl w b m f c:=by
 obtain⟨D,h1,h2⟩:=h;exact⟨D,h1.mono hm,h2⟩
theorem Q3.same (h:Q3 P k e q ok kl w b n f c) {g:K->Option Int} (hg:∀x,ok x->g x=f x):Q3 P k e q ok kl w b n g c:=by
 obtain⟨D,h1,h2,h3,h4⟩:=h;exact⟨D,h1,h2,h3,fun x hx=>by rw [hg x hx];exact h4 x hx⟩
theorem Jr3 (ks:Jer P k ok kv kl) {ops:Array Oper} {rest:List Oper} {o:Oper} {a:Act} {Q:Exit->Act->World->Prop} (hg:o.guard=none) (m x v:Operand) (t:TypeId) (jf:o.op=Op.mapUpdate t m x v)
  (ht:P.underlying t=some (.map k e)) (he:P.underlying e=some (.int q))
  (b n:Nat) (f:K->Option Int) (c:Nat) (s:K) (i:Int) (hm:a.eval m = .map (some b)) (ae:Q3 P k e q ok kl w b n f c) (hn:n<1000000000) (hx:a.eval x=kv s) (hv:a.eval v = .int q i)
  (hs:ok s) (hi:(Lit.int q i).wf=true) (f':K->Option Int) (db:f' s=some i) (gO:∀y,ok y->y≠s->f' y=f y)
  (hK:∀w',Q3 P k e q ok kl w' b (n+1) f' (if (f s).isSome then c else c+1)->w.grownBy w' (some b)->wpList P ops Q rest (a.put o.dst undef) w'):wpList P ops Q (o :: rest) a w:=by
 obtain⟨D,h1,h2,hc,h3⟩:=ae;have fR:WideAt.IsKeyLit (kl s):=ks.keyed.key (ks.read s hs);refine wpList_mapUpdate_own w hg m x v t jf k e ks.keyed ht _ b n D hm h1 U2 _ _ _ hx hv (ks.read s hs) _ [] (plainElem_int he hi) fun w' h4 h5=>hK w' ⟨_,h4,h2.put fR _,?_,fun y hy=>?_⟩ h5
 ·rw [Maps.size_put h2,(h3 s hs).1,hc]
 ·by_cases oJ:y=s
  ·subst oJ;rw [has_put_same h2.isMap fR,atKey_put_same h2.isMap fR,db];exact Ul
  ·have aS:kl y≠kl s:=fun h=>oJ (ks.inj y s hy hs h);rw [has_put_other aS,atKey_put_other aS,(h3 y hy).1,(h3 y hy).2,gO y hy oJ];exact⟨rfl,rfl⟩
end
def okS (s:ByteArray):Prop:=s.size<=maxLen
def klS (s:ByteArray):Lit:= .string s.data.toList
theorem Jc2 {P:Program} {k:TypeId} (hk:P.underlying k=some .string):Jer P k okS Value.string klS:=
 ⟨string_keyed hk,fun _ hs=>keyOf_string_mk hk hs,fun x y _ _ h=>by
  unfold klS at h;injection h with h
  ext1
  have:=congrArg List.toArray h;simpa using this⟩
def okC (c:Int×ByteArray):Prop:=I64 c.1/\c.2.size<=maxLen
def kvC (c:Int×ByteArray):Value:= .agg #[.int .i64 c.1,.string c.2]
def klC (c:Int×ByteArray):Lit:= .string (keyBytes [.int .i64 c.1,.string c.2.data.toList])
theorem Jok {n:Int} (h:I64 n):(Lit.int .i64 n).wf=true:=by
 unfold I64 at h;simp [Lit.wf,IntKind.min,IntKind.max,IntKind.signed,IntKind.bits];omega
theorem Jrm {x y:Int×ByteArray} (hx:okC x) (hy:okC y) (h:klC x=klC y):x=y:=by
 unfold klC at h;injection h with h
 have hw:∀z:Int×ByteArray,okC z->∀a∈[Lit.int .i64 z.1,Lit.string z.2.data.toList],a.keyWf:=by
  intro z hz a ha;simp only [List.mem_cons,List.not_mem_nil,or_false] at ha
  rcases ha with rfl|rfl
  ·exact Jok hz.1
  ·show z.2.data.toList.length<=maxLen;simpa using hz.2
 have:=keyBytes_inj (l:=[.int .i64 x.1,.string x.2.data.toList]) (l':=[.int .i64 y.1,.string y.2.data.toList]) ⟨rfl,trivial,trivial⟩ (hw x hx) (hw y hy) h;injection this with h1 h2;injection h1 with _ h1;injection h2 with h2;injection h2 with h2;refine Prod.ext h1 ?_
 ext1
 have:=congrArg List.toArray h2;simpa using this
theorem Jp8:(55:TypeId)<Tryz.prog.types.size:=of_decide_eq_true Ug
theorem Jpk:KeyLaw Tryz.prog 55:=deep_law_laid Tryz.laidOut (m:=3) Ua Jp8 Ug Ug
theorem Juf (c:Int×ByteArray) (hc:okC c):keyOf Tryz.prog 55 (kvC c)=some (klC c):=by
 obtain⟨h1,h2⟩:=hc;have hk:Tryz.prog.keyType 55=true:=Ug
 have hf:(kvC c).formed Tryz.prog 55=true:=by
  unfold kvC Value.formed;rw [Tryz.underlying55,Jeq];exact Gd
 have hw:=Jok h1
 have hl:Tryz.prog.keyLits (Tryz.prog.types.size+1) 55 (kvC c).cells.toList=some [.int .i64 c.1,.string c.2.data.toList]:=by
  obtain⟨n,hn⟩:∃n,Tryz.prog.types.size=n+1:=⟨Tryz.prog.types.size-1,(Nat.succ_pred_eq_of_pos (Nat.lt_of_le_of_lt (Np) Jp8)).symm⟩;rw [hn];unfold Program.keyLits;rw [Tryz.underlying55];simp [kvC,Value.cells,Jeq,Jdi,Ja1,Program.keyLits,Tryz.underlying3,Tryz.underlying9,hw,h2]
 unfold keyOf;rw [Tryz.underlying55];simp only [hk,hf,hl,Bool.and_self,if_true,Option.map_some];exact Gd
theorem Jl0:Jer Tryz.prog 55 okC kvC klC:=⟨Keyed.of_law Jpk,Juf,fun _ _=>Jrm⟩
end Go.Proofs.YtknfcamdfdfoeaaGreatDoor
namespace Go.Proofs.YtknfcamdfdfoeaaGreatDoor
open Go.RowKit Go.Sort
theorem Jon:(Tryz.prog.info? 51).map (fun i=>(i.zero,i.size,i.bytes))=some (some (.agg #[.int .i64 0,.int .i32 0,.string ⟨#[]⟩,.slice none 0 0]),4,56):=Ug
theorem Jls {α:Type} (l:List α):l = []\/∃(a:List α) (b:α),l=a ++ [b]:=by
 rcases List.eq_nil_or_concat l with h|⟨a,b,h⟩
 ·exact .inl h
 ·exact .inr ⟨a,b,by rw [h,List.concat_eq_append]⟩
theorem Jw8 {w:World} {base size n m cap:Nat} {e:TypeId} {D:Option Addr} {xs ys:List Value} (h:w.ownsRow base e size (.slice D (n+m) cap) (n+m) (xs ++ ys)) (hx:xs.length=n * size):w.ownsRow base e size (.slice D n cap) n xs:=by
 refine⟨hx,?_⟩
 rcases h.2 with ⟨hv,h0⟩|⟨g,cap',cur,hv,hg,hh,h1,h2,h3,h4⟩
 ·injection hv with e1 e2 e3;subst e1 e3;obtain rfl:n=0:=Ua;exact .inl ⟨rfl,rfl⟩
 ·injection hv with e1 e2 e3;subst e1 e3;refine .inr ⟨g,cap,cur,rfl,hg,hh,Ua,h2,h3,?_⟩;have:(cur.toList.take ((n+m) * size)).take (n * size)=xs:=by rw [h4,List.take_append_of_le_length Ua,<-hx,List.take_length]
  rwa [List.take_take,Nat.min_eq_left (Nat.mul_le_mul_right _ Ua)] at this
theorem Jj7:∀(l:List Ex) (ls:List (Option Addr×Nat)),ls.length=l.length->(Ya l ls).length=l.length * 4
 | [],[],_=>rfl
 | y :: l,b :: ls,h=>by
  have:=Jj7 l ls Ve;rw [Ya,Nk,this];simp [exC];omega
 | [],b :: ls,h=>Lt
 | y :: l,[],h=>Lt
theorem Jot:∀(l m:List Ex) (ls ms:List (Option Addr×Nat)),ls.length=l.length->Ya (l ++ m) (ls ++ ms)=Ya l ls ++ Ya m ms
 | [],m,[],ms,_=>by simp [Ya]
 | y :: l,m,b :: ls,ms,h=>by
  simp only [List.cons_append,Ya,List.append_assoc];rw [Jot l m ls ms Ve]
 | [],m,b :: ls,ms,h=>Lt
 | y :: l,m,[],ms,h=>Lt
theorem Xv.lies {w:World} {b:Nat} : ∀(l:List Ex) (off:Nat),Xv w b l off->∃ls:List (Option Addr×Nat),ls.length=l.length/\(∀j u,(Ya l ls)[j]?=some u->w.cell? ⟨b,off+j,none⟩=some u)/\∀(j:Nat) (x:Ex) (a:Option Addr×Nat),l[j]?=some x->ls[j]?=some a->Jt w x a.1 a.2
 | [],off,_=>⟨[],rfl,by simp [Ya],Ul⟩
 | y :: l,off,h=>by
  rw [Xv] at h;obtain⟨⟨A,cap,c0,c1,c2,c3,hs⟩,hr⟩:=h;obtain⟨ls,h1,h2,h3⟩:=Xv.lies l (off+4) hr;refine⟨(A,cap) :: ls,by simp [h1],fun j u hj=>?_,fun j x a hx ha=>?_⟩
  ·rw [Ya] at hj
   match j with
   | 0=>
     obtain rfl:Value.int .i64 y.kind=u:=Gk;exact c0
   | 1=>
     obtain rfl:Value.int .i32 y.n=u:=Gk;exact c1
   | 2=>
     obtain rfl:Value.string y.name=u:=Gk;exact c2
   | 3=>
     obtain rfl:Value.slice A y.sub.length cap=u:=Gk;exact c3
   | j+4=>
    have:=h2 j u Gk
    rwa [show off+4+j=off+(j+4) from by omega] at this
  ·cases j with
   | zero=>
    simp at hx ha;subst hx ha;exact hs
   | succ j=>exact h3 j x a (by simpa using hx) (by simpa using ha)
theorem Jt.lies {w:World} {e:Ex} {A:Option Addr} {cap:Nat} (h:Jt w e A cap):∃ls:List (Option Addr×Nat),ls.length=e.sub.length/\X6 w A e.sub.length 4 (Ya e.sub ls)/\∀(j:Nat) (x:Ex) (a:Option Addr×Nat),e.sub[j]?=some x->ls[j]?=some a->Jt w x a.1 a.2:=by
 rw [Jao] at h
 rcases Nat.eq_zero_or_pos e.sub.length with h0|h0
 ·have hn:e.sub = []:=List.eq_nil_of_length_eq_zero h0;rw [hn];exact⟨[],rfl,⟨rfl,fun h=>absurd h Ul⟩,Ul⟩
 ·obtain⟨b,off,rfl,hr⟩:=h.2.2 h0;obtain⟨ls,h1,h2,h3⟩:=Xv.lies _ _ hr;exact⟨ls,h1,⟨Jj7 _ _ h1,fun _=>⟨b,off,rfl,h2⟩⟩,h3⟩
def Jca (w0 w:World) (base:Nat) (t:TypeId) (st:List Ex) (D:Option Addr) (dc:Nat):Prop:=
 ∃ls:List (Option Addr×Nat),ls.length=st.length/\(∀(j:Nat) (x:Ex) (a:Option Addr×Nat),st[j]?=some x->ls[j]?=some a->Jt w0 x a.1 a.2)/\w.ownsRow base t 4 (.slice D st.length dc) st.length (Ya st ls)
theorem Jca.pop {w0 w:World} {base:Nat} {t:TypeId} {st:List Ex} {x:Ex} {D:Option Addr} {dc:Nat} (h:Jca w0 w base t (st ++ [x]) D dc) :
  ∃b A cap,D=some ⟨b,0,none⟩/\base<=b/\b<w.heap.size/\st.length+1<=dc/\dc<=maxLen/\Jt w0 x A cap/\w.cell? ⟨b,st.length * 4,none⟩=some (.int .i64 x.kind)/\w.cell? ⟨b,st.length * 4+1,none⟩=some (.int .i32 x.n)/\
   w.cell? ⟨b,st.length * 4+2,none⟩=some (.string x.name)/\w.cell? ⟨b,st.length * 4+3,none⟩=some (.slice A x.sub.length cap)/\Jca w0 w base t st D dc:=by
 obtain⟨ls,hl,hs,ae⟩:=h
 rcases Jls ls with rfl|⟨ls',a,rfl⟩
 ·simp at hl
 ·have qM:ls'.length=st.length:=by simpa using hl
  rw [Jih st ls' x a qM,Nk] at ae;obtain⟨g,cap,hv,hg,am,h1,h2,hc⟩:=Kc ae Ul;injection hv with e1 e2 e3;subst e1 e3;have ai:=Jj7 st ls' qM;have ev:∀i u,(exC x a)[i]?=some u->w.cell? ⟨g,st.length * 4+i,none⟩=some u:=fun i u hu=>hc _ _ (by rw [List.getElem?_append_right Ua,ai,show st.length * 4+i-st.length * 4=i from by omega];exact hu);refine⟨g,a.1,a.2,rfl,hg,am,Lw,h2,hs st.length x a Ul (by rw [<-qM];simp),ev 0 _ rfl,ev 1 _ rfl,ev 2 _ rfl,ev 3 _ rfl,ls',qM,fun j y b hy hb=>?_,Jw8 ae ai⟩;have hj:j<st.length:=(Nh hy).1;exact hs j y b (by rw [List.getElem?_append_left hj];exact hy) (by rw [List.getElem?_append_left Ua];exact hb)
theorem Jca.push {w0 w:World} {base:Nat} {t:TypeId} {st sub:List Ex} {ls ms:List (Option Addr×Nat)} {D:Option Addr} {dc:Nat} (hl:ls.length=st.length) (hs:∀(j:Nat) (x:Ex) (a:Option Addr×Nat),st[j]?=some x->ls[j]?=some a->Jt w0 x a.1 a.2)
  (hm:ms.length=sub.length) (bd:∀(j:Nat) (x:Ex) (a:Option Addr×Nat),sub[j]?=some x->ms[j]?=some a->Jt w0 x a.1 a.2) (ae:w.ownsRow base t 4 (.slice D (st.length+sub.length) dc) (st.length+sub.length) (Ya st ls ++ Ya sub ms)):Jca w0 w base t (st ++ sub) D dc:=by
 refine⟨ls ++ ms,by simp [hl,hm],fun j x a hx ha=>?_,by rw [Jot _ _ _ _ hl,Nk];exact ae⟩
 rcases Nat.lt_or_ge j st.length with hj|hj
 ·rw [List.getElem?_append_left hj] at hx;rw [List.getElem?_append_left Ua] at ha;exact hs j x a hx ha
 ·rw [List.getElem?_append_right hj] at hx;rw [List.getElem?_append_right Ua,hl] at ha;exact bd _ x a hx ha
theorem X6.moved {w w':World} {A:Option Addr} {m size:Nat} {news:List Value} (h:X6 w A m size news) (hb:Below w.heap.size w w'):X6 w' A m size news:=
 ⟨h.1,fun hm=>by
  obtain⟨b,off,e,hc⟩:=h.2 hm;exact⟨b,off,e,fun j u hj=>Ja hb (hc j u hj)⟩⟩
theorem Jox:∀(l:List Ex) (ls:List (Option Addr×Nat)),∀u∈Ya l ls,u.oneCell'=true
 | [],_,u,h=>by simp [Ya] at h
 | y :: l,[],u,h=>by simp [Ya] at h
 | y :: l,b :: ls,u,h=>by
  rw [Ya] at h
  rcases List.mem_append.1 h with h1|h1
  ·simp only [exC,List.mem_cons,List.not_mem_nil,or_false] at h1
   rcases h1 with rfl|rfl|rfl|rfl <;> rfl
  ·exact Jox l ls u h1
theorem Je8 {e:Ex} (h:e.formed=true) (hk:e.kind=7):e.sub.length=2:=by
 exact Ucp
theorem Jgc (e:Ex) (A:Option Addr) (cap:Nat) (B n:Nat) (f:ByteArray->Option Int) (w:World) (he:Jt w e A cap) (hf:e.formed=true) (aw:e.OK) (hz:e.size<=1000000) (hm:Jz Tryz.prog 9 3 w B n f) :
  Calls Tryz.prog 108 #[.map (some B),exV e A cap] w fun r w'=>r = .returned (.bool (e.reach (onM f)))/\Below w.heap.size w w':=by
 obtain⟨R,hR⟩:∃R,R=e.reach (onM f):=⟨_,rfl⟩;rw [<-hR];have vi:=Nf (by rw [hR];simp [Ex.reachL]:Ex.reachL (onM f) [e]=R);clear hR;unfold exV
 go_enter Tryz.func108,Tryz.ntmps108
 go_wp2_with fail
 go_step3
 go_wp2_with fail
 go_step3
 go_wp2_with fail
 refine Jo fun W0 ag=>?_;have ax:=Nd w W0 Uo
 have jx:Jca w W0 w.heap.size 51 [e] (some ⟨w.heap.size+1,0,none⟩) 1:=by
  refine⟨[(A,cap)],rfl,fun j x a hx ha=>?_,?_⟩
  ·match j with
   | 0=>
     obtain rfl:e=x:=by simpa using hx
     obtain rfl:(A,cap)=a:=by simpa using ha
     exact he
   | j+1=>simp at hx
  ·rw [ag];have:=World.ownsRow_lit (base:=w.heap.size) (e:=51) (size:=4) (w.alloc (.cells #[.int .i64 e.kind,.int .i32 e.n,.string e.name,.slice A e.sub.length cap] 51)) #[.int .i64 e.kind,.int .i32 e.n,.string e.name,.slice A e.sub.length cap] 1 Ul U2 rfl;simpa [Ya,exC] using this
 have zb:∀x∈[e],x.formed=true/\x.OK:=fun x hx=>by
  obtain rfl:x=e:=by simpa using hx
  exact⟨hf,aw⟩
 have HF0:=Nf zb;clear ag he hf aw zb
 go_loopg [5,6] (e.size) (fun gk todo met wr=>∃(st:List Ex) (m:Nat) (D:Option Addr) (dc:Nat),todo = .slice D m dc/\met = .bool false/\Hid (m=st.length)/\Ex.sizeL st<=gk/\gk<=1000000/\Hid (Ex.reachL (onM f) st=R)/\Hid (∀x∈st,x.formed=true/\x.OK)/\Hid (Jca w wr w.heap.size 51 st D dc)/\Below w.heap.size w wr)
 case atStart=>exact⟨[e],1,_,1,rfl,rfl,Nf rfl,by simp [Ex.sizeL],hz,vi,HF0,Nf jx,ax⟩
 case round=>
  obtain⟨st,m,D,dc,rfl,rfl,tX,hgs,hgk,aa,lz,cP,ab⟩:=hrel;have bu:=ab.size;have ej:=hm.bel ab
  rcases Jls st with rfl|⟨st,x,rfl⟩
  ·have eU:m=0:=by simpa using tX.out
   subst eU;have HR:=Nf (show false=R from aa.out);clear aa tX lz cP
   go_wp2_with fail
   (try rw [Exit.noGoto_ret])
   exact Udg
  ·have eU:m=st.length+1:=by simpa using tX.out
   subst eU;obtain⟨b,A',cap',rfl,ac,aq,js,gN,dT,c0,c1,c2,c3,hst'⟩:=cP.out.pop;obtain⟨gW,jz⟩:=lz.out x Ul;have hr:=aa.out;rw [Ex.reachL_app,show Ex.reachL (onM f) [x]=x.reach (onM f) by simp [Ex.reachL],Ex.reach_eq] at hr
   have bC:Ex.sizeL st+(Ex.sizeL x.sub+1)<=gk:=by
    rw [Ex.sizeL_app] at hgs;simpa [Ex.sizeL,Ex.size_eq] using hgs
   have hfo':∀y∈st,y.formed=true/\y.OK:=fun y hy=>lz.out y F0;have qU:x.name.size<=maxLen:=by cases x;simp only [Ex.OK] at jz;exact jz.2.2.1
   have hstl:=Ex.len_sizeL st;have sd:Ex.OKL x.sub:=by cases x;simp only [Ex.OK] at jz;exact jz.2.2.2
   have pM:st.length<=dc:=Ua;have hdc0:¬dc=0:=Ua;unfold maxLen at gN;obtain⟨ls,hl,kq,ae⟩:=hst';have HFO:=Nf hfo';have od:=Nf kq;have wJ:=Nf hl;clear aa tX lz cP hfo' hgs kq hl
   by_cases h0:0<(f x.name).getD 0
   ·rw [show onM f x.name=true by unfold onM;simpa using h0,Bool.true_or,Bool.or_true] at hr;have HR:=Nf hr;clear hr
    go_wp2_with (first|(at_lookup;go_loud (refine Qb rfl (.tmp 29) (.tmp 31) 179 rfl Tryz.underlying9 Tryz.underlying179 Tryz.underlying3 (Kj _) B n f x.name rfl (ej.bel Jb) rfl qU ?_)))
    (try rw [Exit.noGoto_ret])
    exact Udg
   ·rw [show onM f x.name=false by unfold onM;simpa using h0,Bool.false_or] at hr
    by_cases hk:x.kind=7
    ·have ai:=Je8 gW hk
     obtain⟨y,z,qZ⟩:∃y z,x.sub = [y,z]:=by
      match h:x.sub,ai with
      | [y,z],_=>exact⟨y,z,rfl⟩
     rw [if_pos hk,qZ] at hr;have rU:y.formed=true:=Q9 gW y (by rw [qZ];simp);have hyok:y.OK:=Ex.OKL_mem sd y (by rw [qZ];simp);have hysz:y.size<=Ex.sizeL x.sub:=by rw [qZ];simp [Ex.sizeL]
     obtain⟨b2,o2,A2,cap2,rfl,e0,e1,e2,e3,oN⟩:=dT.get (by rw [qZ];rfl:x.sub[0]?=some y);rw [Nat.zero_mul,Nat.add_zero] at e0 e1 e2 e3;have e0':=Ja ab e0;have e1':=Ja ab e1;have e2':=Ja ab e2;have e3':=Ja ab e3;have hb2w:b2<wr.heap.size:=Nu e0';have tk:(x.kind == 7)=true:=Vw;have eb:0<x.sub.length:=Ua;have HR:=Nf hr;have HY:=Nf qZ;clear hr hk qZ ai e0 e1 e2 e3
     go_wp2_with (first|(at_lookup;go_loud (refine Qb rfl (.tmp 29) (.tmp 31) 179 rfl Tryz.underlying9 Tryz.underlying179 Tryz.underlying3 (Kj _) B n f x.name rfl (ej.bel Jb) rfl qU ?_))|(at_builtin;go_loud (refine K6 rfl (.tmp 38) (.tmp 43) 49 rfl w.heap.size 51 _ 4 56 Tryz.underlying49 Jon rfl Ua (.slice (some ⟨b,0,none⟩) st.length dc) st.length (Ya st ls) _ 1 1 (exC y (A2,cap2)) rfl (Js (Js ae)) rfl ⟨rfl,fun _=>⟨_,_,rfl,fun j u hj=>by rw [Nat.zero_add];exact(Qo Ul).trans Gk⟩⟩ (by simp [exC,Value.oneCell']) Ua Ua Uj ?_;intro v9 w9 dL nh;have hz9:=nh.size;obtain⟨A9,c9,rfl,it,iu⟩:=Jv dL)))
     go_roundg (gk-1)
     case measure=>omega
     case rel=>
      refine⟨st ++ [y],st.length+1,A9,c9,Bb,rfl,Nf Ul,?_,Ua,?_,?_,?_,Jb⟩
      ·rw [Ex.sizeL_app];simp only [Ex.sizeL];exact Ua
      ·refine Nf ?_;rw [Ex.reachL_app,<-HR.out];simp [Ex.reachL,Ex.reachF]
      ·refine Nf fun u hu=>?_
       rcases List.mem_append.1 hu with h1|h1
       ·exact HFO.out u h1
       ·obtain rfl:u=y:=Lw;exact⟨rU,hyok⟩
      ·refine Nf (Jca.push (sub:=[y]) (ms:=[(A2,cap2)]) wJ.out od.out rfl (fun j u a hu ha=>?_) (by simpa [Ya] using dL))
       match j with
       | 0=>
         obtain rfl:y=u:=by simpa using hu
         obtain rfl:(A2,cap2)=a:=by simpa using ha
         exact oN
       | j+1=>simp at hu
    ·rw [if_neg hk] at hr;have tk:(x.kind == 7)=false:=Vw;obtain⟨ms,iw,cI,kV⟩:=dT.lies;have HR:=Nf hr;have uO:=Nf iw;have HM3:=Nf kV;have kj:=Nf cI;have lB:=Ex.len_sizeL x.sub;clear hr hk iw cI kV
     go_wp2_with (first|(at_lookup;go_loud (refine Qb rfl (.tmp 29) (.tmp 31) 179 rfl Tryz.underlying9 Tryz.underlying179 Tryz.underlying3 (Kj _) B n f x.name rfl (ej.bel Jb) rfl qU ?_))|(at_builtin;go_loud (refine K6 rfl (.tmp 24) (.tmp 26) 49 rfl w.heap.size 51 _ 4 56 Tryz.underlying49 Jon rfl Ua (.slice (some ⟨b,0,none⟩) st.length dc) st.length (Ya st ls) A' x.sub.length cap' (Ya x.sub ms) rfl (Js ae) rfl (kj.out.moved Jb) (Jox _ _) Ua Ua Uj ?_;intro v9 w9 dL nh;have hz9:=nh.size;obtain⟨A9,c9,rfl,it,iu⟩:=Jv dL)))
     go_roundg (gk-1)
     case measure=>omega
     case rel=>
      refine⟨st ++ x.sub,st.length+x.sub.length,A9,c9,Bb,rfl,Nf Ul,?_,Ua,?_,?_,?_,Jb⟩
      ·rw [Ex.sizeL_app];exact Ua
      ·refine Nf ?_;rw [Ex.reachL_app,<-HR.out]
      ·refine Nf fun u hu=>?_
       rcases List.mem_append.1 hu with h1|h1
       ·exact HFO.out u h1
       ·exact⟨Q9 gW u h1,Ex.OKL_mem sd u h1⟩
      ·exact Nf (Jca.push wJ.out od.out uO.out HM3.out dL)
theorem Jr6 (p:Pr) (a:PrA) (w:World) (hg:Ql w) (hp:Kr w p a) (aw:Q4 p) (n1:p.ins.length<=1000000) (n2:p.outs.length<=1000000) (n3:p.locals.length<=1000000) (n4:p.eqs.length<=1000000) (aS:(J1 p).2≠(0,0,0)) :
  Calls Tryz.prog 107 #[prV p a] w fun r w'=>r = .returned (.tuple #[.map none,fV (J1 p).2])/\Below w.heap.size w w':=by
 have dY:=fun W h=>Jfr p a W (hg.later h) (hp.later h) aw n1 n2 n3 n4;clear hg aw;obtain⟨A1,c1,A2,c2,A3,c3,A4,c4⟩:=a;unfold prV fV at *;dsimp only at *;generalize J1 p=O at *;obtain⟨l,f1,f2,f3⟩:=O;dsimp only at *
 have mA:(f1 == 0 && f2 == 0 && f3 == 0)=false:=by
  exact Ucl
 have dp:∀w,(Op.equalIn 10000 34 (.agg #[.int .i64 f1,.int .i64 f2,.int .i64 f3]) (.agg #[.int .i64 0,.int .i64 0,.int .i64 0])).run Tryz.prog w = .ok false w:=fun w=>by rw [Zr,mA]
 have fM:Tryz.prog.eqGuardType Tryz.prog.depth 34=false:=Ug;clear aS mA hp
 go_enter Tryz.func107,Tryz.ntmps107
 go_wp2_with (first|(go_at_call 24;go_loud (refine(dY _ Jb).mono ?_;rintro r wo ⟨⟨vo,rfl,ay⟩,cW⟩;obtain⟨Ao,co,rfl,ln,jm⟩:=Jv ay;have jY:=Jg cW;have lz:=Jf cW;have jB:w.heap.size+2<=wo.heap.size:=Ln;have nY:=lt0 w wo;have jA:=ltA w 1 wo;clear ay)))
 go_region
 all_goals
  go_wp2_with fail
  refine Nv (v:= .tuple #[.map none,.agg #[.int .i64 f1,.int .i64 f2,.int .i64 f3]]) (by simp [results,Tryz.results107,go_sem, *]) rfl ⟨rfl,?_⟩
  (repeat refine Jh ?_)
  exact Km
theorem Jfo {p:Pr} (aN:Qg p=(0,0,0)) (aw:Q4 p):∀q∈p.eqs,q.name.size<=maxLen/\q.name.toList.isEmpty=false/\q.e.formed=true/\q.e.OK/\q.e.size<=1000000:=fun q hq=>by
 have hb:=(X4 (Xp (Xk aN).1).1).2.2.2.2 q hq;obtain⟨h1,h2,h3,_⟩:=Jaq hb;simp only [eqB,Bool.and_eq_true] at hb;exact⟨U2,Jbx hb.1.1,h2,(aw.eqs q hq).2.2.2,Ua⟩
theorem Jti (p:Pr) (a:PrA) (w:World) (hg:Ql w) (hp:Kr w p a) (aw:Q4 p) (n1:p.ins.length<=1000000) (n2:p.outs.length<=1000000) (n3:p.locals.length<=1000000) (n4:p.eqs.length<=1000000) (jM:(J1 p).2=(0,0,0)) :
  Calls Tryz.prog 107 #[prV p a] w fun r w'=>(∃(B n:Nat) (f:ByteArray->Option Int),r = .returned (.tuple #[.map (some B),fV (0,0,0)])/\w.heap.size<=B/\Jz Tryz.prog 9 3 w' B n f/\Jc7 f (Qs p).1)/\Below w.heap.size w w':=by
 obtain⟨LF,nl⟩:∃L,L=(Qs p).1:=⟨_,rfl⟩;have hL:LF=Xj p.eqs (Jbj p.eqs) (J1 p).1:=by rw [nl];unfold Qs;rw [if_pos jM]
 rw [<-nl];obtain⟨aN,ai,fm⟩:=Yg jM;have dn:=Jfo aN aw;have dY:=fun W h=>Jfr p a W (hg.later h) (hp.later h) aw n1 n2 n3 n4;obtain⟨l,hl⟩:∃l,J1 p=(l,(0,0,0)):=⟨(J1 p).1,by rw [<-jM]⟩;rw [hl] at dY hL fm ai;dsimp only at dY hL fm ai;have HL:=Nf hL;have HG:=Nf fm;have jR:=Nf dn;clear nl hL jM aN dn fm hl hg aw;have dp:∀w,(Op.equalIn 10000 34 (.agg #[.int .i64 0,.int .i64 0,.int .i64 0]) (.agg #[.int .i64 0,.int .i64 0,.int .i64 0])).run Tryz.prog w = .ok true w:=fun w=>So;have fM:Tryz.prog.eqGuardType Tryz.prog.depth 34=false:=Ug;have gI:=@run_makeMap Tryz.prog;have bT:=hp.eqs;have cG:=hp.eqs.len;obtain⟨A1,c1,A2,c2,A3,c3,A4,c4⟩:=a;unfold maxLen at cG;unfold prV fV at *;dsimp only at *;obtain⟨fT,fU⟩:=cG;clear hp
 go_enter Tryz.func107,Tryz.ntmps107
 go_wp2_with (first|(go_at_call 24;go_loud (refine(dY _ Jb).mono ?_;rintro r wo ⟨⟨vo,rfl,ay⟩,cW⟩;obtain⟨Ao,co,rfl,ln,jm⟩:=Jv ay;have lr:=Yq.of_own ay;have jY:=Jg cW;have lz:=Jf cW;have jB:w.heap.size+2<=wo.heap.size:=Ln;have nY:=lt0 w wo;have jA:=ltA w 1 wo;clear ay)))
 refine Jo fun W0 ag=>?_;have ax:=Nd w W0 Vl;have hmb1:w.heap.size+1<wo.heap.size+1:=Ua;have hmb0:w.heap.size<wo.heap.size+1:=Ua;have hmb3:wo.heap.size<wo.heap.size+1:=Ua;have hmb2:wo.heap.size+1<W0.heap.size:=La
 have eU:Jz Tryz.prog 9 3 W0 (wo.heap.size+1) 0 (fun _=>none):=by
  rw [ag];have h1:=Jz.made (P:=Tryz.prog) (k:=9) (e:=3) (wo.alloc (.cells #[.int .i64 0,.int .i64 0,.int .i64 0] 34));exact Lw
 have rY:=Nd wo W0 Vl;have x4:=Nb W0 w.heap.size 4 (.slice A4 p.eqs.length c4) Uc;have f0:=Na W0 (w.heap.size+1) 0 0 Uc;have f1:=Na W0 (w.heap.size+1) 1 0 Uc;have f2:=Na W0 (w.heap.size+1) 2 0 Uc;have v0:=Na W0 wo.heap.size 0 0 Uc;have v1:=Na W0 wo.heap.size 1 0 Uc;have v2:=Na W0 wo.heap.size 2 0 Uc;have z0:=Nc W0 (w.heap.size+1) 0 Uc;have z1:=Nc W0 (w.heap.size+1) 1 Uc;have z2:=Nc W0 (w.heap.size+1) 2 Uc;have bI:=lr.1;unfold maxLen at jm;clear ag jY lz jB nY jA dY gI dp fM cW
 go_loopw [24] (fun i wr=>∃(k n:Nat) (f:ByteArray->Option Int),k<=p.eqs.length/\i = .int .i64 k/\n<=k/\Hid (Jz Tryz.prog 9 3 wr (wo.heap.size+1) n f)/\Hid (Jc7 f (Jbj (p.eqs.take k)))/\Hid (W0.grownBy wr (some (wo.heap.size+1)))) (fun i _=>p.eqs.length-(intOf i).toNat)
 case atStart=>exact⟨0,0,_,Np,rfl,Ns _,Nf eU,Nf Juq,Nf ⟨rfl,rfl,rfl,Ns _,fun _ _ _=>rfl⟩⟩
 case round=>
  obtain⟨k,n,f,hk,rfl,hn,hm,kz,bB⟩:=hrel;have eC:=bB.out.size;have dh:=Nd w wr (J2 ax bB.out (fun b hb=>U1) Ua);have iQ:Below (wo.heap.size+1) W0 wr:=J2 (Below.refl _ W0) bB.out (fun b hb=>U1) Ua;have fG:=Jdu iQ;have wZ:=Jfi iQ;have ej:=hm.out;have dW:=hm.out.lt;have qn:=lt0 w wr
  by_cases am:k<p.eqs.length
  ·obtain⟨q,hx,-,hd⟩:=Kl am;obtain⟨b,off,B1,n1,B2,n2,rfl,aH,⟨g0,g1,g2,g3,g4,g5,g6,g7,g8,g9,s1,s2⟩⟩:=(bT.later dh).get hx;have jk:=Jlf p.eqs hx;obtain⟨dn,gX,_⟩:=jR.out q (Ni hx);clear hd hx
   cases ek:(q.delay == 2)
   ·rw [ek,if_neg Ul] at jk;have HA:=Nf (by rw [jk];exact kz.out:Jc7 f (Jbj (p.eqs.take (k+1))));clear jk gX
    go_wp2_with fail
    go_roundw
    case rel=>exact⟨k+1,n,f,Ua,Up,Ua,Nf (ej.keep1 (heap_alloc_old _ _ dW)),HA,Nf (Qn bB.out (World.grownBy_alloc wr _ _))⟩
    case measure=>simp [intOf];try omega
   ·rw [ek,if_pos rfl] at jk;have HA:=Nf (by rw [jk];exact Jlu kz.out gX:Jc7 (upd f q.name 1) (Jbj (p.eqs.take (k+1))));clear jk gX
    go_wp2_with (first|(at_mapUpdate;go_loud (refine Jau rfl (.tmp 31) (.tmp 33) _ 179 rfl Tryz.underlying9 Tryz.underlying179 Tryz.underlying3 (wo.heap.size+1) n f q.name 1 rfl (ej.keep1 (heap_alloc_old _ _ dW)) Ua rfl rfl dn Ua ?_;intro w2 cI aG;have kj:=Nf cI;have kr:=Nf aG;clear cI aG)))
    go_roundw
    case rel=>exact⟨k+1,n+1,_,Ua,Up,Ua,kj,HA,Nf (Qn bB.out (Qn (World.grownBy_alloc wr _ _) kr.out))⟩
    case measure=>simp [intOf];try omega
  ·obtain rfl:k=p.eqs.length:=Ua;have vX:=kz.out;rw [List.take_length] at vX;have HAG:=Nf vX;clear kz vX
   go_wp2_with fail
   clear fG wZ ej dW qn dh iQ
   go_loopw [37] (fun i wr=>∃(k n:Nat) (f:ByteArray->Option Int) (out:List ByteArray),k<=l.length/\i = .int .i64 k/\n<=p.eqs.length+k/\Hid (Jz Tryz.prog 9 3 wr (wo.heap.size+1) n f)/\Hid (Jc7 f out)/\Hid (Xj p.eqs out (l.drop k)=LF)/\Hid (W0.grownBy wr (some (wo.heap.size+1)))) (fun i _=>l.length-(intOf i).toNat)
   case atStart=>exact⟨0,n,f,Jbj p.eqs,Np,rfl,Ua,hm,HAG,Nf (by rw [List.drop_zero];exact HL.out.symm),bB⟩
   case round=>
    clear HAG hm bB eC;obtain⟨k,n,f,out,hk,rfl,hn,hm,kz,aa,bB⟩:=hrel;have eC:=bB.out.size;have dh:=Nd w wr (J2 ax bB.out (fun b hb=>U1) Ua);have iQ:Below (wo.heap.size+1) W0 wr:=J2 (Below.refl _ W0) bB.out (fun b hb=>U1) Ua;have fG:=Jdu iQ;have wZ:=Jfi iQ;have ej:=hm.out;have dW:=hm.out.lt;have qn:=lt0 w wr;have hiw:=Nd wo wr (J2 rY bB.out (fun b hb=>U1) Ua)
    by_cases am:k<l.length
    ·have hx:l[k]?=some l[k]:=Ng am;have hd:l.drop k=l[k] :: l.drop (k+1):=No am;generalize l[k]=j at hx hd;obtain⟨m,q,rfl,hq⟩:=HG.out k j hx;have yp:m<p.eqs.length:=(Nh hq).1;obtain⟨bi,oi,rfl,pU,di⟩:=(lr.later hiw).get hx;obtain⟨b,off,B1,m1,B2,m2,rfl,aH,⟨g0,g1,g2,g3,g4,g5,g6,g7,g8,g9,s1,s2⟩⟩:=(bT.later dh).get hq;obtain⟨dn,gX,cM,gV,ju⟩:=jR.out q (Ni hq);have hr:=aa.out;rw [hd,Xj,Int.toNat_natCast,hq] at hr;dsimp only at hr;rw [<-kz.out.reach] at hr;have hZ:=fun W h=>Jgc q.e B2 m2 (wo.heap.size+1) n f W (s2.later h) cM gV ju (ej.bel h);unfold exV at hZ;clear hd hx hq aa cM gV ju s1 g1 g2 g3 g4 g5
     cases eY:q.e.reach (onM f)
     ·rw [eY,if_neg Ul] at hr;have lv:=Nf eY;have HR:=Nf hr;clear eY hr gX
      go_wp2_with (first|(go_at_call 108;go_loud (refine(hZ _ Jb).mono ?_;rw [lv.out];rintro r w1 ⟨rfl,ac⟩;have ak:=Jg ac;have af:=ac.size;have bV:=lt0 w w1)))
      go_roundw
      case rel=>exact⟨k+1,n,f,out,Ua,Up,Ua,Nf (ej.bel ac),kz,HR,Nf (Qn bB.out (Jat ac))⟩
      case measure=>simp [intOf];try omega
     ·rw [eY,if_pos rfl] at hr;have lv:=Nf eY;have HR:=Nf hr;have HA:=Nf (Jlu kz.out gX);clear eY hr gX
      go_wp2_with (first|(go_at_call 108;go_loud (refine(hZ _ Jb).mono ?_;rw [lv.out];rintro r w1 ⟨rfl,ac⟩;have ak:=Jg ac;have af:=ac.size;have bV:=lt0 w w1))|(at_mapUpdate;go_loud (refine Jau rfl (.tmp 49) (.tmp 55) _ 179 rfl Tryz.underlying9 Tryz.underlying179 Tryz.underlying3 (wo.heap.size+1) n f q.name 1 rfl (ej.bel ac) Ua rfl rfl dn Ua ?_;intro w2 cI aG;have kj:=Nf cI;have kr:=Nf aG;clear cI aG)))
      go_roundw
      case rel=>exact⟨k+1,n+1,_,out ++ [q.name],Ua,Up,Ua,kj,HA,HR,Nf (Qn bB.out (Qn (Jat ac) kr.out))⟩
      case measure=>simp [intOf];try omega
    ·obtain rfl:k=l.length:=Ua;have hr:=aa.out;rw [Nn,Xj] at hr;have HR:=Nf hr;clear hr aa
     go_wp2_with fail
     go_region
     all_goals
      go_wp2_with fail
      refine Nv (v:= .tuple #[.map (some (wo.heap.size+1)),.agg #[.int .i64 0,.int .i64 0,.int .i64 0]]) (by simp [results,Tryz.results107,go_sem, *]) rfl ⟨⟨wo.heap.size+1,n,f,rfl,Ua,?_,by rw [<-HR.out];exact kz.out⟩,?_⟩
      ·refine ej.keep1 ?_
       (repeat first|rfl|refine(heap_setCell_other _ _ _ _ (by show wo.heap.size+1≠w.heap.size+1;omega)).trans ?_)
      ·(repeat refine Jh ?_)
       exact Km
end Go.Proofs.YtknfcamdfdfoeaaGreatDoor
