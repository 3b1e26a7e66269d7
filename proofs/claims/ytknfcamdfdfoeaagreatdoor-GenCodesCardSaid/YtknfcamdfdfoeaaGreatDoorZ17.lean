/- Lemmas. -/
import Derived.Test.YtknfcamdfdfoeaaGreatDoorMac
import Derived.Test.YtknfcamdfdfoeaaGreatDoorZ16
set_option linter.unusedVariables false
set_option linter.unusedSimpArgs false
set_option maxRecDepth 100000
set_option maxHeartbeats 64000000
namespace Go.Proofs.YtknfcamdfdfoeaaGreatDoor
open Go.RowKit
namespace Ex
mutual
def reach (g:ByteArray->Bool):Ex->Bool
 | mk k _ s sub=>g s || (if k=7 then reachF g sub else reachL g sub)
def reachF (g:ByteArray->Bool):List Ex->Bool
 | []=>false
 | x :: _=>reach g x
def reachL (g:ByteArray->Bool):List Ex->Bool
 | []=>false
 | x :: r=>reach g x || reachL g r
end
theorem reach_eq (g:ByteArray->Bool) (e:Ex):e.reach g=(g e.name || (if e.kind=7 then reachF g e.sub else reachL g e.sub)):=by cases e;rw [reach];rfl
theorem reachL_app (g:ByteArray->Bool):∀(a b:List Ex),reachL g (a ++ b)=(reachL g a || reachL g b)
 | [],b=>by simp [reachL]
 | x :: a,b=>by rw [List.cons_append,reachL,reachL,reachL_app g a b,Bool.or_assoc]
theorem sizeL_app:∀(a b:List Ex),sizeL (a ++ b)=sizeL a+sizeL b
 | [],b=>by simp [sizeL]
 | x :: a,b=>by rw [List.cons_append,sizeL,sizeL,sizeL_app a b];omega
theorem size_pos (e:Ex):0<e.size:=by rw [size_eq];omega
theorem len_sizeL:∀l:List Ex,l.length<=sizeL l
 | []=>Ul
 | x :: l=>by have:=len_sizeL l;have:=x.size_pos;rw [sizeL,List.length_cons];omega
end Ex
def onM (f:ByteArray->Option Int) (s:ByteArray):Bool:=decide (0<(f s).getD 0)
def inL (l:List ByteArray) (s:ByteArray):Bool:=!s.toList.isEmpty && Ka l s
def Jc7 (f:ByteArray->Option Int) (l:List ByteArray):Prop:=∀s,onM f s=inL l s
theorem Juq:Jc7 (fun _=>none) []:=fun s=>by unfold onM inL Ka;simp
theorem Jlu {f:ByteArray->Option Int} {l:List ByteArray} {n:ByteArray} (h:Jc7 f l) (hn:n.toList.isEmpty=false):Jc7 (upd f n 1) (l ++ [n]):=fun s=>by
 have hs:=h s;unfold onM inL at hs ⊢;rw [Jcx,Jgw];unfold upd
 by_cases hd:s.data=n.data
 ·have fE:s=n:=by ext1;exact hd
  rw [if_pos hd,fE,hn];exact Ul
 ·exact Uce
theorem Jc7.reach {f:ByteArray->Option Int} {l:List ByteArray} (h:Jc7 f l) (e:Ex):e.reach (onM f)=e.reach (inL l):=by rw [show onM f=inL l from funext h]
def Jbj (l:List Qe):List ByteArray:=(l.filter (fun q=>q.delay == 2)).map (·.name)
theorem Jlf (l:List Qe) {k:Nat} {q:Qe} (h:l[k]?=some q):Jbj (l.take (k+1))=if (q.delay == 2)=true then Jbj (l.take k) ++ [q.name] else Jbj (l.take k):=by
 rw [List.take_add_one,h];unfold Jbj;show((l.take k ++ [q]).filter _).map _=_;rw [List.filter_append]
 cases hd:q.delay == 2 <;> simp [hd]
def Xj (eqs:List Qe):List ByteArray->List Int->List ByteArray
 | out,[]=>out
 | out,j :: r=>Xj eqs (match eqs[j.toNat]? with|some q=>if q.e.reach (inL out)=true then out ++ [q.name] else out|none=>out) r
def Qs (p:Pr):List ByteArray×(Int×Int×Int):=if (J1 p).2=(0,0,0) then(Xj p.eqs (Jbj p.eqs) (J1 p).1,(0,0,0)) else([],(J1 p).2)
theorem Yg {p:Pr} (h:(J1 p).2=(0,0,0)):Qg p=(0,0,0)/\(J1 p).1.length<=p.eqs.length/\∀(i:Nat) (j:Int),(J1 p).1[i]?=some j->∃(m:Nat) (q:Qe),j=m/\p.eqs[m]?=some q:=by
 unfold J1 at h ⊢
 by_cases aN:Qg p=(0,0,0)
 ·rw [if_pos aN] at h ⊢;refine⟨aN,?_⟩
  rcases Jiu (Xk aN).1 with ⟨res,h1,h2,h3⟩|⟨out,m,q,h1,_⟩
  ·rw [h1];refine⟨by have:=Jvy p.eqs;show res.length<=_;omega,fun i j hi=>?_⟩;obtain⟨h0,q,hq,_⟩:=h3 i j hi;exact⟨j.toNat,q,Ua,hq⟩
  ·rw [h1] at h;exact absurd h Ul
 ·rw [if_neg aN] at h;exact absurd h aN
namespace Ex
mutual
def torn (g:ByteArray->Bool):Ex->Bool
 | mk k n s sub=>(decide (k=10) && reach g (mk k n s sub)) || tornL g sub
def tornL (g:ByteArray->Bool):List Ex->Bool
 | []=>false
 | x :: r=>torn g x || tornL g r
end
theorem torn_eq (g:ByteArray->Bool) (e:Ex):e.torn g=((decide (e.kind=10) && e.reach g) || tornL g e.sub):=by cases e;rw [torn];rfl
end Ex
def Jdp (t c l d r o s:Bool):Bool:=t || (c && l) || (d && r) || (o && s)
def Jen (p:Pr) (LF:List ByteArray) (q:Qe):Bool:=
 Jdp (q.e.torn (inL LF)) ((J9 (Je p) q.name).1 != 0) (inL LF (J9 (Je p) q.name).2) (q.delay != 0) (q.e.reach (inL LF)) (Ka (p.outs.map (·.name)) q.name) (inL LF q.name)
def Zg (h:Qe->Bool):Nat->List Qe->Int×Int×Int
 | _,[]=>(0,0,0)
 | k,q :: r=>if h q=true then(3,(k:Int),23) else Zg h (k+1) r
def Ks (p:Pr):Int×Int×Int:=if (J1 p).2=(0,0,0) then Zg (Jen p (Qs p).1) 0 p.eqs else(J1 p).2
theorem Jud (t c l d r o s:Bool) :
  (t=true/\(d=true\/d=false)/\(o=true\/o=false)/\Jdp t c l d r o s=true)\/
  (t=false/\c=true/\l=true/\(d=true\/d=false)/\(o=true\/o=false)/\Jdp t c l d r o s=true)\/
  (t=false/\((c=true/\l=false)\/c=false)/\d=true/\r=true/\(o=true\/o=false)/\Jdp t c l d r o s=true)\/
  (t=false/\((c=true/\l=false)\/c=false)/\((d=true/\r=false)\/d=false)/\o=true/\s=true/\Jdp t c l d r o s=true)\/
  (t=false/\((c=true/\l=false)\/c=false)/\((d=true/\r=false)\/d=false)/\((o=true/\s=false)\/o=false)/\Jdp t c l d r o s=false):=by
 revert t c l d r o s
 decide
theorem Jsc {f:ByteArray->Option Int} {l:List ByteArray} (h:Jc7 f l) (e:Ex):e.torn (onM f)=e.torn (inL l):=by rw [show onM f=inL l from funext h]
theorem Jsa {L:List Va} (h:∀v∈L,v.cn.size<=maxLen) (s:ByteArray):(J9 L s).2.size<=maxLen:=by
 unfold J9
 have:∀(l:List Va) (c:Int×ByteArray),(∀v∈l,v.cn.size<=maxLen)->c.2.size<=maxLen->(l.foldl (fun c v=>if s.data=v.name.data then(v.ck,v.cn) else c) c).2.size<=maxLen:=by
  intro l
  induction l with
  | nil=>exact fun c _ hc=>hc
  | cons v l ih=>
   intro c hl hc;rw [List.foldl_cons];refine ih _ (fun u hu=>hl u Sw) ?_
   split
   ·exact hl v Ul
   ·exact hc
 exact this L _ h Db
theorem Jho {eqs:List Qe} (he:∀q∈eqs,q.name.toList.isEmpty=false):∀(l:List Int) (out:List ByteArray),(∀s∈out,s.toList.isEmpty=false)->∀s∈Xj eqs out l,s.toList.isEmpty=false
 | [],out,ho,s,hs=>ho s hs
 | j :: r,out,ho,s,hs=>by
  rw [Xj] at hs;refine Jho he r _ ?_ s hs
  cases hq:eqs[j.toNat]? with
  | none=>exact ho
  | some q=>
   dsimp only
   split
   ·intro x hx
    rcases List.mem_append.1 hx with h1|h1
    ·exact ho x h1
    ·obtain rfl:x=q.name:=Lw;exact he q (List.mem_of_getElem? hq)
   ·exact ho
theorem Jm6 {p:Pr} (h:Qw p=true):∀q∈p.eqs,q.name.toList.isEmpty=false:=fun q hq=>by
 have hb:=(X4 h).2.2.2.2 q hq;simp only [eqB,Bool.and_eq_true] at hb;exact Jbx hb.1.1
theorem Jj2 {p:Pr} (hO:(J1 p).2=(0,0,0)):∀s∈(Qs p).1,s.toList.isEmpty=false:=by
 have jn:=(Xp (Xk (Yg hO).1).1).1;unfold Qs;rw [if_pos hO];refine Jho (Jm6 jn) _ _ fun s hs=>?_;unfold Jbj at hs;rw [List.mem_map] at hs;obtain⟨q,hq,rfl⟩:=hs;exact Jm6 jn q (List.mem_filter.1 hq).1
theorem Jl2 {LF:List ByteArray} (h:∀s∈LF,s.toList.isEmpty=false) (s:ByteArray):inL LF s=Ka LF s:=by
 unfold inL
 cases hs:s.toList.isEmpty
 ·exact Ul
 ·have:Ka LF s=false:=Jb5.2 fun hm=>by rw [h s hm] at hs;cases hs
  rw [this];rfl
def Jgv (t h d r o s:Bool):Bool:=t || h || (d && r) || (o && s)
theorem Jsm (t h d r o s:Bool) :
  (t=true/\Jgv t h d r o s=true)\/(t=false/\h=true/\Jgv t h d r o s=true)\/(t=false/\h=false/\d=true/\r=true/\Jgv t h d r o s=true)\/
  (t=false/\h=false/\((d=true/\r=false)\/d=false)/\o=true/\s=true/\Jgv t h d r o s=true)\/
  (t=false/\h=false/\((d=true/\r=false)\/d=false)/\((o=true/\s=false)\/o=false)/\Jgv t h d r o s=false):=by
 revert t h d r o s
 decide
theorem Jwl {p:Pr} (hO:(J1 p).2=(0,0,0)) {q:Qe} (hq:q∈p.eqs):∃(j:Nat) (v:Va),Jp (Je p) q.name=(j:Int)/\(Je p)[j]?=some v/\
  Jen p (Qs p).1 q=Jgv (q.e.torn (inL (Qs p).1)) (Ka (Qs p).1 v.cn) (q.delay != 0) (q.e.reach (inL (Qs p).1)) (decide ((j:Int)<(p.ins.length:Int)+(p.outs.length:Int))) (Ka (Qs p).1 q.name):=by
 have aN:=(Yg hO).1;have hc:=(Xk aN).1;have gG:=(Xp hc).2.1;have nl:=Jj2 hO;obtain⟨v,hm,hf,hn,bO,nk⟩:=Ja3 aN hq
 rcases Y5 (Je p) q.name with ⟨_,eB⟩|⟨j,u,cL,hx,eB⟩
 ·rw [hf] at eB;cases eB
 ·rw [hf] at eB;obtain rfl:v=u:=by injection eB
  refine⟨j,v,cL,hx,?_⟩;unfold Jen Jdp Jgv;rw [bO,Jl2 nl,Jl2 nl];dsimp only
  have h1:(v.ck != 0 && Ka (Qs p).1 v.cn)=Ka (Qs p).1 v.cn:=by
   rcases nk with ⟨h0,he⟩|⟨h0,_,_⟩
   ·have:Ka (Qs p).1 v.cn=false:=Jb5.2 fun hm=>by rw [nl _ hm] at he;cases he
    rw [this,Bool.and_false]
   ·have:(v.ck != 0)=true:=by simpa using h0
    rw [this,Bool.true_and]
  have h2:Ka (p.outs.map (·.name)) q.name=decide ((j:Int)<(p.ins.length:Int)+(p.outs.length:Int)):=by
   rw [Bool.eq_iff_iff,Jbk,decide_eq_true_eq,List.mem_map]
   constructor
   ·rintro⟨u,hu,hun2⟩;obtain⟨i,hi⟩:=List.getElem?_of_mem hu;have kC:=(List.getElem?_eq_some_iff.1 hi).1
    have dR:(Je p)[p.ins.length+i]?=some u:=by
     unfold Je;rw [List.append_assoc,List.getElem?_append_right Ua,show p.ins.length+i-p.ins.length=i from by omega,List.getElem?_append_left kC];exact hi
    have:=gG _ _ _ _ dR hx (by rw [hun2,hn]);exact Ua
   ·intro am;have hni:=(Jbe hc).2.1 q hq;unfold Je at hx
    rcases Nat.lt_or_ge j p.ins.length with hj|hj
    ·rw [List.append_assoc,List.getElem?_append_left hj] at hx;exact absurd (List.mem_map.2 ⟨v,List.mem_of_getElem? hx,hn⟩) hni
    ·rw [List.append_assoc,List.getElem?_append_right hj,List.getElem?_append_left Ua] at hx;exact⟨v,List.mem_of_getElem? hx,hn⟩
  rw [h1,h2]
theorem Jhp {eqs:List Qe} : ∀(l:List Int) (out:List ByteArray),∀s∈out,s∈Xj eqs out l
 | [],out,s,hs=>hs
 | j :: r,out,s,hs=>by
  rw [Xj];refine Jhp r _ s ?_
  cases eqs[j.toNat]? with
  | none=>exact hs
  | some q=>
   dsimp only
   split
   ·exact List.mem_append.2 (.inl hs)
   ·exact hs
theorem Jc5 {eqs:List Qe} : ∀(l:List Int) (out:List ByteArray),∀s∈Xj eqs out l,s∈out\/∃(j:Int) (q:Qe) (o:List ByteArray),j∈l/\eqs[j.toNat]?=some q/\q.name=s/\q.e.reach (inL o)=true/\∀x∈o,x∈Xj eqs out l
 | [],out,s,hs=> .inl hs
 | j :: r,out,s,hs=>by
  rw [Xj] at hs
  cases hq:eqs[j.toNat]? with
  | none=>
   rw [hq] at hs
   rcases Jc5 r _ s hs with h|⟨j',q,o,h1,h2,h3,h4,h5⟩
   ·exact .inl h
   ·refine .inr ⟨j',q,o,by simp [h1],h2,h3,h4,?_⟩;rw [Xj,hq];exact h5
  | some q=>
   rw [hq] at hs;dsimp only at hs
   by_cases hr:q.e.reach (inL out)=true
   ·rw [if_pos hr] at hs
    rcases Jc5 r _ s hs with h|⟨j',q',o,h1,h2,h3,h4,h5⟩
    ·rcases List.mem_append.1 h with h|h
     ·exact .inl h
     ·have dw:s=q.name:=Ve;refine .inr ⟨j,q,out,Ul,hq,dw.symm,hr,fun x hx=>?_⟩;exact Jhp (j :: r) out x hx
    ·refine .inr ⟨j',q',o,by simp [h1],h2,h3,h4,?_⟩;rw [Xj,hq];dsimp only;rw [if_pos hr];exact h5
   ·rw [if_neg hr] at hs
    rcases Jc5 r _ s hs with h|⟨j',q',o,h1,h2,h3,h4,h5⟩
    ·exact .inl h
    ·refine .inr ⟨j',q',o,by simp [h1],h2,h3,h4,?_⟩;rw [Xj,hq];dsimp only;rw [if_neg hr];exact h5
namespace Ex
end Ex
theorem Jnt {p:Pr} (hO:(J1 p).2=(0,0,0)) {v:Va} (hv:v∈p.ins):inL (Qs p).1 v.name=false:=by
 have hc:=(Xk (Yg hO).1).1;have nl:=Jj2 hO;obtain⟨_,dV,_⟩:=Jbe hc;rw [Jl2 nl];refine Jb5.2 fun hm=>?_;have hE:(Qs p).1=Xj p.eqs (Jbj p.eqs) (J1 p).1:=by unfold Qs;rw [if_pos hO]
 rw [hE] at hm
 rcases Jc5 _ _ _ hm with h1|⟨j,x,o,h1,h2,h3,_⟩
 ·unfold Jbj at h1;rw [List.mem_map] at h1;obtain⟨x,hx,hn⟩:=h1;exact dV x (List.mem_filter.1 hx).1 (List.mem_map.2 ⟨v,hv,hn.symm⟩)
 ·exact dV x (List.mem_of_getElem? h2) (List.mem_map.2 ⟨v,hv,h3.symm⟩)
end Go.Proofs.YtknfcamdfdfoeaaGreatDoor
