/- Lemmas. -/
import Derived.Test.YtknfcamdfdfoeaaGreatDoorMac
import Derived.Test.YtknfcamdfdfoeaaGreatDoorZ13
import Derived.Test.YtknfcamdfdfoeaaGreatDoorZ14
set_option linter.unusedVariables false
set_option linter.unusedSimpArgs false
set_option maxRecDepth 100000
set_option maxHeartbeats 64000000
namespace Go.Proofs.YtknfcamdfdfoeaaGreatDoor
open Go.RowKit
namespace Ex
mutual
def reach (g:ByteArray->Bool):Ex->Bool
 | mk k _ s sub=>g s || (if k=7 then reachF g sub else reachL g sub)
def reachF (g:ByteArray->Bool):List Ex->Bool
 | []=>false
 | x :: _=>reach g x
def reachL (g:ByteArray->Bool):List Ex->Bool
 | []=>false
 | x :: r=>reach g x || reachL g r
end
theorem reach_eq (g:ByteArray->Bool) (e:Ex):e.reach g=(g e.name || (if e.kind=7 then reachF g e.sub else reachL g e.sub)):=by cases e;rw [reach];rfl
theorem reachL_app (g:ByteArray->Bool):∀(a b:List Ex),reachL g (a ++ b)=(reachL g a || reachL g b)
 | [],b=>by simp [reachL]
 | x :: a,b=>by rw [List.cons_append,reachL,reachL,reachL_app g a b,Bool.or_assoc]
theorem sizeL_app:∀(a b:List Ex),sizeL (a ++ b)=sizeL a+sizeL b
 | [],b=>by simp [sizeL]
 | x :: a,b=>by rw [List.cons_append,sizeL,sizeL,sizeL_app a b];omega
theorem size_pos (e:Ex):0<e.size:=by rw [size_eq];omega
theorem len_sizeL:∀l:List Ex,l.length<=sizeL l
 | []=>Ul
 | x :: l=>by have:=len_sizeL l;have:=x.size_pos;rw [sizeL,Nl];omega
end Ex
def onM (f:ByteArray->Option Int) (s:ByteArray):Bool:=decide (0<(f s).getD 0)
def inL (l:List ByteArray) (s:ByteArray):Bool:=!s.toList.isEmpty && Ka l s
def Jc7 (f:ByteArray->Option Int) (l:List ByteArray):Prop:=∀s,onM f s=inL l s
theorem Juq:Jc7 (fun _=>none) []:=fun s=>by unfold onM inL Ka;simp
theorem Jlu {f:ByteArray->Option Int} {l:List ByteArray} {n:ByteArray} (h:Jc7 f l) (hn:n.toList.isEmpty=false):Jc7 (upd f n 1) (l ++ [n]):=fun s=>by
 have hs:=h s;unfold onM inL at hs ⊢;rw [Jcx,Jgw];unfold upd
 by_cases hd:s.data=n.data
 ·have fE:s=n:=by ext1;exact hd
  rw [if_pos hd,fE,hn];exact Ul
 ·exact Uce
theorem Jc7.reach {f:ByteArray->Option Int} {l:List ByteArray} (h:Jc7 f l) (e:Ex):e.reach (onM f)=e.reach (inL l):=by rw [show onM f=inL l from funext h]
def Jbj (l:List Qe):List ByteArray:=(l.filter (fun q=>q.delay == 2)).map (·.name)
theorem Jlf (l:List Qe) {k:Nat} {q:Qe} (h:l[k]?=some q):Jbj (l.take (k+1))=if (q.delay == 2)=true then Jbj (l.take k) ++ [q.name] else Jbj (l.take k):=by
 rw [List.take_add_one,h];unfold Jbj;show((l.take k ++ [q]).filter _).map _=_;rw [List.filter_append]
 cases hd:q.delay == 2 <;> simp [hd]
def Xj (eqs:List Qe):List ByteArray->List Int->List ByteArray
 | out,[]=>out
 | out,j :: r=>Xj eqs (match eqs[j.toNat]? with|some q=>if q.e.reach (inL out)=true then out ++ [q.name] else out|none=>out) r
def Qs (p:Pr):List ByteArray×(Int×Int×Int):=if (J1 p).2=(0,0,0) then(Xj p.eqs (Jbj p.eqs) (J1 p).1,(0,0,0)) else([],(J1 p).2)
theorem Yg {p:Pr} (h:(J1 p).2=(0,0,0)):Qg p=(0,0,0)/\(J1 p).1.length<=p.eqs.length/\∀(i:Nat) (j:Int),(J1 p).1[i]?=some j->∃(m:Nat) (q:Qe),j=m/\p.eqs[m]?=some q:=by
 unfold J1 at h ⊢
 by_cases aN:Qg p=(0,0,0)
 ·rw [if_pos aN] at h ⊢;refine⟨aN,?_⟩
  rcases Jiu (Xk aN).1 with ⟨res,h1,h2,h3⟩|⟨out,m,q,h1,_⟩
  ·rw [h1];refine⟨by have:=Jvy p.eqs;show res.length<=_;omega,fun i j hi=>?_⟩;obtain⟨h0,q,hq,_⟩:=h3 i j hi;exact⟨j.toNat,q,Ua,hq⟩
  ·rw [h1] at h;exact absurd h Ul
 ·rw [if_neg aN] at h;exact absurd h aN
namespace Ex
mutual
def torn (g:ByteArray->Bool):Ex->Bool
 | mk k n s sub=>(decide (k=10) && reach g (mk k n s sub)) || tornL g sub
def tornL (g:ByteArray->Bool):List Ex->Bool
 | []=>false
 | x :: r=>torn g x || tornL g r
end
theorem torn_eq (g:ByteArray->Bool) (e:Ex):e.torn g=((decide (e.kind=10) && e.reach g) || tornL g e.sub):=by cases e;rw [torn];rfl
end Ex
def Jdp (t c l d r o s:Bool):Bool:=t || (c && l) || (d && r) || (o && s)
def Jen (p:Pr) (LF:List ByteArray) (q:Qe):Bool:=
 Jdp (q.e.torn (inL LF)) ((J9 (Je p) q.name).1 != 0) (inL LF (J9 (Je p) q.name).2) (q.delay != 0) (q.e.reach (inL LF)) (Ka (p.outs.map (·.name)) q.name) (inL LF q.name)
def Zg (h:Qe->Bool):Nat->List Qe->Int×Int×Int
 | _,[]=>(0,0,0)
 | k,q :: r=>if h q=true then(3,(k:Int),23) else Zg h (k+1) r
def Ks (p:Pr):Int×Int×Int:=if (J1 p).2=(0,0,0) then Zg (Jen p (Qs p).1) 0 p.eqs else(J1 p).2
theorem Jud (t c l d r o s:Bool) :
  (t=true/\(d=true\/d=false)/\(o=true\/o=false)/\Jdp t c l d r o s=true)\/
  (t=false/\c=true/\l=true/\(d=true\/d=false)/\(o=true\/o=false)/\Jdp t c l d r o s=true)\/
  (t=false/\((c=true/\l=false)\/c=false)/\d=true/\r=true/\(o=true\/o=false)/\Jdp t c l d r o s=true)\/
  (t=false/\((c=true/\l=false)\/c=false)/\((d=true/\r=false)\/d=false)/\o=true/\s=true/\Jdp t c l d r o s=true)\/
  (t=false/\((c=true/\l=false)\/c=false)/\((d=true/\r=false)\/d=false)/\((o=true/\s=false)\/o=false)/\Jdp t c l d r o s=false):=by
 revert t c l d r o s
 decide
theorem Jsc {f:ByteArray->Option Int} {l:List ByteArray} (h:Jc7 f l) (e:Ex):e.torn (onM f)=e.torn (inL l):=by rw [show onM f=inL l from funext h]
theorem Jsa {L:List Va} (h:∀v∈L,v.cn.size<=maxLen) (s:ByteArray):(J9 L s).2.size<=maxLen:=by
 unfold J9
 have:∀(l:List Va) (c:Int×ByteArray),(∀v∈l,v.cn.size<=maxLen)->c.2.size<=maxLen->(l.foldl (fun c v=>if s.data=v.name.data then(v.ck,v.cn) else c) c).2.size<=maxLen:=by
  intro l
  induction l with
  | nil=>exact fun c _ hc=>hc
  | cons v l ih=>
   intro c hl hc;rw [List.foldl_cons];refine ih _ (fun u hu=>hl u Sw) ?_
   split
   ·exact hl v Ul
   ·exact hc
 exact this L _ h Db
theorem Jho {eqs:List Qe} (he:∀q∈eqs,q.name.toList.isEmpty=false):∀(l:List Int) (out:List ByteArray),(∀s∈out,s.toList.isEmpty=false)->∀s∈Xj eqs out l,s.toList.isEmpty=false
 | [],out,ho,s,hs=>ho s hs
 | j :: r,out,ho,s,hs=>by
  rw [Xj] at hs;refine Jho he r _ ?_ s hs
  cases hq:eqs[j.toNat]? with
  | none=>exact ho
  | some q=>
   dsimp only
   split
   ·intro x hx
    rcases List.mem_append.1 hx with h1|h1
    ·exact ho x h1
    ·obtain rfl:x=q.name:=Lw;exact he q (Ni hq)
   ·exact ho
theorem Jm6 {p:Pr} (h:Qw p=true):∀q∈p.eqs,q.name.toList.isEmpty=false:=fun q hq=>by
 have hb:=(X4 h).2.2.2.2 q hq;simp only [eqB,Bool.and_eq_true] at hb;exact Jbx hb.1.1
theorem Jj2 {p:Pr} (hO:(J1 p).2=(0,0,0)):∀s∈(Qs p).1,s.toList.isEmpty=false:=by
 have jn:=(Xp (Xk (Yg hO).1).1).1;unfold Qs;rw [if_pos hO];refine Jho (Jm6 jn) _ _ fun s hs=>?_;unfold Jbj at hs;rw [List.mem_map] at hs;obtain⟨q,hq,rfl⟩:=hs;exact Jm6 jn q (List.mem_filter.1 hq).1
theorem Jl2 {LF:List ByteArray} (h:∀s∈LF,s.toList.isEmpty=false) (s:ByteArray):inL LF s=Ka LF s:=by
 unfold inL
 cases hs:s.toList.isEmpty
 ·exact Ul
 ·have:Ka LF s=false:=Jb5.2 fun hm=>by rw [h s hm] at hs;cases hs
  rw [this];rfl
def Jgv (t h d r o s:Bool):Bool:=t || h || (d && r) || (o && s)
theorem Jsm (t h d r o s:Bool) :
  (t=true/\Jgv t h d r o s=true)\/(t=false/\h=true/\Jgv t h d r o s=true)\/(t=false/\h=false/\d=true/\r=true/\Jgv t h d r o s=true)\/
  (t=false/\h=false/\((d=true/\r=false)\/d=false)/\o=true/\s=true/\Jgv t h d r o s=true)\/
  (t=false/\h=false/\((d=true/\r=false)\/d=false)/\((o=true/\s=false)\/o=false)/\Jgv t h d r o s=false):=by
 revert t h d r o s
 decide
theorem Jwl {p:Pr} (hO:(J1 p).2=(0,0,0)) {q:Qe} (hq:q∈p.eqs):∃(j:Nat) (v:Va),Jp (Je p) q.name=(j:Int)/\(Je p)[j]?=some v/\
  Jen p (Qs p).1 q=Jgv (q.e.torn (inL (Qs p).1)) (Ka (Qs p).1 v.cn) (q.delay != 0) (q.e.reach (inL (Qs p).1)) (decide ((j:Int)<(p.ins.length:Int)+(p.outs.length:Int))) (Ka (Qs p).1 q.name):=by
 have aN:=(Yg hO).1;have hc:=(Xk aN).1;have gG:=(Xp hc).2.1;have nl:=Jj2 hO;obtain⟨v,hm,hf,hn,bO,nk⟩:=Ja3 aN hq
 rcases Y5 (Je p) q.name with ⟨_,eB⟩|⟨j,u,cL,hx,eB⟩
 ·rw [hf] at eB;cases eB
 ·rw [hf] at eB;obtain rfl:v=u:=by injection eB
  refine⟨j,v,cL,hx,?_⟩;unfold Jen Jdp Jgv;rw [bO,Jl2 nl,Jl2 nl];dsimp only
  have h1:(v.ck != 0 && Ka (Qs p).1 v.cn)=Ka (Qs p).1 v.cn:=by
   rcases nk with ⟨h0,he⟩|⟨h0,_,_⟩
   ·have:Ka (Qs p).1 v.cn=false:=Jb5.2 fun hm=>by rw [nl _ hm] at he;cases he
    rw [this,Bool.and_false]
   ·have:(v.ck != 0)=true:=Mr;rw [this,Bool.true_and]
  have h2:Ka (p.outs.map (·.name)) q.name=decide ((j:Int)<(p.ins.length:Int)+(p.outs.length:Int)):=by
   rw [Bool.eq_iff_iff,Jbk,decide_eq_true_eq,List.mem_map]
   constructor
   ·rintro⟨u,hu,hun2⟩;obtain⟨i,hi⟩:=List.getElem?_of_mem hu;have kC:=(Nh hi).1
    have dR:(Je p)[p.ins.length+i]?=some u:=by
     unfold Je;rw [List.append_assoc,List.getElem?_append_right Ua,show p.ins.length+i-p.ins.length=i from by omega,List.getElem?_append_left kC];exact hi
    have:=gG _ _ _ _ dR hx (by rw [hun2,hn]);exact Ua
   ·intro am;have hni:=(Jbe hc).2.1 q hq;unfold Je at hx
    rcases Nat.lt_or_ge j p.ins.length with hj|hj
    ·rw [List.append_assoc,List.getElem?_append_left hj] at hx;exact absurd (List.mem_map.2 ⟨v,Ni hx,hn⟩) hni
    ·rw [List.append_assoc,List.getElem?_append_right hj,List.getElem?_append_left Ua] at hx;exact⟨v,Ni hx,hn⟩
  rw [h1,h2]
end Go.Proofs.YtknfcamdfdfoeaaGreatDoor
namespace Go.Proofs.YtknfcamdfdfoeaaGreatDoor
open Go.RowKit Go.Sort
theorem Jjz {l:List Va} : ∀ {r:List Va} {k j:Nat} {e:Int},Yy l k r=some (j,e)->e≠0
 | [],k,j,e,h=>by simp [Yy] at h
 | v :: r,k,j,e,h=>by
  rw [Yy] at h
  by_cases hc:Yc l v≠0
  ·exact Uc2
  ·rw [if_neg hc] at h;exact Jjz h
theorem Jjo {l:List Va} : ∀ {r:List Qe} {k j:Nat} {e:Int},Y7 l k r=some (j,e)->e≠0
 | [],k,j,e,h=>by simp [Y7] at h
 | q :: r,k,j,e,h=>by
  rw [Y7] at h
  by_cases hc:q.e.clk l (Jcy l q.name)≠0
  ·exact Uc2
  ·rw [if_neg hc] at h;exact Jjo h
theorem Jxh {p:Pr} (h:Qg p≠(0,0,0)):(Qg p).2.2≠0:=by
 unfold Qg at h ⊢
 by_cases hc:J7 p≠(0,0,0)
 ·rw [if_pos hc];exact Jrg hc
 rw [if_neg hc] at h ⊢;unfold Jgx at h ⊢
 cases hv:Yy (Je p) 0 (Je p) with
 | some k=>exact Jjz (e:=k.2) (j:=k.1) hv
 | none=>
 rw [hv] at h;simp only at h ⊢;unfold Ji8 at h ⊢
 cases hq:Y7 (Je p) 0 p.eqs with
 | some k=>exact Jjo (e:=k.2) (j:=k.1) hq
 | none=>rw [hq] at h;simp at h
theorem Jqb (p:Pr) (a:PrA) (w:World) (hp:Kr w p a) (aw:Q4 p) (n1:p.ins.length<=1000000) (n2:p.outs.length<=1000000) (n3:p.locals.length<=1000000) (n4:p.eqs.length<=1000000) (aN:Qg p≠(0,0,0)) :
  Calls Tryz.prog 29 #[prV p a] w fun r w'=>r = .returned (.tuple #[.slice none 0 0,fV (Qg p)])/\Below w.heap.size w w':=by
 have aV:=fun W h=>Jhn p a W (hp.later h) aw n1 n2 n3 n4;have he:((Qg p).2.2 != 0)=true:=by simpa using Jxh aN
 clear aN aw;obtain⟨A1,c1,A2,c2,A3,c3,A4,c4⟩:=a;unfold prV fV at *;dsimp only at *;generalize Qg p=f at *;obtain⟨f0,f1,f2⟩:=f;dsimp only at *
 go_enter Tryz.func29,Tryz.ntmps29
 go_wp2_with (first|(go_at_call 53;refine(aV _ Jb).mono ?_;rintro r wa ⟨rfl,aA⟩;have aW:=Jg aA;have bS:=Jf aA;have cN:w.heap.size+2<=wa.heap.size:=Ut;have dG:=lt0 w wa;have aX:=ltA w 1 wa))
 go_region
 all_goals
  go_wp2_with fail
  refine Nv (v:= .tuple #[.slice none 0 0,.agg #[.int .i64 f0,.int .i64 f1,.int .i64 f2]]) Gs rfl ⟨rfl,?_⟩
  (repeat refine Jh ?_)
  exact Km
theorem Jqt (p:Pr) (a:PrA) (w:World) (hg:Ql w) (hp:Kr w p a) (n1:p.ins.length<=1000000) (n2:p.outs.length<=1000000) (n3:p.locals.length<=1000000) (n4:p.eqs.length<=1000000) (aN:Qg p≠(0,0,0)) :
  Calls Tryz.prog 24 #[prV p a] w fun r w'=>r = .returned (.tuple #[.slice none 0 0,fV (Qg p)])/\Below w.heap.size w w':=by
 have aV:=fun W h=>Jhx p a W (hg.later h) (hp.later h) n1 n2 n3 n4
 have aS:((Qg p).1 == 0 && (Qg p).2.1 == 0 && (Qg p).2.2 == 0)=false:=by
  exact Ub8
 have dp:∀w,(Op.equalIn 10000 34 (.agg #[.int .i64 (Qg p).1,.int .i64 (Qg p).2.1,.int .i64 (Qg p).2.2]) (.agg #[.int .i64 0,.int .i64 0,.int .i64 0])).run Tryz.prog w = .ok false w:=fun w=>by rw [Zr,aS]
 have fM:Tryz.prog.eqGuardType Tryz.prog.depth 34=false:=Ug;clear aN aS;obtain⟨A1,c1,A2,c2,A3,c3,A4,c4⟩:=a;unfold prV fV at *;dsimp only at *;generalize (Qg p).1=k1 at *;generalize (Qg p).2.1=k2 at *;generalize (Qg p).2.2=k3 at *
 go_enter Tryz.func24,Tryz.ntmps24
 go_wp2_with (first|(go_at_call 45;refine(aV _ Jb).mono ?_;rintro r wa ⟨rfl,aA⟩;have aW:=Jg aA;have bS:=Jf aA;have cN:w.heap.size+2<=wa.heap.size:=Ut;have dG:=lt0 w wa;have aX:=ltA w 1 wa))
 go_region
 all_goals
  go_wp2_with fail
  refine Nv (v:= .tuple #[.slice none 0 0,.agg #[.int .i64 k1,.int .i64 k2,.int .i64 k3]]) Gq rfl ⟨rfl,?_⟩
  (repeat refine Jh ?_)
  exact Km
def Jfh (v:Value):Nat:=match v with | .slice _ n _=>n|_=>0
theorem Jzn {v u:Value} (h:∀b,v.ownBlock=some b->u.ownBlock≠some b):v.ownBlock=none\/v.ownBlock≠u.ownBlock:=by
 cases hv:v.ownBlock with
 | none=>exact .inl rfl
 | some b=>exact .inr fun e=>h b hv e.symm
theorem Jyl {v u:Value} (h:∀b,v.ownBlock=some b->u.ownBlock≠some b):u.ownBlock=none\/u.ownBlock≠v.ownBlock:=by
 cases hu:u.ownBlock with
 | none=>exact .inl rfl
 | some b=>exact .inr fun e=>h b e.symm hu
theorem Jwy {v u u2:Value} {B s s2:Nat} (h:∀b,v.ownBlock=some b->u.ownBlock≠some b) (am:∀k,v.ownBlock=some k->B<=k/\k<s) (nk:u2.ownBlock=u.ownBlock\/∀k,u2.ownBlock=some k->s2<=k) (hs:s<=s2):∀b,v.ownBlock=some b->u2.ownBlock≠some b:=by
 intro b hb e
 rcases nk with h1|h1
 ·exact h b hb (h1 ▸ e)
 ·have:=h1 b e;have:=(am b hb).2;exact Ua
theorem Ju3 {v v2 u:Value} {B s s2:Nat} (h:∀b,v.ownBlock=some b->u.ownBlock≠some b) (am:∀k,u.ownBlock=some k->B<=k/\k<s) (nk:v2.ownBlock=v.ownBlock\/∀k,v2.ownBlock=some k->s2<=k) (hs:s<=s2):∀b,v2.ownBlock=some b->u.ownBlock≠some b:=by
 intro b hb e
 rcases nk with h1|h1
 ·exact h b (h1 ▸ hb) e
 ·have:=h1 b hb;have:=(am b e).2;exact Ua
theorem Jou (p:Pr) (a:PrA) (w:World) (hp:Kr w p a) (aw:Q4 p) (n1:p.ins.length<=1000000) (n2:p.outs.length<=1000000) (n3:p.locals.length<=1000000) (n4:p.eqs.length<=1000000) (aN:Qg p=(0,0,0)) :
  Calls Tryz.prog 29 #[prV p a] w fun r w'=>(∃v,r = .returned (.tuple #[v,fV (Jbo p).2])/\w'.ownsRow w.heap.size 3 1 v (Jbo p).1.length ((Jbo p).1.map (.int .i64)))/\Below w.heap.size w w':=by
 have hO:Jbo p=Jfk (ofR (Je p)) p.eqs (Yn p.eqs) (Yn p.eqs) (p.ins.map (·.name) ++ Jbq p.eqs) []:=rfl;generalize Jbo p=O at *;have HO:=Nf hO;clear hO;have aV:=fun W h=>Jhn p a W (hp.later h) aw n1 n2 n3 n4
 have ju:∀q∈p.eqs,q.e.size<=1000000:=fun q hq=>by
  have:=(Jaq ((X4 (Xp (Xk aN).1).1).2.2.2.2 q hq)).2.2.1;exact Ua
 have tl:=fun(k:Nat) (q:Qe) (hq:p.eqs[k]?=some q) W (h:Below w.heap.size w W)=>Jo0 p a k q W (hp.later h) hq (ju q (Ni hq)) n1 n2 n3 n4;rw [aN] at aV;clear aN ju;have ii:=hp.ins;have bI:=hp.ins.len;have bT:=hp.eqs;have cG:=hp.eqs.len;obtain⟨A1,c1,A2,c2,A3,c3,A4,c4⟩:=a;unfold maxLen at bI cG;unfold prV fV at *;dsimp only at *;obtain⟨tO,tP⟩:=bI;obtain⟨fT,fU⟩:=cG
 go_enter Tryz.func29,Tryz.ntmps29
 go_wp2_with (first|(go_at_call 53;refine(aV _ Jb).mono ?_;rintro r wa ⟨rfl,aA⟩;have aW:=Jg aA;have bS:=Jf aA;have cN:w.heap.size+2<=wa.heap.size:=Ut;have dG:=lt0 w wa;have aX:=ltA w 1 wa))
 refine Jo fun W0 ag=>?_;have ax:=Nd w W0 Vl;have bD:w.heap.size+1<W0.heap.size:=Su;have rx:=lt0 w W0;have x0:=Nb W0 w.heap.size 0 (.string p.name) Uc;have x1:=Nb W0 w.heap.size 1 (.slice A1 p.ins.length c1) Uc;have x2:=Nb W0 w.heap.size 2 (.slice A2 p.outs.length c2) Uc;have x3:=Nb W0 w.heap.size 3 (.slice A3 p.locals.length c3) Uc;have x4:=Nb W0 w.heap.size 4 (.slice A4 p.eqs.length c4) Uc;have f0:=Na W0 (w.heap.size+1) 0 0 Uc;have f1:=Na W0 (w.heap.size+1) 1 0 Uc;have f2:=Na W0 (w.heap.size+1) 2 0 Uc;have z0:=Nc W0 (w.heap.size+1) 0 Uc;have z1:=Nc W0 (w.heap.size+1) 1 Uc;have z2:=Nc W0 (w.heap.size+1) 2 Uc;clear ag aW bS aA cN dG aX aV
 go_loopw [5,6] (fun r i wr=>∃(k:Nat) (A:Option Addr) (cap:Nat),k<=p.ins.length/\i = .int .i64 k/\r = .slice A k cap/\Hid (wr.ownsRow W0.heap.size 9 1 (.slice A k cap) k ((p.ins.take k).map (fun v=>Value.string v.name)))/\Below W0.heap.size W0 wr) (fun r i _=>p.ins.length-(intOf i).toNat)
 case atStart=>exact⟨0,none,0,Np,rfl,rfl,Nf (Nw),Nt⟩
 case round=>
  obtain⟨k,A,cap,hk,rfl,rfl,ae,ab⟩:=hrel;have aC:=Nd w wr (Jn ax ab Ua);have hc:=Jg ab;have bu:=ab.size
  by_cases am:k<p.ins.length
  ·obtain⟨x,hx,-,hd⟩:=Kl am;obtain⟨b,off,rfl,aH,⟨d0,d1,d2,d3⟩⟩:=(ii.later aC).get hx;have aP:p.ins.take (k+1)=p.ins.take k ++ [x]:=Gy;clear hd;have eZ:=Nf aP;clear aP hx;have ba:=ae.out
   go_wp2_with (first|(at_builtin;go_loud (refine Kap rfl (.tmp 29) (.tmp 36) 121 rfl W0.heap.size 9 _ 1 16 Tryz.underlying121 Zq rfl Ua (.slice A k cap) k ((p.ins.take k).map (fun v=>Value.string v.name)) _ 1 [.string x.name] rfl (Js ba) rfl rfl (fun j u hj=>U9) Uv Ua Ua Uj ?_;intro v2 w2 ao aq;have br:=aq.size;(try simp at br);obtain⟨A2',cv2,rfl,it,iu⟩:=Jv ao)))
   go_roundw
   case rel=>exact⟨k+1,_,_,Ua,Up,rfl,Nf (by rw [eZ.out,List.map_append];exact ao),Jb⟩
   case measure=>simp [intOf];try omega
  ·obtain rfl:k=p.ins.length:=Ua;rw [List.take_length] at ae
   have eo:wr.ownsRow W0.heap.size 9 1 (.slice A p.ins.length cap) (p.ins.map (·.name)).length ((p.ins.map (·.name)).map .string):=by
    have:=ae.out;rw [List.map_map,List.length_map];exact this
   have HO0:=Nf eo;clear eo ae;obtain⟨R0,hR0⟩:∃R0,R0=p.ins.map (·.name):=⟨_,rfl⟩;have hR0l:R0.length=p.ins.length:=by rw [hR0,List.length_map]
   rw [<-hR0] at HO0;have vi:=Nf hR0;clear hR0
   go_wp2_with fail
   clear aC hc bu
   go_loopw [5,7,8] (fun r c i wr=>∃(k n:Nat) (A:Option Addr) (cap:Nat) (R:List ByteArray),k<=p.eqs.length/\i = .int .i64 k/\c = .int .i64 n/\n<=k/\Hid (n=Yn (p.eqs.take k))/\R.length<=1000000+k/\Hid (R=R0 ++ Jbq (p.eqs.take k))/\r = .slice A R.length cap/\Hid (wr.ownsRow W0.heap.size 9 1 (.slice A R.length cap) R.length (R.map .string))/\Below W0.heap.size W0 wr) (fun r c i _=>p.eqs.length-(intOf i).toNat)
   case atStart=>exact⟨0,0,A,cap,R0,Np,rfl,rfl,Ns _,Nf rfl,Ua,Nf (by simp [Jbq]),by rw [hR0l],Nf (by have:=HO0.out;rw [hR0l] at this ⊢;exact this),ab⟩
   case round=>
    clear HO0 ab;obtain⟨k,n,A,cap,R,hk,rfl,rfl,hn,jV,hRl,hR,rfl,ae,ab⟩:=hrel;have aC:=Nd w wr (Jn ax ab Ua);have hc:=Jg ab;have bu:=ab.size
    by_cases am:k<p.eqs.length
    ·obtain⟨q,hx,-,hd⟩:=Kl am;obtain⟨b,off,B1,n1,B2,n2,rfl,aH,⟨g0,g1,g2,g3,g4,g5,g6,g7,g8,g9,s1,s2⟩⟩:=(bT.later aC).get hx;have aP:p.eqs.take (k+1)=p.eqs.take k ++ [q]:=Gy;have h1:=Jpy (p.eqs.take k) q;have h2:=Js8 (p.eqs.take k) q;rw [<-aP] at h1 h2;rw [<-jV.out] at h2;clear hd hx aP g2 g3 g4 g5 g6 g7 g8 g9 s1 s2;have ba:=ae.out
     cases ek:(q.delay != 0)
     ·rw [ek,if_neg Ul] at h1 h2;have H1:=Nf h1;clear h1;have H2:=Nf h2;clear h2
      go_wp2_with fail
      go_roundw
      case rel=>exact⟨k+1,n+1,A,cap,R,Ua,Up,Up,Ua,Nf H2.out.symm,Ua,Nf (by rw [H1.out];exact hR.out),rfl,ae,ab⟩
      case measure=>simp [intOf];try omega
     ·rw [ek,if_pos rfl] at h1 h2;have H1:=Nf h1;clear h1;have H2:=Nf h2;clear h2
      go_wp2_with (first|(at_builtin;go_loud (refine Kap rfl (.tmp 52) (.tmp 59) 121 rfl W0.heap.size 9 _ 1 16 Tryz.underlying121 Zq rfl Ua (.slice A R.length cap) R.length (R.map .string) _ 1 [.string q.name] rfl (Js ba) rfl rfl (fun j u hj=>U9) Uv Ua Ua Uj ?_;intro v2 w2 ao aq;have br:=aq.size;(try simp at br);obtain⟨A2',cv2,rfl,it,iu⟩:=Jv ao)))
      go_roundw
      case rel=>exact⟨k+1,n,A2',cv2,R ++ [q.name],Ua,Up,Up,Ua,Nf H2.out.symm,Uj,Nf (by rw [H1.out,hR.out,List.append_assoc]),Ul,Nf (by rw [List.map_append,Nk];exact ao),Jb⟩
      case measure=>simp [intOf];try omega
    ·obtain rfl:k=p.eqs.length:=Ua;rw [List.take_length] at jV hR;have hRO:Jfk (ofR (Je p)) p.eqs n n R []=O:=by rw [HO.out,<-vi.out,<-hR.out,<-jV.out]
     have wV:=Nf hRO;clear hRO;have hRl2:R.length<=2000000:=Ua
     go_wp2_with fail
     obtain⟨nd,nq⟩:∃nd,nd=ofR (Je p):=⟨_,rfl⟩;rw [<-nq] at wV tl;have HND:=Nf nq;clear nq hc bu aC jV hR
     go_loopw [5,9] (fun r o wr=>∃(t:Nat) (A:Option Addr) (cap:Nat) (B:Option Addr) (bc:Nat) (R:List ByteArray) (out:List Int),out.length+t=n/\r = .slice A R.length cap/\o = .slice B out.length bc/\R.length<=2000000+out.length/\Hid (Jfk nd p.eqs n t R out=O)/\Hid (wr.ownsRow W0.heap.size 9 1 (.slice A R.length cap) R.length (R.map .string))/\Hid (wr.ownsRow W0.heap.size 3 1 (.slice B out.length bc) out.length (out.map (.int .i64)))/\Hid (∀b,(Value.slice A R.length cap).ownBlock=some b->(Value.slice B out.length bc).ownBlock≠some b)/\Below W0.heap.size W0 wr) (fun r o _=>n-Jfh o)
     case atStart=>exact⟨n,A,cap,none,0,R,[],Ul,rfl,rfl,Ua,wV,ae,Nf (Nw),Nf (fun b _ h=>by simp [Value.ownBlock] at h),ab⟩
     case round=>
      clear wV ae ab;obtain⟨t,A,cap,B,bc,R,out,ht,rfl,rfl,hRl3,aa,ae,iX,ra,ab⟩:=hrel;have aC:=Nd w wr (Jn ax ab Ua);have hc:=Jg ab;have eh:=Jf ab;have bu:=ab.size;have wD:=ltA w 1 wr
      cases t with
      | zero=>
       have hv:O=(out,(0,0,0)):=by rw [<-aa.out];rfl
       have bg:out.length=n:=Ua;have ql:=iX.out;have HV:=Nf hv;clear hv aa
       go_wp2_with fail
       refine Nv (v:= .tuple #[.slice B out.length bc,.agg #[.int .i64 0,.int .i64 0,.int .i64 0]]) Gs rfl ⟨⟨.slice B out.length bc,Vp,?_⟩,?_⟩
       ·rw [HV.out];dsimp only;exact Ubw
       ·(repeat refine Jh ?_)
        exact Km
      | succ t=>
       have am:out.length<n:=Ua;have dO:(out.length:Int)<(n:Int):=Ua;have gm:=aa.out;rw [Jfk,if_pos am] at gm;have wY:=Nf gm;clear gm aa;obtain⟨W3,rfl⟩:∃W3,W3=wr:=⟨wr,rfl⟩;have hw3:=lt0 w W3;have lf:=Qf.of_own ae.out
       go_wp2_with fail
       go_loopw [10,11,12] (fun l x i wr=>∃(k:Nat) (l0 n0:Int),k<=p.eqs.length/\i = .int .i64 ((k:Int)-1)/\l = .int .i64 l0/\x = .int .i64 n0/\Hid (Yd R nd k (p.eqs.drop k)=(l0,n0))/\Below W3.heap.size W3 wr) (fun _ _ i _=>(intOf i+1).toNat)
       case atStart=>exact⟨p.eqs.length,-1,-1,Ns _,Up,rfl,rfl,Nf (by rw [Nn];rfl),Nt⟩
       case round=>
        obtain⟨k,l0,n0,hk,rfl,rfl,rfl,pZ,dB⟩:=hrel;have rR:=Nd w wr (Jn aC dB Ua);have ky:=Jg dB;have lc:=Jf dB;have rP:=dB.size;have hwv:=lt0 w wr;have hwv1:=ltA w 1 wr
        rcases Nat.eq_zero_or_pos k with iP|iP
        ·subst iP;have nW:=pZ.out;rw [List.drop_zero] at nW;have gm:=wY.out;rw [nW] at gm;dsimp only at gm;clear pZ wY
         by_cases bg:n0<0
         ·rw [if_pos bg] at gm;have HV:=Nf gm;clear gm nW
          go_wp2_with fail
          refine Nv (v:= .tuple #[.slice none 0 0,.agg #[.int .i64 3,.int .i64 l0,.int .i64 22]]) Gs rfl ⟨⟨.slice none 0 0,by rw [<-HV.out],?_⟩,?_⟩
          ·rw [<-HV.out];exact Nw
          ·(repeat refine Jh ?_)
           exact Km
         ·rw [if_neg bg] at gm;obtain⟨k,q,dN,hx,_,_⟩:=Jfx p.eqs 0 (by rw [nW];exact bg);rw [nW,Nat.zero_add] at dN;dsimp only at dN;subst dN;have jp:k<p.eqs.length:=(Nh hx).1;rw [Jms (q:=q) (by rw [Int.toNat_natCast];exact hx)] at gm;have HV:=Nf gm;have HX:=Nf hx;have eR:¬((k:Int)<0):=Ua;clear gm nW hx bg
          go_wp2_with (first|(at_builtin;go_loud (refine Z2 rfl (.tmp 108) (.tmp 110) 77 rfl W0.heap.size 3 _ 1 8 Tryz.underlying77 Zd rfl Ua (.slice B out.length bc) out.length (out.map (.int .i64)) _ 1 1 [.int .i64 (k:Int)] rfl (Js (Jy iX.out dB)) rfl rfl (fun j u hj=>U9) Uv Ua Ua Uj ?_;intro v2 w2 ao aG hor2;have mA:=Jzn ra.out;have hrd2:=(Js (Jy ae.out dB)).kept aG mA;have hap2:=Jwy ra.out ae.out.lt hor2 Uj;have aq:=Nd W0 w2 (J2 (Jc (ab.trans (dB.mono Ua)) _) aG (fun b hb=>(iX.out.lt b hb).1) Uj);have br:wr.heap.size+1<=w2.heap.size:=D0;have dm:=Jg aq;have gq:=lt0 w w2;have iY:=Nd w w2 (Jn ax aq Ua);obtain⟨b,off,B1,n1,B2,n2,rfl,aH,⟨g0,g1,g2,g3,g4,g5,g6,g7,g8,g9,s1,s2⟩⟩:=(bT.later iY).get HX.out;clear g1 g2 g3 g4 g5 g6 g7 g8 g9 s1 s2;obtain⟨A2',cv2,rfl,it,iu⟩:=Jv ao))|(at_builtin;go_loud (refine Z2 rfl (.tmp 112) (.tmp 119) 121 rfl W0.heap.size 9 _ 1 16 Tryz.underlying121 Zq rfl Ua (.slice A R.length cap) R.length (R.map .string) _ 1 1 [.string q.name] rfl (Js hrd2) rfl rfl (fun j u hj=>U9) Uv Ua Ua Uj ?_;intro v3 w3 aE bJ hor3;have hout3:=(Js ao).kept bJ (Jyl hap2);have hap3:=Ju3 hap2 ao.lt hor3 Ul;have aM:=Nd W0 w3 (J2 (Jc aq _) bJ (fun b hb=>(ae.out.lt b hb).1) Uj);obtain⟨A3',cv3,rfl,hcd1,hcd2⟩:=Jv aE)))
          go_roundw
          case rel=>exact⟨t,A3',cv3,A2',cv2,R ++ [q.name],out ++ [(k:Int)],Uj,Ul,Ul,Uj,HV,Nf (by rw [List.map_append,Nk];exact aE),Nf (by rw [List.map_append,Nk];exact hout3),Nf (by rw [Nk,Nk];exact hap3),aM⟩
          case measure=>simp [Jfh];omega
        ·obtain⟨k,rfl⟩:∃m,k=m+1:=⟨k-1,Ua⟩;have am:k<p.eqs.length:=Ua;obtain⟨q,hx,-,hd⟩:=Kl am;obtain⟨b,off,B1,n1,B2,n2,rfl,aH,⟨g0,g1,g2,g3,g4,g5,g6,g7,g8,g9,s1,s2⟩⟩:=(bT.later rR).get hx;have dw:=congrArg (Yd R nd k) hd;rw [Yd,pZ.out] at dw;dsimp only at dw;have hik:((k+1:Nat):Int)-1=(k:Int):=Ua;rw [hik];have dY:=tl k q hx;clear pZ hik hd hx g2 g3 g4 g5 g6 g7 g8 g9 s1 s2;have hbk:b<wr.heap.size:=Ua
         cases hh:Ka R q.name
         ·rw [hh,if_neg Ul] at dw;obtain⟨ndq,hndq⟩:∃x,x=nd q:=⟨_,rfl⟩;rw [<-hndq] at dw dY;have HS:=Nf dw;have HH:=Nf hh;clear dw hh hndq;obtain⟨Wv,rfl⟩:∃Wv,Wv=wr:=⟨wr,rfl⟩
          go_wp2_with (first|(go_at_call 54;go_loud (refine(Yu R A cap q.name _ (lf.later Jb)).mono ?_;rw [HH.out];rintro r wh ⟨rfl,dX⟩;have fJ:=Jg dX;have nX:=dX.size;have iZ:=lt0 w wh))|(go_at_call 55;go_loud (refine(dY _ Jb).mono ?_;rintro r wo ⟨⟨vo,rfl,ay⟩,cW⟩;obtain⟨Ar,cr,rfl,fF,fa⟩:=Jv ay;have kq:=Qf.of_own ay;have jY:=Jg cW;have jB:=cW.size;have nY:=lt0 w wo;clear ay)))
          refine Jo fun W4 hW4=>?_;have hwo4:=Nd wo W4 (by rw [hW4];exact Jb)
          have pe:=Nd W3 W4 (by rw [hW4];exact Jb)
          have hls4:Qf W4 ndq Ar cr:=kq.later hwo4;have hz34:=pe.size;have qS:=lt0 w W4;unfold maxLen at fa;clear hW4 kq hwo4 cW jY jB nY dX fJ nX iZ ky lc rP hc eh rR dY hbk
          go_loopw [13,15] (fun ok i wr=>∃(m:Nat) (b:Bool),m<=ndq.length/\i = .int .i64 m/\ok = .bool b/\Hid (b=(ndq.take m).all (Ka R))/\Below W4.heap.size W4 wr) (fun _ i _=>ndq.length-(intOf i).toNat)
          case atStart=>exact⟨0,true,Np,rfl,rfl,Nf rfl,Nt⟩
          case round=>
           obtain⟨m,bb,hm,rfl,rfl,rS,da⟩:=hrel
           by_cases rA:m<ndq.length
           ·have wT:ndq[m]?=some ndq[m]:=Ng rA;generalize ndq[m]=s5 at wT;have aP:(ndq.take (m+1)).all (Ka R)=((ndq.take m).all (Ka R) && Ka R s5):=by rw [List.take_add_one,wT,List.all_append];simp
            rw [<-rS.out] at aP;obtain⟨b5,o5,rfl,hbb6,d5⟩:=(hls4.later da).get wT;have vD:=lf.later (pe.trans (da.mono hz34));clear rS wT
            cases bb
            ·rw [Bool.false_and] at aP;have eZ:=Nf aP.symm;clear aP
             go_wp2_with fail
             go_roundw
             case rel=>exact⟨m+1,false,Ua,Up,rfl,eZ,Jb⟩
             case measure=>simp [intOf];try omega
            ·rw [Bool.true_and] at aP;have eZ:=Nf aP.symm;clear aP
             go_wp2_with (first|(go_at_call 54;go_loud (refine(Yu R A cap s5 _ (vD.later Jb)).mono ?_;rintro r wh ⟨rfl,dX⟩)))
             go_roundw
             case rel=>exact⟨m+1,Ka R s5,Ua,Up,rfl,eZ,Jb⟩
             case measure=>simp [intOf];try omega
           ·obtain rfl:m=ndq.length:=Ua;have eF:=rS.out;rw [List.take_length] at eF;have dw:=HS.out;rw [<-eF] at dw;clear rS eF HS;have bZ:=Nd W3 wr (pe.trans (da.mono hz34))
            cases bb
            ·rw [if_neg Ul] at dw;exact Ubv
            ·rw [if_pos rfl] at dw;exact Ubv
         ·rw [hh,if_pos rfl] at dw;have HS:=Nf dw;have HH:=Nf hh;clear dw hh
          go_wp2_with (first|(go_at_call 54;go_loud (refine(Yu R A cap q.name _ (lf.later Jb)).mono ?_;rw [HH.out];rintro r wh ⟨rfl,dX⟩)))
          go_roundw
          case rel=>exact⟨k,l0,n0,Ua,Up,rfl,rfl,HS,Jb⟩
          case measure=>simp [intOf];try omega
end Go.Proofs.YtknfcamdfdfoeaaGreatDoor
