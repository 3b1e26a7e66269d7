/- Lemmas. -/
import Derived.Test.YtknfcamdfdfoeaaGreatDoorMac
import Derived.Test.YtknfcamdfdfoeaaGreatDoorZ18
import Derived.Test.YtknfcamdfdfoeaaGreatDoorZ03
import Derived.Test.YtknfcamdfdfoeaaGreatDoorZ19
import Derived.Test.YtknfcamdfdfoeaaGreatDoorZ20
import Derived.Test.YtknfcamdfdfoeaaGreatDoorZ00
import Derived.WideKeyEntry
import Derived.Test.YtknfcamdfdfoeaaGreatDoorZ12
import Derived.Deep.RegionLaw
import Derived.BigRegion
set_option linter.unusedVariables false
set_option linter.unusedSimpArgs false
set_option maxRecDepth 100000
set_option maxHeartbeats 64000000
namespace Go.Proofs.YtknfcamdfdfoeaaGreatDoor
open Go.RowKit Go.Sort
theorem Jpj {p:Pr} (h:(J1 p).2≠(0,0,0)):(J1 p).2.2.2≠0:=by
 unfold J1 at h ⊢
 by_cases aN:Qg p=(0,0,0)
 ·rw [if_pos aN] at h ⊢
  rcases Jiu (Xk aN).1 with ⟨res,h1,_⟩|⟨out,m,q,h1,_⟩
  ·rw [h1] at h;exact absurd rfl h
  ·rw [h1];show(22:Int)≠0
   decide
 ·rw [if_neg aN];exact Jxh aN
theorem Jk3 (p:Pr) (a:PrA) (w:World) (hg:Ql w) (hp:Kr w p a) (aw:Q4 p) (n1:p.ins.length<=1000000) (n2:p.outs.length<=1000000) (n3:p.locals.length<=1000000) (n4:p.eqs.length<=1000000) :
  Calls Tryz.prog 71 #[prV p a] w fun r w'=>r = .returned (fV (Ks p))/\Below w.heap.size w w':=by
 by_cases hO:(J1 p).2=(0,0,0)
 ·exact Jod p a w hg hp aw n1 n2 n3 n4 hO
 ·have h:=Jpz p a w hg hp aw n1 n2 n3 n4 hO;rw [show Ks p=(J1 p).2 by unfold Ks;rw [if_neg hO]];exact h
end Go.Proofs.YtknfcamdfdfoeaaGreatDoor
namespace Go.Proofs.YtknfcamdfdfoeaaGreatDoor
open Go.RowKit
def Yv (v a b:List (Int×Int)):List (Int×Int):=v ++ [(11,(a.length:Int)+1)] ++ a ++ [(10,(b.length:Int))] ++ b
def Jae (sl:ByteArray->Int) (fl:Int×ByteArray->Int) (k n:Int) (s:ByteArray) (c:Int×ByteArray) (ps:List (List (Int×Int))):List (Int×Int):=
 if k=3 then [(2,sl s)]
 else if k=4 then ps.getD 0 [] ++ [(8,n)]
 else if k=5 then ps.getD 0 [] ++ ps.getD 1 [] ++ [(9,n)]
 else if k=6 then Yv (ps.getD 0 []) (ps.getD 1 []) (ps.getD 2 [])
 else if k=7 then Yv [(4,fl c)] (ps.getD 1 []) (ps.getD 0 [])
 else if k=8\/k=9 then ps.getD 0 []
 else if k=10 then Yv [(2,sl s)] (ps.getD 0 []) (ps.getD 1 [])
 else [(1,n)]
namespace Ex
mutual
def gen (sl:ByteArray->Int) (fl:Int×ByteArray->Int):Ex->Int×ByteArray->List (Int×Int)
 | mk k n s sub,c=>Jae sl fl k n s c (genL sl fl k s c 0 sub)
def genL (sl:ByteArray->Int) (fl:Int×ByteArray->Int):Int->ByteArray->Int×ByteArray->Nat->List Ex->List (List (Int×Int))
 | _,_,_,_,[]=>[]
 | k,s,c,i,x :: r=>gen sl fl x (K4 k s c i) :: genL sl fl k s c (i+1) r
end
theorem gen_eq (sl:ByteArray->Int) (fl:Int×ByteArray->Int) (e:Ex) (c:Int×ByteArray):e.gen sl fl c=Jae sl fl e.kind e.n e.name c (genL sl fl e.kind e.name c 0 e.sub):=by cases e;rw [gen];rfl
theorem genL_len (sl:ByteArray->Int) (fl:Int×ByteArray->Int) (k:Int) (s:ByteArray) (c:Int×ByteArray):∀(r:List Ex) (i:Nat),(genL sl fl k s c i r).length=r.length
 | [],i=>by rw [genL];rfl
 | x :: r,i=>by rw [genL,Nl,Nl,genL_len sl fl k s c r]
theorem genL_get (sl:ByteArray->Int) (fl:Int×ByteArray->Int) (k:Int) (s:ByteArray) (c:Int×ByteArray):∀(r:List Ex) (i j:Nat) (x:Ex),r[j]?=some x->(genL sl fl k s c i r).getD j []=x.gen sl fl (K4 k s c (i+j))
 | [],i,j,x,h=>Lt
 | y :: r,i,0,x,h=>by simp at h;subst h;rw [genL];rfl
 | y :: r,i,j+1,x,h=>by
  rw [genL,show i+(j+1)=i+1+j from by omega];have:=genL_get sl fl k s c r (i+1) j x Ve;simpa using this
theorem choice_len (v a b:List (Int×Int)):(Yv v a b).length=v.length+a.length+b.length+2:=by unfold Yv;simp;omega
theorem gen_len (sl:ByteArray->Int) (fl:Int×ByteArray->Int) (e:Ex):∀c,(e.gen sl fl c).length<=3 * e.size:=by
 induction e using ind with
 | h e ih=>
  intro c
  have hs:∀(r:List Ex) (i:Nat),(∀x∈r,∀c,(x.gen sl fl c).length<=3 * x.size)->∀c,((genL sl fl e.kind e.name c i r).map List.length).sum<=3 * sizeL r:=by
   intro r
   induction r with
   | nil=>exact fun i _ c=>by rw [genL];simp [sizeL]
   | cons x r ihr=>
    intro i h c;have h1:=h x Ul (K4 e.kind e.name c i);have h2:=ihr (i+1) (fun y hy=>h y F0) c;rw [genL,List.map_cons,List.sum_cons,sizeL];omega
  have h0:=hs e.sub 0 ih c;rw [gen_eq,size_eq];generalize genL sl fl e.kind e.name c 0 e.sub=ps at h0 ⊢
  have hd:(ps.getD 0 []).length+(ps.getD 1 []).length+(ps.getD 2 []).length<=(ps.map List.length).sum:=by
   match ps with
   | []=>simp
   | [a]=>simp
   | [a,b]=>simp
   | a :: b :: d :: r=>simp;omega
  unfold Jae;generalize ps.getD 0 []=a at hd ⊢;generalize ps.getD 1 []=b at hd ⊢;generalize ps.getD 2 []=d at hd ⊢
  repeat' split
  all_goals first|omega|(rw [choice_len];simp only [Nl,Nm];omega)|(rw [choice_len];omega)|(simp only [Nk,Nl,Nm];omega)
end Ex
def Xu (L:List Va) (s:ByteArray):Int:=(Qi L s).getD 0
def Jav:Nat->List Ce->Int×ByteArray->Int
 | _,[],_=>0
 | i,x :: r,d=>if x.name.toList.isEmpty=true/\K9 x.ck x.cn d.1 d.2=true then(i:Int) else Jav (i+1) r d
def Kg (l:List Ce) (d:Int×ByteArray):Int:=Jav 0 l d
def Qk (sl:ByteArray->Int) (c:Int×ByteArray) (x:List (Int×Int)):List (Int×Int):=
 if c.1=1 then [(2,sl c.2),(11,(x.length:Int))] ++ x else if c.1=2 then [(2,sl c.2),(8,2),(11,(x.length:Int))] ++ x else x
def Yh (sl:ByteArray->Int):Nat->List Va->List (Int×Int)
 | _,[]=>[]
 | i,v :: r=>[(6,(i:Int)),(3,sl v.name)] ++ Yh sl (i+1) r
def Zx (sl:ByteArray->Int):Nat->List Qe->List (Int×Int)
 | _,[]=>[]
 | k,q :: r=>[(4,(k:Int)),(3,sl q.name)] ++ Zx sl (k+1) r
def Zu (sl:ByteArray->Int) (fl:Int×ByteArray->Int) (L:List Va):Nat->List Qe->List (Int×Int)
 | _,[]=>[]
 | k,q :: r=>Qk sl (J9 L q.name) (q.e.gen sl fl (J9 L q.name) ++ [(5,(k:Int))]) ++ Zu sl fl L (k+1) r
def Ze (sl:ByteArray->Int):Nat->List Ce->List (Int×Int)
 | _,[]=>[]
 | k,c :: r=>Qk sl (c.ck,c.cn) [(1,1),(5,(k:Int))] ++ Ze sl (k+1) r
def Xd (sl:ByteArray->Int) (fl:Int×ByteArray->Int) (L:List Va) (eqs:List Qe):List Int->List (Int×Int)
 | []=>[]
 | j :: r=>(match eqs[j.toNat]? with|some q=>Qk sl (J9 L q.name) (q.e.gen sl fl (J9 L q.name) ++ [(3,sl q.name)])|none=>[]) ++ Xd sl fl L eqs r
def Xl (sl:ByteArray->Int):Nat->List Va->List (Int×Int)
 | _,[]=>[]
 | i,v :: r=>[(2,sl v.name),(7,(i:Int))] ++ Xl sl (i+1) r
def Xs (p:Pr):List (Int×Int):=
 Yh (Xu (Je p)) 0 p.ins ++ Zx (Xu (Je p)) 0 (J0 p.eqs) ++ Xd (Xu (Je p)) (Kg (Jq p)) (Je p) p.eqs (J1 p).1 ++
 Zu (Xu (Je p)) (Kg (Jq p)) (Je p) 0 (J0 p.eqs) ++ Ze (Xu (Je p)) (J0 p.eqs).length ((Jq p).drop (J0 p.eqs).length) ++ Xl (Xu (Je p)) 0 p.outs
def Xg (p:Pr):List (Int×Int)×(Int×Int×Int×Int×Int)×(Int×Int×Int):=
 if (Kf p).2=(0,0,0) then
  if 600<(Xs p).length then([],(0,0,0,0,0),(4,0,3))
  else(Xs p,((Je p).length,(Jq p).length,(Jq p).length,p.ins.length,p.outs.length),(0,0,0))
 else([],(0,0,0,0,0),(Kf p).2)
theorem Jgj {α:Type} {P:List α->Prop} (h0:P []) (h1:∀l x,P l->P (l ++ [x])):∀l,P l:=fun l=>by
 have:∀r:List α,P r.reverse:=fun r=>by
  induction r with
  | nil=>exact h0
  | cons x r ih=>rw [List.reverse_cons];exact h1 _ _ ih
 rw [<-List.reverse_reverse l];exact this _
def Jft (L:List Va) (s:ByteArray):Option Int:=L.zipIdx.foldl (fun c v=>if s.data=v.1.name.data then some (v.2:Int) else c) none
theorem Jeh (L:List Va) (v:Va) (s:ByteArray):Jft (L ++ [v]) s=if s.data=v.name.data then some (L.length:Int) else Jft L s:=by
 unfold Jft;rw [List.zipIdx_append,List.foldl_append];simp [List.zipIdx]
def Jcq (L:List Va) (s:ByteArray):Option (Int×ByteArray):=L.foldl (fun c v=>if s.data=v.name.data then some (v.ck,v.cn) else c) none
theorem Jce (L:List Va) (v:Va) (s:ByteArray):Jcq (L ++ [v]) s=if s.data=v.name.data then some (v.ck,v.cn) else Jcq L s:=by
 unfold Jcq;rw [List.foldl_append];exact Gd
def Jeg (l:List Ce) (d:Int×ByteArray):Option Int:=l.zipIdx.foldl (fun c x=>if x.1.name.toList.isEmpty=true/\d.1=x.1.ck/\d.2.data=x.1.cn.data then some (x.2:Int) else c) none
theorem Jef (l:List Ce) (x:Ce) (d:Int×ByteArray):Jeg (l ++ [x]) d=if x.name.toList.isEmpty=true/\d.1=x.ck/\d.2.data=x.cn.data then some (l.length:Int) else Jeg l d:=by
 unfold Jeg;rw [List.zipIdx_append,List.foldl_append];simp [List.zipIdx]
theorem Jlb (v:Va) (s:ByteArray):∀(L:List Va) (i:Int),Xf (L ++ [v]) s i=match Xf L s i with|some j=>some j|none=>if s.data=v.name.data then some (i+(L.length:Int)) else none
 | [],i=>by simp [Xf]
 | u :: L,i=>by
  simp only [List.cons_append,Xf]
  split
  ·exact Gd
  ·rw [Jlb v s L (i+1)]
   cases Xf L s (i+1)
   ·simp only [Nl]
    split
    ·congr 1;omega
    ·exact Gd
   ·exact Gd
theorem Jlv:∀(L:List Va) (s:ByteArray) (i:Int),(∀u∈L,u.name≠s)->Xf L s i=none
 | [],s,i,_=>rfl
 | u :: L,s,i,h=>by
  have h1:=h u Ul;rw [Xf,if_neg (fun he=>h1 Ss)];exact Jlv L s (i+1) fun y hy=>h y F0
theorem Jrw (s:ByteArray):∀(L:List Va),(L.map (·.name)).Nodup->Jft L s=Qi L s:=by
 refine Jgj (fun _=>rfl) fun L v ih hn=>?_
 ·rw [List.map_append,List.nodup_append] at hn;rw [Jeh,ih hn.1];unfold Qi;rw [Jlb]
  by_cases hs:s.data=v.name.data
  ·have hsv:s=v.name:=by ext1;exact hs
   rw [Jlv L s 0 (fun u hu he=>hn.2.2 u.name (List.mem_map.2 ⟨u,hu,rfl⟩) v.name Ul (he.trans hsv))];simp [hs]
  ·rw [if_neg hs]
   cases Xf L s 0 <;> simp [hs]
theorem Jtm (s:ByteArray):∀(L:List Va),(∀u∈L,u.name≠s)->Jft L s=none:=by
 refine Jgj (fun _=>rfl) fun L v ih h=>?_;rw [Jeh,if_neg (fun he=>h v Ul Ss)];exact ih fun u hu=>h u Sw
theorem Jlc (s:ByteArray):∀(L:List Va),(∀u∈L,u.name≠s)->Jcq L s=none:=by
 refine Jgj (fun _=>rfl) fun L v ih h=>?_;rw [Jce,if_neg (fun he=>h v Ul Ss)];exact ih fun u hu=>h u Sw
theorem Jid {L:List Va} (hn:(L.map (·.name)).Nodup) {k:Nat} {x:Va} (hx:L[k]?=some x):∀u∈L.take k,u.name≠x.name:=by
 intro u hu he;obtain⟨j,hj⟩:=List.getElem?_of_mem hu
 have tB:j<k:=by
  have:=(Nh hj).1;rw [List.length_take] at this;omega
 rw [List.getElem?_take,if_pos tB] at hj;have e1:(L.map (·.name))[j]?=some x.name:=by rw [List.getElem?_map,hj];simp [he]
 have e2:(L.map (·.name))[k]?=some x.name:=by rw [List.getElem?_map,hx];rfl
 obtain⟨l1,g1⟩:=Nh e1;obtain⟨l2,g2⟩:=Nh e2;have:=(List.getElem_inj hn).1 (g1.trans g2.symm);exact Ua
theorem Jiv (s:ByteArray):∀L:List Va,(Jcq L s).getD (0,⟨#[]⟩)=L.foldl (fun c v=>if s.data=v.name.data then(v.ck,v.cn) else c) (0,⟨#[]⟩):=by
 refine Jgj rfl fun L v ih=>?_
 ·rw [Jce,List.foldl_append];simp only [List.foldl_cons,List.foldl_nil]
  split
  ·exact Gd
  ·exact ih
def Jc3 (x:Ce) (d:Int×ByteArray):Prop:=x.name.toList.isEmpty=true/\K9 x.ck x.cn d.1 d.2=true
theorem Jlk (x:Ce) (d:Int×ByteArray) (hx:Jc3 x d):∀(l:List Ce) (i:Nat),(∀u∈l,¬Jc3 u d)->Jav i (l ++ [x]) d=((i+l.length:Nat):Int)
 | [],i,_=>by
  unfold Jc3 at hx;simp only [List.nil_append,Jav];rw [if_pos hx];rfl
 | u :: l,i,h=>by
  have h1:=h u Ul;unfold Jc3 at h1;rw [List.cons_append,Jav,if_neg h1,Jlk x d hx l (i+1) fun y hy=>h y F0,Nl]
  congr 1;omega
theorem Jk5 (x:Ce) (d:Int×ByteArray) (hx:¬Jc3 x d):∀(l:List Ce) (i:Nat),Jav i (l ++ [x]) d=Jav i l d
 | [],i=>by
  unfold Jc3 at hx;simp only [List.nil_append,Jav];rw [if_neg hx]
 | u :: l,i=>by
  rw [List.cons_append,Jav,Jav]
  split
  ·exact Gd
  ·exact Jk5 x d hx l (i+1)
theorem Jee (x:Ce) (d:Int×ByteArray):(x.name.toList.isEmpty=true/\d.1=x.ck/\d.2.data=x.cn.data)<->Jc3 x d:=by
 unfold Jc3;rw [Jdg]
 constructor
 ·rintro⟨h1,h2,h3⟩;exact⟨h1,h2.symm,by rw [Jxo.1 h3]⟩
 ·rintro⟨h1,h2,h3⟩;exact⟨h1,h2.symm,by rw [Jej h3]⟩
theorem Jtp (d:Int×ByteArray):∀l:List Ce,Jha l->(Jeg l d).getD 0=Kg l d:=by
 refine Jgj (fun _=>rfl) fun l x ih h=>?_;unfold Jha at h ih;rw [List.pairwise_append] at h;rw [Jef];unfold Kg at ih ⊢
 by_cases hx:Jc3 x d
 ·rw [if_pos ((Jee x d).2 hx),Jlk x d hx l 0 fun u hu hud=>?_]
  ·exact Ul
  ·have h1:=(Jee x d).2 hx;have h2:=(Jee u d).2 hud;exact h.2.2 u hu x Ul h2.1 h1.1 (Prod.ext (h2.2.1.symm.trans h1.2.1) (Jxo.1 (h2.2.2.symm.trans h1.2.2)))
 ·rw [if_neg (fun he=>hx ((Jee x d).1 he)),Jk5 x d hx];exact ih h.1
structure Juk (v:Va):Prop where
 name:v.name.size<=16
 ne:v.name.toList.isEmpty=false
 cn:v.cn.size<=16
 ck:v.ck=0\/v.ck=1\/v.ck=2
structure Jtw (q:Qe):Prop where
 name:q.name.size<=16
 ne:q.name.toList.isEmpty=false
 right:q.e.right=0
 formed:q.e.formed=true
 size:q.e.size<=120
 depth:q.e.depth<=12
 first:q.first.kind=4->∃x r,q.first.sub=x :: r
 delay:q.delay=0\/q.delay=1\/q.delay=2
 pre:q.delay=2->Jai q.first=0
structure Jay (p:Pr):Prop where
 order:(J1 p).2=(0,0,0)
 clk:Qg p=(0,0,0)
 chk:J7 p=(0,0,0)
 whole:Qw p=true
 dist:Jb4 (Je p)
 nodup:((Je p).map (·.name)).Nodup
 small:p.ins.length<=8/\p.outs.length<=8/\(Je p).length<=24/\p.eqs.length<=24
 vars:∀v∈Je p,Juk v
 eqs:∀q∈p.eqs,Jtw q
 vof:∀q∈p.eqs,∃v∈Je p,v.name=q.name/\J9 (Je p) q.name=(v.ck,v.cn)
theorem Jeb {v:Va} {b:Bool} (h:Ke v b=true):Juk v:=by
 simp only [Ke,Bool.and_eq_true] at h;have h3:=h.2;have h1:=h.1.1;refine⟨Jaf h1,Jbx h1,?_,?_⟩
 ·by_cases h0:v.ck=0
  ·rw [if_pos h0] at h3;exact Jgu (.inr h3)
  ·rw [if_neg h0] at h3
   by_cases h4:v.ck=1\/v.ck=2
   ·rw [if_pos h4,Bool.and_eq_true] at h3;exact Jaf h3.2
   ·rw [if_neg h4] at h3;simp at h3
 ·by_cases h0:v.ck=0
  ·exact .inl h0
  ·rw [if_neg h0] at h3
   by_cases h4:v.ck=1\/v.ck=2
   ·exact .inr h4
   ·rw [if_neg h4] at h3;simp at h3
theorem Jn2 {e:Ex} (h:e.literal=true) (hk:e.kind=4):∃x r,e.sub=x :: r:=by
 unfold Ex.literal at h
 split at h
 ·split at h
  ·cases hs:e.sub with
   | nil=>rw [hs] at h;simp at h
   | cons x r=>exact⟨x,r,rfl⟩
  ·rw [hk] at h;simp at h
 ·exact Lt
theorem Jns {e:Ex} (h:e.same Ex.zero=true):e.kind=0/\e.n=0:=by
 rw [Ex.same_eq] at h;simp only [Bool.and_eq_true,beq_iff_eq] at h;exact⟨h.1.1.1.1,h.1.1.1.2⟩
theorem Jv0 {q:Qe} (h:eqB q=true):Jtw q:=by
 simp only [eqB,Bool.and_eq_true,beq_iff_eq] at h;obtain⟨⟨h1,h2⟩,h3⟩:=h;obtain⟨r1,r2,r3⟩:=Ex.right_zero.1 h2;have cE:=Ex.count_size q.e 121 Ua;refine⟨Jaf h1,Jbx h1,h2,r3,Ua,r2,fun hk=>?_,?_,fun hd=>?_⟩
 ·by_cases d1:q.delay=1
  ·rw [if_pos d1] at h3;exact Jn2 h3 hk
  ·rw [if_neg d1] at h3
   split at h3
   ·have:=(Jns h3).1;rw [hk] at this;exact absurd this Ux
   ·cases h3
 ·by_cases d1:q.delay=1
  ·exact .inr (.inl d1)
  ·rw [if_neg d1] at h3
   split at h3
   ·rename_i hd;rcases hd with hd|hd
    ·exact .inl hd
    ·exact .inr (.inr hd)
   ·cases h3
 ·rw [if_neg Ua,if_pos (.inr hd)] at h3;obtain⟨h4,h5⟩:=Jns h3;unfold Jai;rw [if_neg Ua,h5]
theorem Jp3 {α:Type} : ∀(l m:List α),l.Nodup->(∀x∈l,x∈m)->l.length<=m.length
 | [],m,_,_=>Ul
 | x :: l,m,h,hs=>by
  obtain⟨a,b,hm⟩:=List.append_of_mem (hs x Ul);have hn:=List.nodup_cons.1 h
  have:=Jp3 l (a ++ b) hn.2 fun y hy=>by
   have h1:=hs y F0;rw [hm] at h1;have aS:y≠x:=fun he=>hn.1 (he ▸ hy)
   rcases List.mem_append.1 h1 with h2|h2
   ·exact List.mem_append.2 (.inl h2)
   ·rcases List.mem_cons.1 h2 with h3|h3
    ·exact absurd h3 aS
    ·exact List.mem_append.2 (.inr h3)
  rw [hm];simp only [Nk,Nl] at this ⊢;exact Ua
theorem Jgp:∀ {L:List Va},Jb4 L->(L.map (·.name)).Nodup
 | [],_=>Ul
 | v :: L,h=>by
  obtain⟨h1,h2⟩:=h.tail;rw [List.map_cons,List.nodup_cons];refine⟨fun hm=>?_,Jgp h1⟩;obtain⟨u,hu,hn⟩:=List.mem_map.1 hm;exact h2 u hu hn
theorem Jsv {l:List Qe} (h:l.Pairwise (fun a b=>a.name≠b.name)):(l.map (·.name)).Nodup:=by
 unfold List.Nodup;rw [List.pairwise_map];exact h
theorem Jvz {p:Pr} (h:J7 p=(0,0,0)):p.ins.length<=8/\p.outs.length<=8/\(Je p).length<=24:=by
 unfold J7 at h
 split at h
 ·rename_i h1;rw [Prod.mk.injEq,Prod.mk.injEq] at h;omega
 ·split at h
  ·rw [Prod.mk.injEq,Prod.mk.injEq] at h;omega
  ·exact Ua
theorem Jff {p:Pr} (h:Ks p=(0,0,0)):Jay p:=by
 have hO:=(Jsu h).1;have aN:=(Yg hO).1;have hc:=(Xk aN).1;obtain⟨jn,gG,_⟩:=Xp hc;have kD:=jn;simp only [Qw,Bool.and_eq_true,List.all_eq_true] at kD;obtain⟨ci,_,_⟩:=Jbe hc
 have xr:∀q∈p.eqs,∃v∈Je p,v.name=q.name/\J9 (Je p) q.name=(v.ck,v.cn):=fun q hq=>by
  obtain⟨v,hm,_,hn,bO,_⟩:=Ja3 aN hq;exact⟨v,hm,hn,bO⟩
 have jN:=Jvz hc
 have nn:p.eqs.length<=(Je p).length:=by
  have:=Jp3 (p.eqs.map (·.name)) ((Je p).map (·.name)) (Jsv ci) fun s hs=>by
   obtain⟨q,hq,rfl⟩:=List.mem_map.1 hs;obtain⟨v,hv,hn,_⟩:=xr q hq;exact List.mem_map.2 ⟨v,hv,hn⟩
  simpa using this
 refine⟨hO,aN,hc,jn,gG,Jgp gG,⟨jN.1,jN.2.1,jN.2.2,Ua⟩,fun v hv=>?_,fun q hq=>Jv0 (kD.2 q hq),xr⟩;simp only [Je,List.mem_append] at hv
 rcases hv with (hv|hv)|hv
 ·exact Jeb (kD.1.1.1.2 v hv)
 ·exact Jeb (kD.1.1.2 v hv)
 ·exact Jeb (kD.1.2 v hv)
theorem Jay.clock {p:Pr} (h:Jay p) {q:Qe} (hq:q∈p.eqs):(J9 (Je p) q.name).2.size<=16/\((J9 (Je p) q.name).1=0\/(J9 (Je p) q.name).1=1\/(J9 (Je p) q.name).1=2):=by
 obtain⟨v,hv,_,bO⟩:=h.vof q hq;rw [bO];exact⟨(h.vars v hv).cn,(h.vars v hv).ck⟩
theorem Z4 {l:List Qe} {q:Qe} (h:q∈J0 l):q∈l/\q.delay≠0:=by
 unfold J0 at h;rw [List.mem_filter] at h;exact⟨h.1,by simpa using h.2⟩
theorem Ja4 (l:List Qe):(J0 l).length<=l.length:=List.length_filter_le _ _
theorem Joj (L:List Va):(X3 L).length=1+2 * L.length:=by
 unfold X3;rw [Nl]
 induction L with
 | nil=>simp
 | cons v L ih=>rw [List.flatMap_cons,Nk,Nl,Nl,Nl];simp only [Nm];omega
theorem Jj0 (m l:List (Int×ByteArray)):(Kaq m l).length<=l.length:=by
 unfold Kaq;rw [List.length_map];exact List.length_filter_le _ _
theorem Jxu {p:Pr} (h:Jay p) {c:Int×ByteArray} (hc:c∈X3 (Je p)):(c.1=0\/c.1=1\/c.1=2)/\c.2.size<=16:=by
 unfold X3 at hc
 rcases List.mem_cons.1 hc with rfl|hc
 ·exact⟨.inl rfl,by show 0<=16;omega⟩
 ·obtain⟨v,hv,h2⟩:=Jfn.1 hc
  rcases h2 with rfl|rfl
  ·exact⟨.inr (.inl rfl),(h.vars v hv).name⟩
  ·exact⟨.inr (.inr rfl),(h.vars v hv).name⟩
theorem Jay.cells {p:Pr} (h:Jay p) {c:Ce} (hc:c∈Jq p):(c.ck=0\/c.ck=1\/c.ck=2)/\c.cn.size<=16/\c.name.size<=16:=by
 unfold Jq at hc
 rcases List.mem_append.1 hc with hc|hc
 ·obtain⟨q,hq,rfl⟩:=List.mem_map.1 hc;have je:=(Z4 hq).1;have:=h.clock je;exact⟨this.2,this.1,(h.eqs q je).name⟩
 ·unfold Kaq at hc;obtain⟨d,hd,rfl⟩:=List.mem_map.1 hc;have:=Jxu h (List.mem_filter.1 hd).1;exact⟨this.1,this.2,by show 0<=16;omega⟩
theorem Jay.flags {p:Pr} (h:Jay p):Jha (Jq p):=Jo1 h.dist fun q hq=>(h.eqs q hq).ne
theorem Jay.codes {p:Pr} (h:Jay p) (q:Qe) (hq:q∈p.eqs) (sl:ByteArray->Int) (fl:Int×ByteArray->Int) (c:Int×ByteArray):(q.e.gen sl fl c).length<=360:=by
 have:=Ex.gen_len sl fl q.e c;have:=(h.eqs q hq).size;exact Ua
end Go.Proofs.YtknfcamdfdfoeaaGreatDoor
namespace Go.Proofs.YtknfcamdfdfoeaaGreatDoor
open Go.RowKit Go.Sort Go.Maps Go.ChangeMaps Go.WideMaps
section
variable {P:Program} {k e:TypeId} {q:IntKind} {K:Type} {ok:K->Prop} {kv:K->Value} {kl:K->Lit} {w:World}
theorem Jcb (ks:Jer P k ok kv kl) {t:TypeId} (ht:P.underlying t=some (.map k e)) (he:P.underlying e=some (.int q)) (hz:(zeroValue e).run P w = .ok (.int q 0) w)
  {b n:Nat} {f:K->Option Int} {c:Nat} {s:K} {x:Value} (hx:x=kv s) (ae:Q3 P k e q ok kl w b n f c) (hs:ok s) {r:Int} (hr:(f s).getD 0=r):(Instr.lookup t (.map (some b)) x false).run P w = .ok (.int q r) w:=by
 subst hx;obtain⟨D,h1,h2,_,h3⟩:=ae;obtain⟨c,eH,aY,lD⟩:=h1.lookup_int ks.keyed ht he hz (ks.read s hs);rw [(h3 s hs).2] at aY;have hc:(f s).getD 0=c:=by injection aY with aY;injection aY
 rw [eH,<-hc,hr]
end
theorem Q3.drew {P:Program} {k e:TypeId} {q:IntKind} {K:Type} {ok:K->Prop} {kl:K->Lit} {w:World} {b n c:Nat} {f:K->Option Int} (h:Q3 P k e q ok kl w b n f c):Q3 P k e q ok kl w.drew b n f c:=h.bel (Jh (Nt))
structure Jld (R:Value->Option (DataW Unit×List MemPlace)) {V:Type} (okv:V->Prop) (vv:V->Value) (vl:V->Lit):Prop where
 read:∀v,okv v->R (vv v)=some (.lit (vl v),[])
 back:∀x v ps,okv v->R x=some (.lit (vl v),ps)->x=vv v
def Qd (P:Program) (k:TypeId) (R:Value->Option (DataW Unit×List MemPlace)) {K V:Type} (ok:K->Prop) (kl:K->Lit) (okv:V->Prop) (vl:V->Lit) (z:V) (w:World) (b n:Nat) (f:K->Option V) (c:Nat):Prop:=
 ∃D:DataW Unit,w.ownsMap P k R b n D/\Maps.Tidy D/\Maps.size D=c/\
  ∀x,ok x->(Maps.has D (kl x)=(f x).isSome/\D.atKey (kl x) (.lit (vl z)) = .lit (vl ((f x).getD z)))/\okv ((f x).getD z)
section
variable {P:Program} {k e:TypeId} {R:Value->Option (DataW Unit×List MemPlace)} {K V:Type} {ok:K->Prop} {kv:K->Value} {kl:K->Lit} {okv:V->Prop} {vv:V->Value} {vl:V->Lit} {z:V} {w w':World} {b n c:Nat} {f:K->Option V}
theorem Qd.made (hz:okv z) (w:World):Qd P k R ok kl okv vl z (w.alloc (.map #[] 0)) w.heap.size 0 (fun _=>none) 0:=
 ⟨.map [],World.ownsMap_made w P k _,Maps.tidy_empty,rfl,fun x _=>⟨⟨rfl,rfl⟩,hz⟩⟩
theorem Qd.lt (h:Qd P k R ok kl okv vl z w b n f c):b<w.heap.size:=by
 obtain⟨D,h1,_⟩:=h;exact h1.lt
theorem Qd.keep1 (h:Qd P k R ok kl okv vl z w b n f c) (hb:w'.heap[b]?=w.heap[b]?):Qd P k R ok kl okv vl z w' b n f c:=by
 exact Uc4
theorem Qd.bel (h:Qd P k R ok kl okv vl z w b n f c) (hb:Below w.heap.size w w'):Qd P k R ok kl okv vl z w' b n f c:=h.keep1 (hb.block b h.lt)
theorem Qd.drew (h:Qd P k R ok kl okv vl z w b n f c):Qd P k R ok kl okv vl z w.drew b n f c:=h.bel (Jh (Nt))
theorem Qd.more (h:Qd P k R ok kl okv vl z w b n f c) {m:Nat} (hm:n<=m):Qd P k R ok kl okv vl z w b m f c:=by
 obtain⟨D,h1,h2⟩:=h;exact⟨D,h1.mono hm,h2⟩
theorem Qd.same (h:Qd P k R ok kl okv vl z w b n f c) {g:K->Option V} (hg:∀x,ok x->g x=f x):Qd P k R ok kl okv vl z w b n g c:=by
 obtain⟨D,h1,h2,h3,h4⟩:=h;exact⟨D,h1,h2,h3,fun x hx=>by rw [hg x hx];exact h4 x hx⟩
theorem Ji1 (ks:Jer P k ok kv kl) (vs:Jld R okv vv vl) {t:TypeId} (ht:P.underlying t=some (.map k e)) (hz:(zeroValue e).run P w = .ok (vv z) w) (jB:okv z)
  {s:K} {x:Value} (hx:x=kv s) (ae:Qd P k R ok kl okv vl z w b n f c) (hs:ok s) {r:V} (hr:(f s).getD z=r):(Instr.lookup t (.map (some b)) x false).run P w = .ok (vv r) w:=by
 subst hx;obtain⟨D,h1,h2,_,h3⟩:=ae;obtain⟨v,ps,eH,hv⟩:=h1.lookup ks.keyed ht hz (vs.read z jB) (ks.read s hs);rw [(h3 s hs).1.2] at hv;rw [eH,vs.back v _ ps (h3 s hs).2 hv,hr]
theorem Qd.laid (ks:Jer P k ok kv kl) {D:DataW Unit} {s:K} (hs:ok s) {v:V} (hv:okv v) {m:Nat} (h2:Maps.Tidy D)
  (h3:Maps.size D=c) (h4:∀x,ok x->(Maps.has D (kl x)=(f x).isSome/\D.atKey (kl x) (.lit (vl z)) = .lit (vl ((f x).getD z)))/\okv ((f x).getD z))
  {f':K->Option V} (db:f' s=some v) (gO:∀y,ok y->y≠s->f' y=f y) (h5:w'.ownsMap P k R b m (D.put (kl s) (.lit (vl v)))):Qd P k R ok kl okv vl z w' b m f' (if (f s).isSome then c else c+1):=by
 have fR:WideAt.IsKeyLit (kl s):=ks.keyed.key (ks.read s hs);refine⟨_,h5,h2.put fR _,by rw [Maps.size_put h2,(h4 s hs).1.1,h3],fun y hy=>?_⟩
 by_cases oJ:y=s
 ·subst oJ;rw [has_put_same h2.isMap fR,atKey_put_same h2.isMap fR,db];exact⟨⟨rfl,rfl⟩,hv⟩
 ·have aS:kl y≠kl s:=fun h=>oJ (ks.inj y s hy hs h);rw [has_put_other aS,atKey_put_other aS,(h4 y hy).1.1,(h4 y hy).1.2,gO y hy oJ];exact⟨⟨rfl,rfl⟩,(h4 y hy).2⟩
theorem Qd.entry (ks:Jer P k ok kv kl) (kd:KeyLaw P k) (vs:Jld R okv vv vl) {t:TypeId} (ht:P.underlying t=some (.map k e)) (hz:∀u:World,(zeroValue e).run P u = .ok (vv z) u)
  {s:K} (ae:Qd P k R ok kl okv vl z w b n f c) (hs:ok s) (hn:n<1000000000) :
  ∃v0 st w1,(Instr.mapEntry t (.map (some b)) (kv s)).run P w = .ok (.tuple #[v0,st]) w1/\w.grownBy w1 (some b)/\w1.heap.size=w.heap.size/\
   ∀w2:World,w2.heap[b]?=w1.heap[b]?->∀v,okv v->∀f':K->Option V,f' s=some v->(∀y,ok y->y≠s->f' y=f y)->
    ∃w3,(Instr.entryStore t (.map (some b)) st (vv v)).run P w2 = .ok () w3/\Qd P k R ok kl okv vl z w3 b (n+1) f' (if (f s).isSome then c else c+1)/\w2.grownBy w3 (some b)/\w3.heap.size=w2.heap.size:=by
 obtain⟨D,h1,h2,h3,h4⟩:=ae;obtain⟨es,clock,hb,F,cE,hD⟩:=id h1;obtain⟨v0,st,es1,clock1,eH,_,cP⟩:=WideElems.entry_then_store kd ht hz hb F (ks.read s hs);refine⟨v0,goInt st,_,eH,⟨rfl,rfl,rfl,D3,fun i _ hi=>heap_setBlock_other hb _ (fun e=>hi (by rw [e]))⟩,D3,fun w2 sh v hv f' db gO=>?_⟩;rw [heap_setBlock_same hb] at sh;obtain⟨es',clock',fF,fa⟩:=cP w2 (vv v) sh;obtain⟨w',hu,h5,h6⟩:=h1.update ks.keyed ht U2 (ks.read s hs) (vs.read v hv);rw [fa] at hu;injection hu with _ hu;subst hu;refine⟨_,fF,(Qd.laid ks hs hv h2 h3 h4 db gO h5).keep1 ?_,⟨rfl,rfl,rfl,D3,fun i _ hi=>heap_setBlock_other sh _ (fun e=>hi (by rw [e]))⟩,D3⟩;rw [heap_setBlock_same sh,heap_setBlock_same hb]
end
theorem Jvi {P:Program} {e:TypeId} {q:IntKind} (he:P.underlying e=some (.int q)):Jld (plainElem P e) (fun i:Int=>(Lit.int q i).wf=true) (fun i=> .int q i) (fun i=> .int q i):=
 ⟨fun v hv=>plainElem_int he hv,fun x v ps hv h=>by
  obtain⟨a,rfl,h2,_⟩:=plainElem_int_inv he h;simp only [Prod.mk.injEq,DataW.lit.injEq,Lit.int.injEq,true_and] at h2;rw [h2.1]⟩
noncomputable def clkR (x:Value):Option (DataW Unit×List MemPlace):=by
 classical
 exact if h:∃c:Int×ByteArray,okC c/\x=kvC c then some (.lit (klC h.choose),[]) else none
theorem Jgn:Jld clkR okC kvC klC:=
 ⟨fun v hv=>by
  have h:∃c:Int×ByteArray,okC c/\kvC v=kvC c:=⟨v,hv,rfl⟩;unfold clkR;rw [dif_pos h];have h2:=h.choose_spec;generalize h.choose=c at h2 ⊢;obtain⟨_,h2⟩:=h2;unfold kvC at h2;injection h2 with h2;injection h2 with h2;injection h2 with h3 h4;injection h3 with _ h3;injection h4 with h4;injection h4 with h4;have:v=c:=Prod.ext h3 h4;rw [this],fun x v ps hv hx=>by
  unfold clkR at hx
  split at hx
  ·rename_i h;have h2:=h.choose_spec;simp at hx;rw [h2.2,Jrm h2.1 hv hx.1]
  ·cases hx⟩
end Go.Proofs.YtknfcamdfdfoeaaGreatDoor
namespace Go.Proofs.YtknfcamdfdfoeaaGreatDoor
open Go.RowKit Go.Sort Go.Maps Go.ChangeMaps Go.WideMaps Go.WideElems
theorem Jv6 {P:Program} {k:TypeId} (K:KeyLaw P k) {x:Value} {lx:Lit} (hx:keyOf P k x=some lx) (es:List MapEntry) (hk:∀e∈es,∃l,keyOf P k e.key=some l) (hn:(es.map (·.key)).Nodup) :
  (∀w:World,(Instr.findKey k x es).run P w = .ok none w)\/∃j e,(∀w:World,(Instr.findKey k x es).run P w = .ok (some (j,e.val)) w)/\es[j]?=some e/\e.key=x:=by
 by_cases h:∃e∈es,e.key=x
 ·obtain⟨e,he,xn⟩:=h;obtain⟨j,hj⟩:=List.getElem?_of_mem he;refine .inr ⟨j,e,fun w=>?_,hj,xn⟩
  rcases K.find w hx es hk with ⟨_,h2⟩|⟨j',e',h1,h2,h3⟩
  ·exact absurd xn (h2 e he)
  ·have e1:(es.map (·.key))[j]?=some x:=by rw [List.getElem?_map,hj];simp [xn]
   have e2:(es.map (·.key))[j']?=some x:=by rw [List.getElem?_map,h2];simp [h3]
   obtain⟨l1,g1⟩:=Nh e1;obtain⟨l2,g2⟩:=Nh e2;have:j=j':=(List.getElem_inj hn).1 (g1.trans g2.symm);subst this;rw [hj] at h2;injection h2 with h2;rw [h1,h2]
 ·refine .inl fun w=>?_
  rcases K.find w hx es hk with ⟨h1,_⟩|⟨j',e',_,h2,h3⟩
  ·exact h1
  ·exact absurd ⟨e',Ni h2,h3⟩ h
theorem Jt9 {P:Program} {t k e:TypeId} {R:Value->Option (DataW Unit×List MemPlace)} {b:Nat} {es:Array MapEntry} {clock:Nat} (K:KeyLaw P k) (ht:P.underlying t=some (.map k e)) {z:Value} (hz:∀u:World,(zeroValue e).run P u = .ok z u) (F:Fit P k R es clock)
  {key:Value} {kl:Lit} (rg:keyOf P k key=some kl):∃(v0:Value) (st:Nat) (es1:Array MapEntry) (clock1:Nat),∀W:World,W.heap[b]?=some (.map es clock)->
   (Instr.mapEntry t (.map (some b)) key).run P W = .ok (.tuple #[v0,goInt st]) (setBlock W b (.map es1 clock1)):=by
 rcases Jv6 K rg es.toList F.keys F.stamped.2.2 with h1|⟨j,e0,h1,h2,h3⟩
 ·exact⟨z,clock,es.push ⟨key,z,clock⟩,clock+1,fun W hb=>by
   simp [Instr.mapEntry,run_underlying ht,MapKept.run_getObj_map hb,K.check W false rg,h1,hz,MapKept.run_setObj_map _ hb,Result.andThen,setBlock]⟩
 ·have hj:es[j]?=some e0:=Lg
  have bF:es.modify j (fun e=>{e with key:=key})=es:=by
   apply Array.ext';rw [Array.toList_modify,modify_eq_set _ _ _ _ h2];have:({e0 with key:=key} : MapEntry)=e0:=by rw [<-h3]
   rw [this];exact set_self _ _ _ h2
  exact⟨e0.val,e0.born,es,clock,fun W hb=>by
   simp [Instr.mapEntry,run_underlying ht,MapKept.run_getObj_map hb,K.check W false rg,h1,hj,h3,K.stays W rg,bF,MapKept.run_setObj_map _ hb,Result.andThen,setBlock]⟩
section
variable {P:Program} {k e:TypeId} {R:Value->Option (DataW Unit×List MemPlace)} {K V:Type} {ok:K->Prop} {kv:K->Value} {kl:K->Lit} {okv:V->Prop} {vv:V->Value} {vl:V->Lit} {z:V} {w:World} {b n c:Nat} {f:K->Option V}
theorem Qd.steps (ks:Jer P k ok kv kl) (kd:KeyLaw P k) (vs:Jld R okv vv vl) {t:TypeId} (ht:P.underlying t=some (.map k e)) (hz:∀u:World,(zeroValue e).run P u = .ok (vv z) u)
  {s:K} (ae:Qd P k R ok kl okv vl z w b n f c) (hs:ok s) (hn:n<1000000000) {v:V} (hv:okv v) :
  ∃v0 st o0 o1 o2,w.heap[b]?=some o0/\(∀W:World,W.heap[b]?=some o0->(Instr.mapEntry t (.map (some b)) (kv s)).run P W = .ok (.tuple #[v0,.int .i64 st]) (setBlock W b o1))/\
   (∀W:World,W.heap[b]?=some o1->(Instr.entryStore t (.map (some b)) (.int .i64 st) (vv v)).run P W = .ok () (setBlock W b o2))/\
   (∀W:World,W.heap[b]?=some o0->(Instr.mapUpdate t (.map (some b)) (kv s) (vv v)).run P W = .ok () (setBlock W b o2))/\
   ∀W:World,W.heap[b]?=some o2->∀f':K->Option V,f' s=some v->(∀y,ok y->y≠s->f' y=f y)->Qd P k R ok kl okv vl z W b (n+1) f' (if (f s).isSome then c else c+1):=by
 obtain⟨D,h1,h2,h3,h4⟩:=ae;obtain⟨es,clock,hb,F,cE,hD⟩:=id h1;obtain⟨v0,st,es1,clock1,eH⟩:=Jt9 (b:=b) kd ht hz F (ks.read s hs);obtain⟨v0',st',es1',clock1',si,_,cP⟩:=WideElems.entry_then_store kd ht hz hb F (ks.read s hs);rw [eH w hb] at si;injection si with e1 e2
 have e3:(.map es1 clock1:Obj) = .map es1' clock1':=by
  have h5:=heap_setBlock_same hb (.map es1 clock1);rw [e2,heap_setBlock_same hb] at h5;injection h5 with h5;exact h5.symm
 injection e1 with e1;injection e1 with e1;injection e1 with e4 e5;injection e5 with e5;rw [<-e5,<-e3] at cP;obtain⟨w',hu,h5,h6⟩:=h1.update ks.keyed ht U2 (ks.read s hs) (vs.read v hv);obtain⟨es2,clock2,_,fa⟩:=cP (setBlock w b (.map es1 clock1)) (vv v) (heap_setBlock_same hb _)
 have oK:∀W:World,W.heap[b]?=some (.map es1 clock1)->(Instr.entryStore t (.map (some b)) (.int .i64 st) (vv v)).run P W = .ok () (setBlock W b (.map es2 clock2)):=fun W hW=>by
  obtain⟨es3,clock3,hr3,sj⟩:=cP W (vv v) hW;rw [fa] at sj;injection sj with _ sj;have h7:=heap_setBlock_same hb (.map es2 clock2);rw [sj,heap_setBlock_same hb] at h7;injection h7 with h7;rw [<-h7];exact hr3
 refine⟨v0,st,.map es clock,.map es1 clock1,.map es2 clock2,hb,eH,oK,fun W hW=>?_,fun W hW f' db gO=>?_⟩
 ·obtain⟨v8,st8,es8,clock8,sk,_,xu⟩:=WideElems.entry_then_store kd ht hz hW F (ks.read s hs);rw [eH W hW] at sk;injection sk with a1 a2
  have a3:(.map es1 clock1:Obj) = .map es8 clock8:=by
   have h5:=heap_setBlock_same hW (.map es1 clock1);rw [a2,heap_setBlock_same hW] at h5;injection h5 with h5;exact h5.symm
  injection a1 with a1;injection a1 with a1;injection a1 with a4 a5;injection a5 with a5;rw [<-a5,<-a3] at xu;obtain⟨es9,clock9,b1,b2⟩:=xu (setBlock W b (.map es1 clock1)) (vv v) (heap_setBlock_same hW _);have b3:=oK (setBlock W b (.map es1 clock1)) (heap_setBlock_same hW _);rw [show(goInt st:Value) = .int .i64 st from rfl] at b1;rw [b1] at b3;injection b3 with _ b3;have b4:=heap_setBlock_same (heap_setBlock_same hW (.map es1 clock1)) (.map es9 clock9);rw [b3,heap_setBlock_same (heap_setBlock_same hW (.map es1 clock1))] at b4;injection b4 with b4;rw [b2,b4]
 ·rw [fa] at hu;injection hu with _ hu;subst hu;exact(Qd.laid ks hs hv h2 h3 h4 db gO h5).keep1 (by rw [hW,heap_setBlock_same hb])
end
end Go.Proofs.YtknfcamdfdfoeaaGreatDoor
namespace Go.Proofs.YtknfcamdfdfoeaaGreatDoor
open Go.RowKit Go.Sort
def X9 (w:World) (l:List (Int×Int)) (r:Ending) (w':World):Prop:=(∃v,r = .returned v/\w'.ownsRow w.heap.size 59 2 v l.length (cdC l))/\Below w.heap.size w w'
theorem Jak (op n:Int) (w:World):Calls Tryz.prog 21 #[.int .i64 op,.int .i32 n] w fun r w'=>(r = .returned (.slice (some ⟨w.heap.size,0,none⟩) 1 1)/\w'.ownsRow w.heap.size 59 2 (.slice (some ⟨w.heap.size,0,none⟩) 1 1) 1 (cdC [(op,n)]))/\Below w.heap.size w w':=by
 go_enter Tryz.func21,Tryz.ntmps21
 go_wp2_with fail
 go_ret;refine⟨⟨rfl,?_⟩,Jb⟩;exact⟨rfl,.inr ⟨w.heap.size,1,#[.int .i64 op,.int .i32 n],rfl,Ns _,heap_alloc_new w _,Ns _,U2,rfl,rfl⟩⟩
theorem Jc0 (ps:List Jbv) (A:Option Addr) (cap:Nat) (w:World) (hp:Je1 w ps A) (hl:(Qu ps).length<=1000000) (h1:ps.length<=1000000) :
  Calls Tryz.prog 20 #[.slice A ps.length cap] w (X9 w (Qu ps)):=by
 unfold X9
 go_enter Tryz.func20,Tryz.ntmps20
 go_wp2_with fail
 go_loopw [3,8] (fun v i wr=>∃(k:Nat),k<=ps.length/\i = .int .i64 k/\wr.ownsRow w.heap.size 59 2 v (Qu (ps.take k)).length (cdC (Qu (ps.take k)))/\Below w.heap.size w wr) (fun _ i _=>ps.length-(intOf i).toNat)
 case atStart=>exact⟨0,Np,rfl,Nw,Nt⟩
 case round=>
  obtain⟨k,hk,rfl,ae,ab⟩:=hrel
  by_cases am:k<ps.length
  ·obtain⟨x,hx⟩:∃x,ps[k]?=some x:=⟨_,Ng am⟩;obtain⟨b,off,rfl,hc⟩:=(hp.later ab).1 Ua;have c0:=hc k x hx;have jT:=(hp.later ab).2 x (Ni hx);have aP:=Js3 hx;have gM:=@Jnv ps k;have tI:=@Jnv ps (k+1);rw [aP,Nk] at tI;obtain⟨xl,xA,xc⟩:=x;unfold Jbv.val at c0;dsimp only at *;have hz:=ab.size;have eZ:=Nf aP;clear aP;clear hc hx
   go_wp2_with (first|(at_builtin;go_loud (refine K6 rfl (.tmp 12) (.tmp 13) 29 rfl w.heap.size 59 _ 2 16 Tryz.underlying29 Qz rfl Ua _ (Qu (ps.take k)).length (cdC (Qu (ps.take k))) xA xl.length xc (cdC xl) rfl ae rfl jT.2.2 (Q2 _) Ua Ua Ua ?_;intro v2 w2 ao aq)))
   go_roundw
   case rel=>exact⟨k+1,Ua,Up,by rw [eZ.out,Jbr,Nk];exact ao,ab.trans aq⟩
   case measure=>simp [intOf];omega
  ·obtain rfl:k=ps.length:=Ua;rw [List.take_length] at ae
   go_wp2_with fail
   go_ret;exact⟨⟨_,rfl,ae⟩,ab⟩
end Go.Proofs.YtknfcamdfdfoeaaGreatDoor
namespace Go.Proofs.YtknfcamdfdfoeaaGreatDoor
open Go.RowKit Go.Sort Go.Maps
theorem Jky (n:Nat) (h:n<=1000000):IntKind.i32.wrap (n:Int)=(n:Int):=Jbn Vh
theorem Jqp (n:Nat) (h:n<=1000000):IntKind.i32.wrap ((n:Int)+1)=(n:Int)+1:=Jbn Vh
theorem J3.one {w:World} {base g:Nat} {x:Int×Int} (h:w.ownsRow base 59 2 (.slice (some ⟨g,0,none⟩) 1 1) 1 (cdC [x])):J3 w [x] (some ⟨g,0,none⟩) 1:=by
 obtain⟨A,cap,hv,aY⟩:=J3.of_own (l:=[x]) h;injection hv with e1 e2 e3;subst e1 e3;exact aY
theorem X9.less {w w2:World} {l:List (Int×Int)} {r:Ending} {w':World} (h:X9 w2 l r w') (hb:Below w.heap.size w w2):X9 w l r w':=by
 obtain⟨⟨v,hr,ae⟩,aq⟩:=h;exact⟨⟨v,hr,K8 ae hb.size⟩,Jd hb aq⟩
theorem Jan {w:World} {ps:List Jbv} {c:Array Value} {t:TypeId} (hc:c=(ps.map Jbv.val).toArray) (hi:∀x∈ps,J3 w x.l x.A x.cap):Je1 (w.alloc (.cells c t)) ps (some ⟨w.heap.size,0,none⟩):=by
 refine⟨fun _=>⟨w.heap.size,0,rfl,fun k x hk=>?_⟩,fun x hx=>(hi x hx).later (Jc (Nt) _)⟩;rw [Nat.zero_add,Kw,hc,List.getElem?_toArray,List.getElem?_map,hk];exact Gd
theorem Jg5 (v a b:List (Int×Int)) (A1:Option Addr) (c1:Nat) (A2:Option Addr) (c2:Nat) (A3:Option Addr) (c3:Nat) (w:World) (h1:J3 w v A1 c1) (h2:J3 w a A2 c2) (h3:J3 w b A3 c3) (hl:v.length+a.length+b.length<=900000) :
  Calls Tryz.prog 44 #[.slice A1 v.length c1,.slice A2 a.length c2,.slice A3 b.length c3] w (X9 w (Yv v a b)):=by
 have t1:=Jqp a.length Ua;have t2:=Jky b.length Ua;have l2:=h2.1;have l3:=h3.1;have m2:=h2.2.1;have m3:=h3.2.1;unfold maxLen at m2 m3
 have ay:=fun(g1 g2:Nat) (W:World) (hb:Below w.heap.size w W) (dN:J3 W [(11,(a.length:Int)+1)] (some ⟨g1,0,none⟩) 1) (dR:J3 W [(10,(b.length:Int))] (some ⟨g2,0,none⟩) 1) (t:TypeId)=>
  Jc0 [⟨v,A1,c1⟩,⟨[(11,(a.length:Int)+1)],some ⟨g1,0,none⟩,1⟩,⟨a,A2,c2⟩,⟨[(10,(b.length:Int))],some ⟨g2,0,none⟩,1⟩,⟨b,A3,c3⟩] (some ⟨W.heap.size,0,none⟩) 5
   (W.alloc (.cells #[.slice A1 v.length c1,.slice (some ⟨g1,0,none⟩) 1 1,.slice A2 a.length c2,.slice (some ⟨g2,0,none⟩) 1 1,.slice A3 b.length c3] t))
   (Jan rfl fun x hx=>by
    simp only [List.mem_cons,List.not_mem_nil,or_false] at hx
    rcases hx with rfl|rfl|rfl|rfl|rfl
    ·exact h1.later hb
    ·exact dN
    ·exact h2.later hb
    ·exact dR
    ·exact h3.later hb)
   Gj Ul
 have gM:∀g1 g2:Nat,Qu [⟨v,A1,c1⟩,⟨[(11,(a.length:Int)+1)],some ⟨g1,0,none⟩,1⟩,⟨a,A2,c2⟩,⟨[(10,(b.length:Int))],some ⟨g2,0,none⟩,1⟩,⟨b,A3,c3⟩]=Yv v a b:=fun g1 g2=>by simp [Qu,Yv]
 simp only [gM] at ay;have jZ:=Nf ay;clear ay gM h1 h2 h3
 go_enter Tryz.func44,Tryz.ntmps44
 go_wp2_with (first
  | (go_at_call_of 21 (Value.int IntKind.i64 11);go_loud (refine(Jak _ _ _).mono ?_;rintro r w1 ⟨⟨rfl,ba⟩,ac⟩;have dN:=J3.one ba;have af:=ac.size;clear ba))
  | (go_at_call_of 21 (Value.int IntKind.i64 10);go_loud (refine(Jak _ _ _).mono ?_;rintro r w2 ⟨⟨rfl,ao⟩,aq⟩;have dR:=J3.one ao;have br:=aq.size;clear ao))
  | (go_at_call 20;go_loud (refine(jZ.out w.heap.size w1.heap.size w2 Jb (dN.later Jb) dR _).mono ?_;rintro r w4 ⟨⟨v4,rfl,cj⟩,ei⟩)))
 go_ret;exact⟨⟨_,rfl,K8 cj Uj⟩,Jb⟩
def Jci (w:World) (l:List (Int×Int)) (r:Ending) (w':World):Prop:=(∃A cap,r = .returned (.slice A l.length cap)/\J3 w' l A cap)/\Below w.heap.size w w'
theorem X9.at {w:World} {l:List (Int×Int)} {r:Ending} {w':World} (h:X9 w l r w'):Jci w l r w':=by
 obtain⟨⟨v,hr,ae⟩,hb⟩:=h;obtain⟨A,cap,rfl,aY⟩:=J3.of_own ae;exact⟨⟨A,cap,hr,aY⟩,hb⟩
theorem Jci.less {w w2:World} {l:List (Int×Int)} {r:Ending} {w':World} (h:Jci w2 l r w') (hb:Below w.heap.size w w2):Jci w l r w':=⟨h.1,Jd hb h.2⟩
structure Jb1 (W:World) (X Bs Bf:Nat) (sl:ByteArray->Int) (fl:Int×ByteArray->Int):Prop where
 c0:W.cell? ⟨X,0,none⟩=some (.map (some Bs))
 c2:W.cell? ⟨X,2,none⟩=some (.map (some Bf))
 slots:∃n f c,Q3 Tryz.prog 9 21 .i32 okS klS W Bs n f c/\∀s,okS s->(f s).getD 0=sl s
 flags:∃n f c,Q3 Tryz.prog 55 21 .i32 okC klC W Bf n f c/\∀s,okC s->(f s).getD 0=fl s
theorem Jb1.later {W W':World} {X Bs Bf:Nat} {sl:ByteArray->Int} {fl:Int×ByteArray->Int} (h:Jb1 W X Bs Bf sl fl) (hb:Below W.heap.size W W'):Jb1 W' X Bs Bf sl fl:=by
 obtain⟨c0,c2,⟨n,f,c,hm,hf⟩,⟨n',f',c',yp,hf'⟩⟩:=h;exact⟨Ja hb c0,Ja hb c2,⟨n,f,c,hm.bel hb,hf⟩,⟨n',f',c',yp.bel hb,hf'⟩⟩
theorem Jbp (w:World):(zeroValue 21).run Tryz.prog w = .ok (.int .i32 0) w:=Ug
theorem Kal (w:World) (k:Int) (cs:ByteArray):(w.alloc (.cells #[.int .i64 k,.string cs] 55)).drew.cell? ⟨w.heap.size,0,none⟩=some (.int .i64 k):=by
 exact Uq
theorem Jh7 (X Bs Bf:Nat) (sl:ByteArray->Int) (fl:Int×ByteArray->Int) (ck:Int) (cs:ByteArray) (l:List (Int×Int)) (A:Option Addr) (cap:Nat) (w:World) (hp:Jb1 w X Bs Bf sl fl) (hc:okC (ck,cs)) (hk:ck=0\/ck=1\/ck=2) (hl:J3 w l A cap) (ai:l.length<=900000) :
  Calls Tryz.prog 22 #[.pointer (some ⟨X,0,none⟩),.agg #[.int .i64 ck,.string cs],.slice A l.length cap] w (Jci w (Qk sl (ck,cs) l)):=by
 obtain⟨c0,c2,⟨n,f,c,hm,hf⟩,_⟩:=hp;have dj:okS cs:=hc.2;have eB:=hf cs dj;have hX:X<w.heap.size:=Nu c0;have t1:=Jky l.length Ua;have l2:=hl.1;have m2:=hl.2.1;unfold maxLen at m2;have HF:=Nf eB;have HM:=Nf hm
 have sD:=(fun(g1 g2:Nat) (W:World) (hb:Below w.heap.size w W) (dN:J3 W [(2,sl cs)] (some ⟨g1,0,none⟩) 1) (dR:J3 W [(11,(l.length:Int))] (some ⟨g2,0,none⟩) 1) (t:TypeId)=>
  Jc0 [⟨[(2,sl cs)],some ⟨g1,0,none⟩,1⟩,⟨[(11,(l.length:Int))],some ⟨g2,0,none⟩,1⟩,⟨l,A,cap⟩] (some ⟨W.heap.size,0,none⟩) 3
   (W.alloc (.cells #[.slice (some ⟨g1,0,none⟩) 1 1,.slice (some ⟨g2,0,none⟩) 1 1,.slice A l.length cap] t))
   (Jan rfl fun x hx=>by
    simp only [List.mem_cons,List.not_mem_nil,or_false] at hx
    rcases hx with rfl|rfl|rfl
    ·exact dN
    ·exact dR
    ·exact hl.later hb)
   Gj Ul)
 have sE:=(fun(g1 g2 g3:Nat) (W:World) (hb:Below w.heap.size w W) (dN:J3 W [(2,sl cs)] (some ⟨g1,0,none⟩) 1) (dR:J3 W [(11,(l.length:Int))] (some ⟨g2,0,none⟩) 1) (iI:J3 W [(8,2)] (some ⟨g3,0,none⟩) 1) (t:TypeId)=>
  Jc0 [⟨[(2,sl cs)],some ⟨g1,0,none⟩,1⟩,⟨[(8,2)],some ⟨g3,0,none⟩,1⟩,⟨[(11,(l.length:Int))],some ⟨g2,0,none⟩,1⟩,⟨l,A,cap⟩] (some ⟨W.heap.size,0,none⟩) 4
   (W.alloc (.cells #[.slice (some ⟨g1,0,none⟩) 1 1,.slice (some ⟨g3,0,none⟩) 1 1,.slice (some ⟨g2,0,none⟩) 1 1,.slice A l.length cap] t))
   (Jan rfl fun x hx=>by
    simp only [List.mem_cons,List.not_mem_nil,or_false] at hx
    rcases hx with rfl|rfl|rfl|rfl
    ·exact dN
    ·exact iI
    ·exact dR
    ·exact hl.later hb)
   Gj Ul)
 have rt:∀g1 g2:Nat,Qu [⟨[(2,sl cs)],some ⟨g1,0,none⟩,1⟩,⟨[(11,(l.length:Int))],some ⟨g2,0,none⟩,1⟩,⟨l,A,cap⟩]=Qk sl (1,cs) l:=fun _ _=>by simp [Qu,Qk]
 have yr:∀g1 g2 g3:Nat,Qu [⟨[(2,sl cs)],some ⟨g1,0,none⟩,1⟩,⟨[(8,2)],some ⟨g3,0,none⟩,1⟩,⟨[(11,(l.length:Int))],some ⟨g2,0,none⟩,1⟩,⟨l,A,cap⟩]=Qk sl (2,cs) l:=fun _ _ _=>by simp [Qu,Qk]
 simp only [rt] at sD;simp only [yr] at sE;have ru:Qk sl (0,cs) l=l:=by simp [Qk]
 have HU0:=Nf ru;have HL:=Nf hl;clear hm hf eB hl hc rt yr ru;have rv:=fun(k:Int)=>Jcb (w:=(w.alloc (.cells #[.int .i64 k,.string cs] 55)).drew) (Jc2 Tryz.underlying9) (x:= .string cs) Tryz.underlying68 Tryz.underlying21 (Jbp _) rfl (HM.out.bel Jb) dj HF.out;have hlk1:=rv 0;have hlk2:=rv 1;have hlk3:=rv 2;clear rv
 rcases hk with rfl|rfl|rfl
 all_goals
  go_enter Tryz.func22,Tryz.ntmps22
  go_wp2_with fail
  go_region_law (go_simp;go_wp2_with (first
     | (go_at_call_of 21 (Value.int IntKind.i64 2);go_loud (refine(Jak _ _ _).mono ?_;rintro r w1 ⟨⟨rfl,ba⟩,ac⟩;have dN:=J3.one ba;have af:=ac.size;(try simp at af);clear ba))
     | (go_at_call_of 21 (Value.int IntKind.i64 11);go_loud (refine(Jak _ _ _).mono ?_;rintro r w2 ⟨⟨rfl,ao⟩,aq⟩;have dR:=J3.one ao;have br:=aq.size;(try simp at br);clear ao))))
 all_goals
  have cT:=Nd w w1 ((Jh (Jc (Nt) _)).trans (ac.mono Ul));have hB:=Nd w w2 (cT.trans (aq.mono cT.size));have q0:=Ja aq (Ja ac (Kal _ _ _));have uc:=dN.later aq;rw [show ∀k:Int,(w.alloc (.cells #[.int .i64 k,.string cs] 55)).drew.heap.size=w.heap.size+1 from fun _=>Ul] at uc;clear dN
 ·go_wp2_with fail
  go_ret;rw [HU0.out];exact⟨⟨_,_,rfl,HL.out.later hB⟩,hB⟩
 ·go_wp2_with fail
  go_ret;rw [HU0.out];exact⟨⟨_,_,rfl,HL.out.later hB⟩,hB⟩
 iterate 2
  ·go_wp2_with (go_at_call 20;go_loud (refine(sD _ _ w2 hB uc dR _).mono ?_;intro r w4 aZ;obtain⟨⟨A4,c4,rfl,gP⟩,ei⟩:=aZ.at.less (Jc hB _);clear aZ))
   go_ret;exact⟨⟨_,_,rfl,gP⟩,ei⟩
 iterate 2
  ·go_wp2_with (first
    | (go_at_call_of 21 (Value.int IntKind.i64 8);go_loud (refine(Jak _ _ _).mono ?_;rintro r w3 ⟨⟨rfl,aE⟩,aM⟩;have iI:=J3.one aE;have fe:=aM.size;have cZ:=hB.trans (aM.mono hB.size);clear aE))
    | (go_at_call 20;go_loud (refine(sE _ _ _ w3 cZ (uc.later aM) (dR.later aM) iI _).mono ?_;intro r w4 aZ;obtain⟨⟨A4,c4,rfl,gP⟩,ei⟩:=aZ.at.less (Jc cZ _);clear aZ)))
   go_ret;exact⟨⟨_,_,rfl,gP⟩,ei⟩
end Go.Proofs.YtknfcamdfdfoeaaGreatDoor
namespace Go.Proofs.YtknfcamdfdfoeaaGreatDoor
open Go.RowKit Go.Sort Go.Maps Go.ChangeMaps Go.WideMaps
def X7 (l:List Ce):List Value:=l.flatMap fun c=>[.string c.name,.int .i64 c.ck,.string c.cn,.int .i32 c.first]
theorem Jph:∀l:List Ce,(X7 l).length=l.length * 4
 | []=>rfl
 | x :: l=>by
  have:=Jph l;unfold X7 at this ⊢;exact Uc7
theorem Jdh:∀(l:List Ce) (k:Nat) (x:Ce),l[k]?=some x->(X7 l)[k * 4]?=some (.string x.name)/\(X7 l)[k * 4+1]?=some (.int .i64 x.ck)/\(X7 l)[k * 4+2]?=some (.string x.cn)/\(X7 l)[k * 4+3]?=some (.int .i32 x.first)
 | [],k,x,h=>Lt
 | y :: l,0,x,h=>by simp at h;subst h;exact⟨rfl,rfl,rfl,rfl⟩
 | y :: l,k+1,x,h=>by
  have aY:=Jdh l k x Ve;have e:X7 (y :: l) = [.string y.name,.int .i64 y.ck,.string y.cn,.int .i32 y.first] ++ X7 l:=rfl
  have e2:∀j,(X7 (y :: l))[(k+1) * 4+j]?=(X7 l)[k * 4+j]?:=fun j=>by
   rw [e,List.getElem?_append_right Uj]
   congr 1
   simp;omega
  exact⟨by have:=e2 0;simp only [Nat.add_zero] at this;rw [this];exact aY.1,by rw [e2 1];exact aY.2.1,by rw [e2 2];exact aY.2.2.1,by rw [e2 3];exact aY.2.2.2⟩
def Jbh (w:World) (l:List Ce) (A:Option Addr) (cap:Nat):Prop:=l.length<=cap/\cap<=maxLen/\X6 w A l.length 4 (X7 l)
theorem Jbh.later {w w':World} {l:List Ce} {A:Option Addr} {cap:Nat} (h:Jbh w l A cap) (hb:Below w.heap.size w w'):Jbh w' l A cap:=⟨h.1,h.2.1,Jds h.2.2 hb⟩
theorem Qa (W:World) (b i:Nat) (o:Obj) (h:i≠b):(setBlock W b o).heap[i]?=W.heap[i]?:=by
 unfold setBlock;simp [Array.getElem?_setIfInBounds,h.symm,h]
theorem Xc (W:World) (b:Nat) (o:Obj) (h:b<W.heap.size):(setBlock W b o).heap[b]?=some o:=by
 unfold setBlock;simp [Array.getElem?_setIfInBounds,h]
theorem Yo (W:World) (b:Nat) (o:Obj):(setBlock W b o).heap.size=W.heap.size:=D3
theorem Jd9 (W:World) (b i j:Nat) (o:Obj) (h:i≠b):(setBlock W b o).cell? ⟨i,j,none⟩=W.cell? ⟨i,j,none⟩:=World.cell?_of_block (Qa W b i o h)
theorem Jgd (W:World) (b:Nat) (o:Obj):W.grownBy (setBlock W b o) (some b):=⟨rfl,rfl,rfl,D3,fun i _ hi=>Qa W b i o (fun e=>hi (by rw [e]))⟩
theorem Jly {n:Int} (h:I32 n):(Lit.int .i32 n).wf=true:=by
 unfold I32 at h;simp [Lit.wf,IntKind.min,IntKind.max,IntKind.signed,IntKind.bits];omega
def okI (i:Int):Prop:=(Lit.int .i32 i).wf=true
end Go.Proofs.YtknfcamdfdfoeaaGreatDoor
