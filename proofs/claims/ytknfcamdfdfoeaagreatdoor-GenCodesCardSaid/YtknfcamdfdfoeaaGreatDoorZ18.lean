/- Lemmas. -/
import Derived.Test.YtknfcamdfdfoeaaGreatDoorMac
import Derived.Test.YtknfcamdfdfoeaaGreatDoorZ17
import Derived.Test.YtknfcamdfdfoeaaGreatDoorZ00
import Derived.Laws.Entries
import Derived.Test.YtknfcamdfdfoeaaGreatDoorZ09
set_option linter.unusedVariables false
set_option linter.unusedSimpArgs false
set_option maxRecDepth 100000
set_option maxHeartbeats 64000000
namespace Go.Proofs.YtknfcamdfdfoeaaGreatDoor
open Go.RowKit
theorem Jin {h:Qe->Bool} : ∀(l:List Qe) (k:Nat),Zg h k l=(0,0,0)->∀q∈l,h q=false
 | [],_,_,q,hq=>by simp at hq
 | x :: r,k,hs,q,hq=>by
  rw [Zg] at hs
  by_cases hx:h x=true
  ·rw [if_pos hx] at hs;simp at hs
  ·rw [if_neg hx] at hs
   rcases List.mem_cons.1 hq with rfl|hq
   ·simpa using hx
   ·exact Jin r (k+1) hs q hq
theorem Jl6 {v:Va} (h:Ke v false=true):v.cn.toList.isEmpty=true:=by
 simp only [Ke,Bool.and_eq_true] at h;have h3:=h.2
 by_cases h0:v.ck=0
 ·rw [if_pos h0] at h3;exact h3
 ·rw [if_neg h0] at h3
  by_cases h1:v.ck=1\/v.ck=2
  ·rw [if_pos h1] at h3;simp at h3
  ·rw [if_neg h1] at h3;simp at h3
theorem Jhq {p:Pr} (hc:J7 p=(0,0,0)) {u v:Va} (hu:u∈Je p) (hv:v∈Je p) (hn:u.name=v.name):u=v:=by
 obtain⟨i,hi⟩:=List.getElem?_of_mem hu;obtain⟨j,hj⟩:=List.getElem?_of_mem hv;have:=(Xp hc).2.1 i j u v hi hj hn;subst this;rw [hi] at hj;injection hj
theorem Jsu {p:Pr} (h:Ks p=(0,0,0)):(J1 p).2=(0,0,0)/\(∀v∈p.ins ++ p.outs,inL (Qs p).1 v.name=false)/\∀v∈Je p,v.cn.toList.isEmpty=false->inL (Qs p).1 v.cn=false:=by
 unfold Ks at h
 by_cases hO:(J1 p).2=(0,0,0)
 ·rw [if_pos hO] at h;have aN:=(Yg hO).1;have hc:=(Xk aN).1;have jn:=(Xp hc).1;have kD:=jn;simp only [Qw,Bool.and_eq_true,List.all_eq_true] at kD;have hz:=Jin _ _ h;obtain⟨_,dV,dE⟩:=Jbe hc;refine⟨hO,fun v hv=>?_,fun v hv aS=>?_⟩
  ·rcases List.mem_append.1 hv with h1|h1
   ·exact Jnt hO h1
   ·have xo:v∈Je p:=by simp [Je,h1]
    rcases dE v xo with h2|⟨q,hq,qL⟩
    ·obtain⟨u,hu,gG⟩:=List.mem_map.1 h2;have:=Jhq hc (by simp [Je,hu]) xo gG;subst this;exact Jnt hO hu
    ·have hh:=hz q hq;unfold Jen Jdp at hh;simp only [Bool.or_eq_false_iff,Bool.and_eq_false_iff] at hh;rw [<-qL]
     rcases hh.2 with h3|h3
     ·exact absurd (Jbk.2 (List.mem_map.2 ⟨v,h1,qL.symm⟩)) (by rw [h3];simp)
     ·exact h3
  ·have hnin:v ∉ p.ins:=fun hi=>by rw [Jl6 (kD.1.1.1.2 v hi)] at aS;cases aS
   rcases dE v hv with h2|⟨q,hq,qL⟩
   ·obtain⟨u,hu,gG⟩:=List.mem_map.1 h2;have:=Jhq hc (by simp [Je,hu]) hv gG;subst this;exact absurd hu hnin
   ·obtain⟨v',hm,_,wg,bO,nk⟩:=Ja3 aN hq;have:=Jhq hc hm hv (wg.trans qL);subst this;have hh:=hz q hq;unfold Jen Jdp at hh;rw [bO] at hh;simp only [Bool.or_eq_false_iff,Bool.and_eq_false_iff] at hh
    rcases nk with ⟨_,h4⟩|⟨h4,_,_⟩
    ·rw [h4] at aS;cases aS
    ·rcases hh.1.1.2 with h5|h5
     ·exact absurd h5 (by simpa using h4)
     ·exact h5
 ·rw [if_neg hO] at h;exact absurd h hO
def W32 (n:Int):Int:=IntKind.i32.wrap n
theorem Jpu (n:Int):W32 n=if 2147483648<=n % 4294967296 then n % 4294967296-4294967296 else n % 4294967296:=by
 unfold W32 IntKind.wrap;simp [IntKind.bits,IntKind.signed]
theorem Jvc (n:Int):I32 (W32 n):=by
 rw [Jpu];unfold I32;split <;> omega
theorem Jbn {n:Int} (h:I32 n):W32 n=n:=by
 unfold I32 at h;rw [Jpu];split <;> omega
theorem Jxx (n:Int):W32 n=(let m:=n.tmod 4294967296;let m:=if m<0 then m+4294967296 else m;if m>=2147483648 then m-4294967296 else m):=by
 rw [Jpu]
 rcases Int.lt_or_le n 0 with h|h
 ·obtain⟨m,rfl⟩:∃m,n = -m:=⟨-n,Ua⟩;rw [Int.neg_tmod,Int.tmod_eq_emod_of_nonneg Ua];dsimp only
  repeat' split
  all_goals omega
 ·rw [Int.tmod_eq_emod_of_nonneg h];dsimp only
  repeat' split
  all_goals omega
def Jkg (b:Bool):Int:=if b=true then 1 else 0
def unF (op a:Int):Int:=if op=1 then W32 (-a) else if op=2 then Jkg (a == 0) else 0
def Jzm (a b:Int):Int:=if b=0 then 0 else W32 (a.tdiv b)
def Kak (op a b:Int):Int:=
 if op=1 then W32 (a+b)
 else if op=2 then W32 (a-b)
 else if op=3 then W32 (a * b)
 else if op=4 then Jzm a b
 else if op=5 then W32 (a-W32 (Jzm a b * b))
 else if op=6 then W32 (a * 2 ^ (b % 32).toNat)
 else if op=7 then a / 2 ^ (b % 32).toNat
 else if op=8 then bits .and .i32 a b
 else if op=9 then bits .or .i32 a b
 else if op=10 then bits .xor .i32 a b
 else if op=11 then Jkg (a == b)
 else if op=12 then Jkg (a != b)
 else if op=13 then Jkg (decide (a<b))
 else if op=14 then Jkg (decide (a<=b))
 else if op=15 then Jkg (decide (b<a))
 else if op=16 then Jkg (decide (b<=a))
 else 0
structure Ce where
 name:ByteArray
 ck:Int
 cn:ByteArray
 first:Int
def inC (l:List (Int×ByteArray)) (c:Int×ByteArray):Bool:=l.any fun d=>K9 d.1 d.2 c.1 c.2
theorem Jwh (l:List (Int×ByteArray)) (d c:Int×ByteArray):inC (l ++ [d]) c=(inC l c || K9 d.1 d.2 c.1 c.2):=by unfold inC;simp
theorem Jyj {c d:Int×ByteArray} (h:K9 c.1 c.2 d.1 d.2=true):c=d:=by
 obtain⟨h1,h2⟩:=Jdg.1 h;exact Prod.ext h1 (Jej h2)
theorem Jvf (c:Int×ByteArray):K9 c.1 c.2 c.1 c.2=true:=Jdg.2 ⟨rfl,rfl⟩
namespace Ex
mutual
def arrs:List (Int×ByteArray)->Ex->Int×ByteArray->List (Int×ByteArray)
 | l,mk k _ s sub,c=>arrsL (if k=7 then l ++ [c] else l) k s c 0 sub
def arrsL:List (Int×ByteArray)->Int->ByteArray->Int×ByteArray->Nat->List Ex->List (Int×ByteArray)
 | l,_,_,_,_,[]=>l
 | l,k,s,c,i,x :: r=>arrsL (arrs l x (K4 k s c i)) k s c (i+1) r
end
theorem arrs_eq (l:List (Int×ByteArray)) (e:Ex) (c:Int×ByteArray):e.arrs l c=arrsL (if e.kind=7 then l ++ [c] else l) e.kind e.name c 0 e.sub:=by cases e;rw [arrs];rfl
end Ex
def Jai (e:Ex):Int:=if e.kind=4 then W32 (-(match e.sub with|x :: _=>x.n | []=>0)) else e.n
def Xm (L:List Va) (q:Qe):Ce:=⟨q.name,(J9 L q.name).1,(J9 L q.name).2,Jai q.first⟩
def J0 (l:List Qe):List Qe:=l.filter (fun q=>q.delay != 0)
def Jad (L:List Va) (l:List Qe):List (Int×ByteArray):=l.foldl (fun m q=>q.e.arrs m (J9 L q.name)) []
def X3 (L:List Va):List (Int×ByteArray):=(0,⟨#[]⟩) :: L.flatMap fun v=>[(1,v.name),(2,v.name)]
def Jb6 (c:Int×ByteArray):Ce:=⟨⟨#[]⟩,c.1,c.2,0⟩
def K3 (m:List (Int×ByteArray)) (l:List (Int×ByteArray)):List Ce:=(l.filter (inC m)).map Jb6
def Jq (p:Pr):List Ce:=(J0 p.eqs).map (Xm (Je p)) ++ K3 (Jad (Je p) p.eqs) (X3 (Je p))
def Kf (p:Pr):List Ce×(Int×Int×Int):=if Ks p=(0,0,0) then if 16<(Jq p).length then([],(4,0,3)) else(Jq p,(0,0,0)) else([],Ks p)
def Jz7 (g:ByteArray->Int) (fl:Int×ByteArray->Int) (k n:Int) (s:ByteArray) (c:Int×ByteArray) (vs:List Int):Int:=
 if k=3 then g s
 else if k=4 then unF n (vs.getD 0 0)
 else if k=5 then Kak n (vs.getD 0 0) (vs.getD 1 0)
 else if k=6 then if vs.getD 0 0≠0 then vs.getD 1 0 else vs.getD 2 0
 else if k=7 then if fl c≠0 then vs.getD 1 0 else vs.getD 0 0
 else if k=8\/k=9 then vs.getD 0 0
 else if k=10 then if g s≠0 then vs.getD 0 0 else vs.getD 1 0
 else n
namespace Ex
mutual
def eval (g:ByteArray->Int) (fl:Int×ByteArray->Int):Ex->Int×ByteArray->Int
 | mk k n s sub,c=>Jz7 g fl k n s c (Jxk g fl k s c 0 sub)
def Jxk (g:ByteArray->Int) (fl:Int×ByteArray->Int):Int->ByteArray->Int×ByteArray->Nat->List Ex->List Int
 | _,_,_,_,[]=>[]
 | k,s,c,i,x :: r=>eval g fl x (K4 k s c i) :: Jxk g fl k s c (i+1) r
end
end Ex
def Kam (g:ByteArray->Int) (c:Int×ByteArray):Bool:=if c.1=1 then g c.2 != 0 else if c.1=2 then g c.2 == 0 else true
theorem Jxo {s t:ByteArray} : s.data=t.data<->s=t:=⟨fun h=>by ext1;exact h,fun h=>Ti⟩
def Jb4 (L:List Va):Prop:=∀(i j:Nat) (u v:Va),L[i]?=some u->L[j]?=some v->u.name=v.name->i=j
theorem Jb4.tail {v:Va} {L:List Va} (h:Jb4 (v :: L)):Jb4 L/\∀u∈L,u.name≠v.name:=by
 refine⟨fun i j a b ha hb hn=>?_,fun u hu hn=>?_⟩
 ·have:=h (i+1) (j+1) a b (by simpa using ha) (by simpa using hb) hn;exact Ua
 ·obtain⟨i,hi⟩:=List.getElem?_of_mem hu;have:=h (i+1) 0 u v Mf rfl hn;exact Ua
theorem Jfn {L:List Va} {c:Int×ByteArray} : c∈L.flatMap (fun v=>[((1:Int),v.name),(2,v.name)])<->∃v∈L,c=(1,v.name)\/c=(2,v.name):=by
 simp [List.mem_flatMap]
theorem Jjk:∀ {L:List Va},Jb4 L->(L.flatMap fun v=>[((1:Int),v.name),(2,v.name)]).Pairwise (·≠·)
 | [],_=>Ul
 | v :: L,h=>by
  obtain⟨h1,h2⟩:=h.tail;rw [List.flatMap_cons,List.pairwise_append];refine⟨Ul,Jjk h1,fun a ha b hb=>?_⟩;obtain⟨u,hu,hb⟩:=Jfn.1 hb;have aS:=h2 u hu;simp only [List.mem_cons,List.not_mem_nil,or_false] at ha
  rcases ha with rfl|rfl <;> rcases hb with rfl|rfl <;> intro e <;> injection e with e1 e2
  ·exact aS e2.symm
  ·exact absurd e1 Ux
  ·exact absurd e1 Ux
  ·exact aS e2.symm
theorem Jsh {L:List Va} (h:Jb4 L):(X3 L).Pairwise (·≠·):=by
 unfold X3;rw [List.pairwise_cons];refine⟨fun b hb=>?_,Jjk h⟩;obtain⟨u,_,hb⟩:=Jfn.1 hb
 rcases hb with rfl|rfl <;> intro e <;> injection e with e1 e2 <;> exact absurd e1 Ux
def Jha (l:List Ce):Prop:=l.Pairwise fun a b=>a.name.toList.isEmpty=true->b.name.toList.isEmpty=true->(a.ck,a.cn)≠(b.ck,b.cn)
theorem Jn1 {m l:List (Int×ByteArray)} (h:l.Pairwise (·≠·)):Jha (K3 m l):=by
 unfold Jha K3;rw [List.pairwise_map];exact(h.filter _).imp fun aS _ _=>aS
theorem Jo1 {p:Pr} (gG:Jb4 (Je p)) (hn:∀q∈p.eqs,q.name.toList.isEmpty=false):Jha (Jq p):=by
 unfold Jq Jha;rw [List.pairwise_append];refine⟨?_,Jn1 (Jsh gG),fun a ha b _ xp=>?_⟩
 ·rw [List.pairwise_map];refine List.Pairwise.imp_of_mem (R:=fun _ _=>True) ?_ (List.pairwise_of_forall fun _ _=>trivial);intro a b ha _ _ xp;have:=hn a (List.mem_filter.1 ha).1;rw [show(Xm (Je p) a).name=a.name from rfl,this] at xp
  cases xp
 ·obtain⟨q,hq,rfl⟩:=List.mem_map.1 ha;have:=hn q (List.mem_filter.1 hq).1;rw [show(Xm (Je p) q).name=q.name from rfl,this] at xp
  cases xp
namespace Ex
end Ex
def Yv (v a b:List (Int×Int)):List (Int×Int):=v ++ [(11,(a.length:Int)+1)] ++ a ++ [(10,(b.length:Int))] ++ b
def Jae (sl:ByteArray->Int) (fl:Int×ByteArray->Int) (k n:Int) (s:ByteArray) (c:Int×ByteArray) (ps:List (List (Int×Int))):List (Int×Int):=
 if k=3 then [(2,sl s)]
 else if k=4 then ps.getD 0 [] ++ [(8,n)]
 else if k=5 then ps.getD 0 [] ++ ps.getD 1 [] ++ [(9,n)]
 else if k=6 then Yv (ps.getD 0 []) (ps.getD 1 []) (ps.getD 2 [])
 else if k=7 then Yv [(4,fl c)] (ps.getD 1 []) (ps.getD 0 [])
 else if k=8\/k=9 then ps.getD 0 []
 else if k=10 then Yv [(2,sl s)] (ps.getD 0 []) (ps.getD 1 [])
 else [(1,n)]
namespace Ex
mutual
def gen (sl:ByteArray->Int) (fl:Int×ByteArray->Int):Ex->Int×ByteArray->List (Int×Int)
 | mk k n s sub,c=>Jae sl fl k n s c (genL sl fl k s c 0 sub)
def genL (sl:ByteArray->Int) (fl:Int×ByteArray->Int):Int->ByteArray->Int×ByteArray->Nat->List Ex->List (List (Int×Int))
 | _,_,_,_,[]=>[]
 | k,s,c,i,x :: r=>gen sl fl x (K4 k s c i) :: genL sl fl k s c (i+1) r
end
theorem gen_eq (sl:ByteArray->Int) (fl:Int×ByteArray->Int) (e:Ex) (c:Int×ByteArray):e.gen sl fl c=Jae sl fl e.kind e.n e.name c (genL sl fl e.kind e.name c 0 e.sub):=by cases e;rw [gen];rfl
theorem genL_len (sl:ByteArray->Int) (fl:Int×ByteArray->Int) (k:Int) (s:ByteArray) (c:Int×ByteArray):∀(r:List Ex) (i:Nat),(genL sl fl k s c i r).length=r.length
 | [],i=>by rw [genL];rfl
 | x :: r,i=>by rw [genL,List.length_cons,List.length_cons,genL_len sl fl k s c r]
theorem genL_get (sl:ByteArray->Int) (fl:Int×ByteArray->Int) (k:Int) (s:ByteArray) (c:Int×ByteArray):∀(r:List Ex) (i j:Nat) (x:Ex),r[j]?=some x->(genL sl fl k s c i r).getD j []=x.gen sl fl (K4 k s c (i+j))
 | [],i,j,x,h=>Lt
 | y :: r,i,0,x,h=>by simp at h;subst h;rw [genL];rfl
 | y :: r,i,j+1,x,h=>by
  rw [genL,show i+(j+1)=i+1+j from by omega];have:=genL_get sl fl k s c r (i+1) j x Ve;simpa using this
theorem choice_len (v a b:List (Int×Int)):(Yv v a b).length=v.length+a.length+b.length+2:=by unfold Yv;simp;omega
theorem gen_len (sl:ByteArray->Int) (fl:Int×ByteArray->Int) (e:Ex):∀c,(e.gen sl fl c).length<=3 * e.size:=by
 induction e using ind with
 | h e ih=>
  intro c
  have hs:∀(r:List Ex) (i:Nat),(∀x∈r,∀c,(x.gen sl fl c).length<=3 * x.size)->∀c,((genL sl fl e.kind e.name c i r).map List.length).sum<=3 * sizeL r:=by
   intro r
   induction r with
   | nil=>exact fun i _ c=>by rw [genL];simp [sizeL]
   | cons x r ihr=>
    intro i h c;have h1:=h x Ul (K4 e.kind e.name c i);have h2:=ihr (i+1) (fun y hy=>h y F0) c;rw [genL,List.map_cons,List.sum_cons,sizeL];omega
  have h0:=hs e.sub 0 ih c;rw [gen_eq,size_eq];generalize genL sl fl e.kind e.name c 0 e.sub=ps at h0 ⊢
  have hd:(ps.getD 0 []).length+(ps.getD 1 []).length+(ps.getD 2 []).length<=(ps.map List.length).sum:=by
   match ps with
   | []=>simp
   | [a]=>simp
   | [a,b]=>simp
   | a :: b :: d :: r=>simp;omega
  unfold Jae;generalize ps.getD 0 []=a at hd ⊢;generalize ps.getD 1 []=b at hd ⊢;generalize ps.getD 2 []=d at hd ⊢
  repeat' split
  all_goals first|omega|(rw [choice_len];simp only [List.length_cons,List.length_nil];omega)|(rw [choice_len];omega)|(simp only [List.length_append,List.length_cons,List.length_nil];omega)
end Ex
def Xu (L:List Va) (s:ByteArray):Int:=(Qi L s).getD 0
def Jav:Nat->List Ce->Int×ByteArray->Int
 | _,[],_=>0
 | i,x :: r,d=>if x.name.toList.isEmpty=true/\K9 x.ck x.cn d.1 d.2=true then(i:Int) else Jav (i+1) r d
def Kg (l:List Ce) (d:Int×ByteArray):Int:=Jav 0 l d
def Qk (sl:ByteArray->Int) (c:Int×ByteArray) (x:List (Int×Int)):List (Int×Int):=
 if c.1=1 then [(2,sl c.2),(11,(x.length:Int))] ++ x else if c.1=2 then [(2,sl c.2),(8,2),(11,(x.length:Int))] ++ x else x
def Yh (sl:ByteArray->Int):Nat->List Va->List (Int×Int)
 | _,[]=>[]
 | i,v :: r=>[(6,(i:Int)),(3,sl v.name)] ++ Yh sl (i+1) r
def Zx (sl:ByteArray->Int):Nat->List Qe->List (Int×Int)
 | _,[]=>[]
 | k,q :: r=>[(4,(k:Int)),(3,sl q.name)] ++ Zx sl (k+1) r
def Zu (sl:ByteArray->Int) (fl:Int×ByteArray->Int) (L:List Va):Nat->List Qe->List (Int×Int)
 | _,[]=>[]
 | k,q :: r=>Qk sl (J9 L q.name) (q.e.gen sl fl (J9 L q.name) ++ [(5,(k:Int))]) ++ Zu sl fl L (k+1) r
def Ze (sl:ByteArray->Int):Nat->List Ce->List (Int×Int)
 | _,[]=>[]
 | k,c :: r=>Qk sl (c.ck,c.cn) [(1,1),(5,(k:Int))] ++ Ze sl (k+1) r
def Xd (sl:ByteArray->Int) (fl:Int×ByteArray->Int) (L:List Va) (eqs:List Qe):List Int->List (Int×Int)
 | []=>[]
 | j :: r=>(match eqs[j.toNat]? with|some q=>Qk sl (J9 L q.name) (q.e.gen sl fl (J9 L q.name) ++ [(3,sl q.name)])|none=>[]) ++ Xd sl fl L eqs r
def Xl (sl:ByteArray->Int):Nat->List Va->List (Int×Int)
 | _,[]=>[]
 | i,v :: r=>[(2,sl v.name),(7,(i:Int))] ++ Xl sl (i+1) r
def Xs (p:Pr):List (Int×Int):=
 Yh (Xu (Je p)) 0 p.ins ++ Zx (Xu (Je p)) 0 (J0 p.eqs) ++ Xd (Xu (Je p)) (Kg (Jq p)) (Je p) p.eqs (J1 p).1 ++
 Zu (Xu (Je p)) (Kg (Jq p)) (Je p) 0 (J0 p.eqs) ++ Ze (Xu (Je p)) (J0 p.eqs).length ((Jq p).drop (J0 p.eqs).length) ++ Xl (Xu (Je p)) 0 p.outs
def Xg (p:Pr):List (Int×Int)×(Int×Int×Int×Int×Int)×(Int×Int×Int):=
 if (Kf p).2=(0,0,0) then
  if 600<(Xs p).length then([],(0,0,0,0,0),(4,0,3))
  else(Xs p,((Je p).length,(Jq p).length,(Jq p).length,p.ins.length,p.outs.length),(0,0,0))
 else([],(0,0,0,0,0),(Kf p).2)
end Go.Proofs.YtknfcamdfdfoeaaGreatDoor
