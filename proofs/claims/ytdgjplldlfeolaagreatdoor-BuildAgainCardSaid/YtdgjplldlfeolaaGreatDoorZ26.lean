/- Lemmas. -/
import Derived.Test.YtdgjplldlfeolaaGreatDoorZ22
import Derived.Test.YtdgjplldlfeolaaGreatDoorZ02
import Derived.Test.YtdgjplldlfeolaaGreatDoorZ03
import Derived.Test.YtdgjplldlfeolaaGreatDoorZ04
import Derived.Test.YtdgjplldlfeolaaGreatDoorZ10
import Derived.Deep.RegionLaw
set_option linter.unusedVariables false
set_option linter.unusedSimpArgs false
set_option maxRecDepth 100000
set_option maxHeartbeats 64000000
namespace Go.Proofs.YtdgjplldlfeolaaGreatDoor
open Go.RowKit
structure Ce where
 name:ByteArray
 ck:Int
 cn:ByteArray
 first:Int
def inC (l:List (Int×ByteArray)) (c:Int×ByteArray):Bool:=l.any fun d=>K9 d.1 d.2 c.1 c.2
theorem Jwh (l:List (Int×ByteArray)) (d c:Int×ByteArray):inC (l ++ [d]) c=(inC l c || K9 d.1 d.2 c.1 c.2):=by unfold inC;simp
theorem Jyj {c d:Int×ByteArray} (h:K9 c.1 c.2 d.1 d.2=true):c=d:=by
 obtain⟨h1,h2⟩:=Jdg.1 h;exact Prod.ext h1 (Jej h2)
theorem Jvf (c:Int×ByteArray):K9 c.1 c.2 c.1 c.2=true:=Jdg.2 ⟨rfl,rfl⟩
theorem Kce {l:List (Int×ByteArray)} {c:Int×ByteArray} : inC l c=true<->c∈l:=by
 unfold inC;rw [List.any_eq_true]
 constructor
 ·rintro⟨d,hd,h⟩;rw [<-Jyj h];exact hd
 ·exact fun h=>⟨c,h,Jvf c⟩
namespace Ex
mutual
def arrs:List (Int×ByteArray)->Ex->Int×ByteArray->List (Int×ByteArray)
 | l,mk k _ s sub,c=>arrsL (if k=7 then l ++ [c] else l) k s c 0 sub
def arrsL:List (Int×ByteArray)->Int->ByteArray->Int×ByteArray->Nat->List Ex->List (Int×ByteArray)
 | l,_,_,_,_,[]=>l
 | l,k,s,c,i,x :: r=>arrsL (arrs l x (K4 k s c i)) k s c (i+1) r
end
theorem arrs_eq (l:List (Int×ByteArray)) (e:Ex) (c:Int×ByteArray):e.arrs l c=arrsL (if e.kind=7 then l ++ [c] else l) e.kind e.name c 0 e.sub:=by cases e;rw [arrs];rfl
end Ex
def Jai (e:Ex):Int:=if e.kind=4 then W32 (-(match e.sub with|x :: _=>x.n | []=>0)) else e.n
def Xm (L:List Va) (q:Qe):Ce:=⟨q.name,(J9 L q.name).1,(J9 L q.name).2,Jai q.first⟩
def J0 (l:List Qe):List Qe:=l.filter (fun q=>q.delay != 0)
def Jad (L:List Va) (l:List Qe):List (Int×ByteArray):=l.foldl (fun m q=>q.e.arrs m (J9 L q.name)) []
def X3 (L:List Va):List (Int×ByteArray):=(0,⟨#[]⟩) :: L.flatMap fun v=>[(1,v.name),(2,v.name)]
def Jb6 (c:Int×ByteArray):Ce:=⟨⟨#[]⟩,c.1,c.2,0⟩
def Kaq (m:List (Int×ByteArray)) (l:List (Int×ByteArray)):List Ce:=(l.filter (inC m)).map Jb6
def Jq (p:Pr):List Ce:=(J0 p.eqs).map (Xm (Je p)) ++ Kaq (Jad (Je p) p.eqs) (X3 (Je p))
def Kf (p:Pr):List Ce×(Int×Int×Int):=if Ks p=(0,0,0) then if 16<(Jq p).length then([],(4,0,3)) else(Jq p,(0,0,0)) else([],Ks p)
def Jz7 (g:ByteArray->Int) (fl:Int×ByteArray->Int) (k n:Int) (s:ByteArray) (c:Int×ByteArray) (vs:List Int):Int:=
 if k=3 then g s
 else if k=4 then unF n (vs.getD 0 0)
 else if k=5 then Kak n (vs.getD 0 0) (vs.getD 1 0)
 else if k=6 then if vs.getD 0 0≠0 then vs.getD 1 0 else vs.getD 2 0
 else if k=7 then if fl c≠0 then vs.getD 1 0 else vs.getD 0 0
 else if k=8\/k=9 then vs.getD 0 0
 else if k=10 then if g s≠0 then vs.getD 0 0 else vs.getD 1 0
 else n
namespace Ex
mutual
def eval (g:ByteArray->Int) (fl:Int×ByteArray->Int):Ex->Int×ByteArray->Int
 | mk k n s sub,c=>Jz7 g fl k n s c (Jxk g fl k s c 0 sub)
def Jxk (g:ByteArray->Int) (fl:Int×ByteArray->Int):Int->ByteArray->Int×ByteArray->Nat->List Ex->List Int
 | _,_,_,_,[]=>[]
 | k,s,c,i,x :: r=>eval g fl x (K4 k s c i) :: Jxk g fl k s c (i+1) r
end
end Ex
def Kam (g:ByteArray->Int) (c:Int×ByteArray):Bool:=if c.1=1 then g c.2 != 0 else if c.1=2 then g c.2 == 0 else true
theorem Jxo {s t:ByteArray} : s.data=t.data<->s=t:=⟨fun h=>by ext1;exact h,fun h=>by rw [h]⟩
def Jb4 (L:List Va):Prop:=∀(i j:Nat) (u v:Va),L[i]?=some u->L[j]?=some v->u.name=v.name->i=j
theorem Jb4.tail {v:Va} {L:List Va} (h:Jb4 (v :: L)):Jb4 L/\∀u∈L,u.name≠v.name:=by
 refine⟨fun i j a b ha hb hn=>?_,fun u hu hn=>?_⟩
 ·have:=h (i+1) (j+1) a b (by simpa using ha) (by simpa using hb) hn;omega
 ·obtain⟨i,hi⟩:=List.getElem?_of_mem hu;have:=h (i+1) 0 u v (by simpa using hi) rfl hn;omega
theorem Jfn {L:List Va} {c:Int×ByteArray} : c∈L.flatMap (fun v=>[((1:Int),v.name),(2,v.name)])<->∃v∈L,c=(1,v.name)\/c=(2,v.name):=by
 simp [List.mem_flatMap]
theorem Jjk:∀ {L:List Va},Jb4 L->(L.flatMap fun v=>[((1:Int),v.name),(2,v.name)]).Pairwise (·≠·)
 | [],_=>by simp
 | v :: L,h=>by
  obtain⟨h1,h2⟩:=h.tail;rw [List.flatMap_cons,List.pairwise_append];refine⟨by simp,Jjk h1,fun a ha b hb=>?_⟩;obtain⟨u,hu,hb⟩:=Jfn.1 hb;have aS:=h2 u hu;simp only [List.mem_cons,List.not_mem_nil,or_false] at ha
  rcases ha with rfl|rfl <;> rcases hb with rfl|rfl <;> intro e <;> injection e with e1 e2
  ·exact aS e2.symm
  ·exact absurd e1 (by decide)
  ·exact absurd e1 (by decide)
  ·exact aS e2.symm
theorem Jsh {L:List Va} (h:Jb4 L):(X3 L).Pairwise (·≠·):=by
 unfold X3;rw [List.pairwise_cons];refine⟨fun b hb=>?_,Jjk h⟩;obtain⟨u,_,hb⟩:=Jfn.1 hb
 rcases hb with rfl|rfl <;> intro e <;> injection e with e1 e2 <;> exact absurd e1 (by decide)
def Jha (l:List Ce):Prop:=l.Pairwise fun a b=>a.name.toList.isEmpty=true->b.name.toList.isEmpty=true->(a.ck,a.cn)≠(b.ck,b.cn)
theorem Jn1 {m l:List (Int×ByteArray)} (h:l.Pairwise (·≠·)):Jha (Kaq m l):=by
 unfold Jha Kaq;rw [List.pairwise_map];exact(h.filter _).imp fun aS _ _=>aS
theorem Jo1 {p:Pr} (gG:Jb4 (Je p)) (hn:∀q∈p.eqs,q.name.toList.isEmpty=false):Jha (Jq p):=by
 unfold Jq Jha;rw [List.pairwise_append];refine⟨?_,Jn1 (Jsh gG),fun a ha b _ xp=>?_⟩
 ·rw [List.pairwise_map];refine List.Pairwise.imp_of_mem (R:=fun _ _=>True) ?_ (List.pairwise_of_forall fun _ _=>trivial);intro a b ha _ _ xp;have:=hn a (List.mem_filter.1 ha).1;rw [show(Xm (Je p) a).name=a.name from rfl,this] at xp
  cases xp
 ·obtain⟨q,hq,rfl⟩:=List.mem_map.1 ha;have:=hn q (List.mem_filter.1 hq).1;rw [show(Xm (Je p) q).name=q.name from rfl,this] at xp
  cases xp
namespace Ex
theorem Kat {k:Int} {s:ByteArray} {c:Int×ByteArray} : ∀(r:List Ex),(∀x∈r,∀l c,x.arrs l c=l ++ x.arrs [] c)->∀(l:List (Int×ByteArray)) (i:Nat),arrsL l k s c i r=l ++ arrsL [] k s c i r
 | [],_,l,i=>by rw [arrsL,arrsL];simp
 | x :: r,h,l,i=>by
  rw [arrsL,arrsL,Kat r (fun y hy=>h y (by simp [hy])) (x.arrs l _),Kat r (fun y hy=>h y (by simp [hy])) (x.arrs [] _),h x (by simp) l,List.append_assoc]
theorem arrs_app (e:Ex):∀l c,e.arrs l c=l ++ e.arrs [] c:=by
 induction e using ind with
 | h e ih=>
  intro l c;rw [arrs_eq,arrs_eq []];rw [Kat e.sub ih,Kat e.sub ih (if e.kind=7 then [] ++ [c] else [])]
  split <;> simp
end Ex
def Yv (v a b:List (Int×Int)):List (Int×Int):=v ++ [(11,(a.length:Int)+1)] ++ a ++ [(10,(b.length:Int))] ++ b
def Jae (sl:ByteArray->Int) (fl:Int×ByteArray->Int) (k n:Int) (s:ByteArray) (c:Int×ByteArray) (ps:List (List (Int×Int))):List (Int×Int):=
 if k=3 then [(2,sl s)]
 else if k=4 then ps.getD 0 [] ++ [(8,n)]
 else if k=5 then ps.getD 0 [] ++ ps.getD 1 [] ++ [(9,n)]
 else if k=6 then Yv (ps.getD 0 []) (ps.getD 1 []) (ps.getD 2 [])
 else if k=7 then Yv [(4,fl c)] (ps.getD 1 []) (ps.getD 0 [])
 else if k=8\/k=9 then ps.getD 0 []
 else if k=10 then Yv [(2,sl s)] (ps.getD 0 []) (ps.getD 1 [])
 else [(1,n)]
namespace Ex
mutual
def gen (sl:ByteArray->Int) (fl:Int×ByteArray->Int):Ex->Int×ByteArray->List (Int×Int)
 | mk k n s sub,c=>Jae sl fl k n s c (genL sl fl k s c 0 sub)
def genL (sl:ByteArray->Int) (fl:Int×ByteArray->Int):Int->ByteArray->Int×ByteArray->Nat->List Ex->List (List (Int×Int))
 | _,_,_,_,[]=>[]
 | k,s,c,i,x :: r=>gen sl fl x (K4 k s c i) :: genL sl fl k s c (i+1) r
end
theorem gen_eq (sl:ByteArray->Int) (fl:Int×ByteArray->Int) (e:Ex) (c:Int×ByteArray):e.gen sl fl c=Jae sl fl e.kind e.n e.name c (genL sl fl e.kind e.name c 0 e.sub):=by cases e;rw [gen];rfl
theorem genL_len (sl:ByteArray->Int) (fl:Int×ByteArray->Int) (k:Int) (s:ByteArray) (c:Int×ByteArray):∀(r:List Ex) (i:Nat),(genL sl fl k s c i r).length=r.length
 | [],i=>by rw [genL];rfl
 | x :: r,i=>by rw [genL,List.length_cons,List.length_cons,genL_len sl fl k s c r]
theorem genL_get (sl:ByteArray->Int) (fl:Int×ByteArray->Int) (k:Int) (s:ByteArray) (c:Int×ByteArray):∀(r:List Ex) (i j:Nat) (x:Ex),r[j]?=some x->(genL sl fl k s c i r).getD j []=x.gen sl fl (K4 k s c (i+j))
 | [],i,j,x,h=>by simp at h
 | y :: r,i,0,x,h=>by simp at h;subst h;rw [genL];rfl
 | y :: r,i,j+1,x,h=>by
  rw [genL,show i+(j+1)=i+1+j from by omega];have:=genL_get sl fl k s c r (i+1) j x (by simpa using h);simpa using this
theorem choice_len (v a b:List (Int×Int)):(Yv v a b).length=v.length+a.length+b.length+2:=by unfold Yv;simp;omega
theorem gen_len (sl:ByteArray->Int) (fl:Int×ByteArray->Int) (e:Ex):∀c,(e.gen sl fl c).length<=3 * e.size:=by
 induction e using ind with
 | h e ih=>
  intro c
  have hs:∀(r:List Ex) (i:Nat),(∀x∈r,∀c,(x.gen sl fl c).length<=3 * x.size)->∀c,((genL sl fl e.kind e.name c i r).map List.length).sum<=3 * sizeL r:=by
   intro r
   induction r with
   | nil=>exact fun i _ c=>by rw [genL];simp [sizeL]
   | cons x r ihr=>
    intro i h c;have h1:=h x (by simp) (K4 e.kind e.name c i);have h2:=ihr (i+1) (fun y hy=>h y (by simp [hy])) c;rw [genL,List.map_cons,List.sum_cons,sizeL];omega
  have h0:=hs e.sub 0 ih c;rw [gen_eq,size_eq];generalize genL sl fl e.kind e.name c 0 e.sub=ps at h0 ⊢
  have hd:(ps.getD 0 []).length+(ps.getD 1 []).length+(ps.getD 2 []).length<=(ps.map List.length).sum:=by
   match ps with
   | []=>simp
   | [a]=>simp
   | [a,b]=>simp
   | a :: b :: d :: r=>simp;omega
  unfold Jae;generalize ps.getD 0 []=a at hd ⊢;generalize ps.getD 1 []=b at hd ⊢;generalize ps.getD 2 []=d at hd ⊢
  repeat' split
  all_goals first|omega|(rw [choice_len];simp only [List.length_cons,List.length_nil];omega)|(rw [choice_len];omega)|(simp only [List.length_append,List.length_cons,List.length_nil];omega)
end Ex
def Xu (L:List Va) (s:ByteArray):Int:=(Qi L s).getD 0
def Jav:Nat->List Ce->Int×ByteArray->Int
 | _,[],_=>0
 | i,x :: r,d=>if x.name.toList.isEmpty=true/\K9 x.ck x.cn d.1 d.2=true then(i:Int) else Jav (i+1) r d
def Kg (l:List Ce) (d:Int×ByteArray):Int:=Jav 0 l d
def Qk (sl:ByteArray->Int) (c:Int×ByteArray) (x:List (Int×Int)):List (Int×Int):=
 if c.1=1 then [(2,sl c.2),(11,(x.length:Int))] ++ x else if c.1=2 then [(2,sl c.2),(8,2),(11,(x.length:Int))] ++ x else x
def Yh (sl:ByteArray->Int):Nat->List Va->List (Int×Int)
 | _,[]=>[]
 | i,v :: r=>[(6,(i:Int)),(3,sl v.name)] ++ Yh sl (i+1) r
def Zx (sl:ByteArray->Int):Nat->List Qe->List (Int×Int)
 | _,[]=>[]
 | k,q :: r=>[(4,(k:Int)),(3,sl q.name)] ++ Zx sl (k+1) r
def Zu (sl:ByteArray->Int) (fl:Int×ByteArray->Int) (L:List Va):Nat->List Qe->List (Int×Int)
 | _,[]=>[]
 | k,q :: r=>Qk sl (J9 L q.name) (q.e.gen sl fl (J9 L q.name) ++ [(5,(k:Int))]) ++ Zu sl fl L (k+1) r
def Ze (sl:ByteArray->Int):Nat->List Ce->List (Int×Int)
 | _,[]=>[]
 | k,c :: r=>Qk sl (c.ck,c.cn) [(1,1),(5,(k:Int))] ++ Ze sl (k+1) r
def Xd (sl:ByteArray->Int) (fl:Int×ByteArray->Int) (L:List Va) (eqs:List Qe):List Int->List (Int×Int)
 | []=>[]
 | j :: r=>(match eqs[j.toNat]? with|some q=>Qk sl (J9 L q.name) (q.e.gen sl fl (J9 L q.name) ++ [(3,sl q.name)])|none=>[]) ++ Xd sl fl L eqs r
def Xl (sl:ByteArray->Int):Nat->List Va->List (Int×Int)
 | _,[]=>[]
 | i,v :: r=>[(2,sl v.name),(7,(i:Int))] ++ Xl sl (i+1) r
def Xs (p:Pr):List (Int×Int):=
 Yh (Xu (Je p)) 0 p.ins ++ Zx (Xu (Je p)) 0 (J0 p.eqs) ++ Xd (Xu (Je p)) (Kg (Jq p)) (Je p) p.eqs (J1 p).1 ++
 Zu (Xu (Je p)) (Kg (Jq p)) (Je p) 0 (J0 p.eqs) ++ Ze (Xu (Je p)) (J0 p.eqs).length ((Jq p).drop (J0 p.eqs).length) ++ Xl (Xu (Je p)) 0 p.outs
def Xg (p:Pr):List (Int×Int)×(Int×Int×Int×Int×Int)×(Int×Int×Int):=
 if (Kf p).2=(0,0,0) then
  if 600<(Xs p).length then([],(0,0,0,0,0),(4,0,3))
  else(Xs p,((Je p).length,(Jq p).length,(Jq p).length,p.ins.length,p.outs.length),(0,0,0))
 else([],(0,0,0,0,0),(Kf p).2)
end Go.Proofs.YtdgjplldlfeolaaGreatDoor
namespace Go.Proofs.YtdgjplldlfeolaaGreatDoor
open Go.RowKit Go.Sort Go.Maps
theorem Jky (n:Nat) (h:n<=1000000):IntKind.i32.wrap (n:Int)=(n:Int):=Jbn (by unfold I32;omega)
theorem Jqp (n:Nat) (h:n<=1000000):IntKind.i32.wrap ((n:Int)+1)=(n:Int)+1:=Jbn (by unfold I32;omega)
theorem J3.one {w:World} {base g:Nat} {x:Int×Int} (h:w.ownsRow base 122 2 (.slice (some ⟨g,0,none⟩) 1 1) 1 (cdC [x])):J3 w [x] (some ⟨g,0,none⟩) 1:=by
 obtain⟨A,cap,hv,aY⟩:=J3.of_own (l:=[x]) h;injection hv with e1 e2 e3;subst e1 e3;exact aY
theorem X9.less {w w2:World} {l:List (Int×Int)} {r:Ending} {w':World} (h:X9 w2 l r w') (hb:Below w.heap.size w w2):X9 w l r w':=by
 obtain⟨⟨v,hr,ae⟩,aq⟩:=h;exact⟨⟨v,hr,K8 ae hb.size⟩,Jd hb aq⟩
theorem Jan {w:World} {ps:List Jbv} {c:Array Value} {t:TypeId} (hc:c=(ps.map Jbv.val).toArray) (hi:∀x∈ps,J3 w x.l x.A x.cap):Je1 (w.alloc (.cells c t)) ps (some ⟨w.heap.size,0,none⟩):=by
 refine⟨fun _=>⟨w.heap.size,0,rfl,fun k x hk=>?_⟩,fun x hx=>(hi x hx).later (Jc (Below.refl _ _) _)⟩;rw [Nat.zero_add,Kw,hc,List.getElem?_toArray,List.getElem?_map,hk];rfl
theorem Jg5 (v a b:List (Int×Int)) (A1:Option Addr) (c1:Nat) (A2:Option Addr) (c2:Nat) (A3:Option Addr) (c3:Nat) (w:World) (h1:J3 w v A1 c1) (h2:J3 w a A2 c2) (h3:J3 w b A3 c3) (hl:v.length+a.length+b.length<=900000) :
  Calls Tryz.prog 120 #[.slice A1 v.length c1,.slice A2 a.length c2,.slice A3 b.length c3] w (X9 w (Yv v a b)):=by
 have t1:=Jqp a.length (by omega);have t2:=Jky b.length (by omega);have l2:=h2.1;have l3:=h3.1;have m2:=h2.2.1;have m3:=h3.2.1;unfold maxLen at m2 m3
 have ay:=fun(g1 g2:Nat) (W:World) (hb:Below w.heap.size w W) (dN:J3 W [(11,(a.length:Int)+1)] (some ⟨g1,0,none⟩) 1) (dR:J3 W [(10,(b.length:Int))] (some ⟨g2,0,none⟩) 1) (t:TypeId)=>
  Jc0 [⟨v,A1,c1⟩,⟨[(11,(a.length:Int)+1)],some ⟨g1,0,none⟩,1⟩,⟨a,A2,c2⟩,⟨[(10,(b.length:Int))],some ⟨g2,0,none⟩,1⟩,⟨b,A3,c3⟩] (some ⟨W.heap.size,0,none⟩) 5
   (W.alloc (.cells #[.slice A1 v.length c1,.slice (some ⟨g1,0,none⟩) 1 1,.slice A2 a.length c2,.slice (some ⟨g2,0,none⟩) 1 1,.slice A3 b.length c3] t))
   (Jan rfl fun x hx=>by
    simp only [List.mem_cons,List.not_mem_nil,or_false] at hx
    rcases hx with rfl|rfl|rfl|rfl|rfl
    ·exact h1.later hb
    ·exact dN
    ·exact h2.later hb
    ·exact dR
    ·exact h3.later hb)
   (by simp [Qu];omega) (by simp)
 have gM:∀g1 g2:Nat,Qu [⟨v,A1,c1⟩,⟨[(11,(a.length:Int)+1)],some ⟨g1,0,none⟩,1⟩,⟨a,A2,c2⟩,⟨[(10,(b.length:Int))],some ⟨g2,0,none⟩,1⟩,⟨b,A3,c3⟩]=Yv v a b:=fun g1 g2=>by simp [Qu,Yv]
 simp only [gM] at ay;have jZ:=Lib.hid ay;clear ay gM h1 h2 h3
 go_enter Tryz.func120,Tryz.ntmps120
 go_wp2_with (first
  | (go_at_call_of 103 (Value.int IntKind.i64 11);go_loud (refine(Jak _ _ _).mono ?_;rintro r w1 ⟨⟨rfl,ba⟩,ac⟩;have dN:=J3.one ba;have af:=ac.size;clear ba))
  | (go_at_call_of 103 (Value.int IntKind.i64 10);go_loud (refine(Jak _ _ _).mono ?_;rintro r w2 ⟨⟨rfl,ao⟩,aq⟩;have dR:=J3.one ao;have br:=aq.size;clear ao))
  | (go_at_call 102;go_loud (refine(jZ.out w.heap.size w1.heap.size w2 Jb (dN.later Jb) dR _).mono ?_;rintro r w4 ⟨⟨v4,rfl,cj⟩,ei⟩)))
 go_ret;exact⟨⟨_,rfl,K8 cj (by simp;omega)⟩,Jb⟩
def Jci (w:World) (l:List (Int×Int)) (r:Ending) (w':World):Prop:=(∃A cap,r = .returned (.slice A l.length cap)/\J3 w' l A cap)/\Below w.heap.size w w'
theorem X9.at {w:World} {l:List (Int×Int)} {r:Ending} {w':World} (h:X9 w l r w'):Jci w l r w':=by
 obtain⟨⟨v,hr,ae⟩,hb⟩:=h;obtain⟨A,cap,rfl,aY⟩:=J3.of_own ae;exact⟨⟨A,cap,hr,aY⟩,hb⟩
theorem Jci.less {w w2:World} {l:List (Int×Int)} {r:Ending} {w':World} (h:Jci w2 l r w') (hb:Below w.heap.size w w2):Jci w l r w':=⟨h.1,Jd hb h.2⟩
structure Jb1 (W:World) (X Bs Bf:Nat) (sl:ByteArray->Int) (fl:Int×ByteArray->Int):Prop where
 c0:W.cell? ⟨X,0,none⟩=some (.map (some Bs))
 c2:W.cell? ⟨X,2,none⟩=some (.map (some Bf))
 slots:∃n f c,Q3 Tryz.prog 9 21 .i32 okS klS W Bs n f c/\∀s,okS s->(f s).getD 0=sl s
 flags:∃n f c,Q3 Tryz.prog 81 21 .i32 okC klC W Bf n f c/\∀s,okC s->(f s).getD 0=fl s
theorem Jb1.later {W W':World} {X Bs Bf:Nat} {sl:ByteArray->Int} {fl:Int×ByteArray->Int} (h:Jb1 W X Bs Bf sl fl) (hb:Below W.heap.size W W'):Jb1 W' X Bs Bf sl fl:=by
 obtain⟨c0,c2,⟨n,f,c,hm,hf⟩,⟨n',f',c',yp,hf'⟩⟩:=h;exact⟨Ja hb c0,Ja hb c2,⟨n,f,c,hm.bel hb,hf⟩,⟨n',f',c',yp.bel hb,hf'⟩⟩
theorem Jbp (w:World):(zeroValue 21).run Tryz.prog w = .ok (.int .i32 0) w:=by kernel_rfl
theorem Kal (w:World) (k:Int) (cs:ByteArray):(w.alloc (.cells #[.int .i64 k,.string cs] 81)).drew.cell? ⟨w.heap.size,0,none⟩=some (.int .i64 k):=by
 go_simp
theorem Jh7 (X Bs Bf:Nat) (sl:ByteArray->Int) (fl:Int×ByteArray->Int) (ck:Int) (cs:ByteArray) (l:List (Int×Int)) (A:Option Addr) (cap:Nat) (w:World) (hp:Jb1 w X Bs Bf sl fl) (hc:okC (ck,cs)) (hk:ck=0\/ck=1\/ck=2) (hl:J3 w l A cap) (ai:l.length<=900000) :
  Calls Tryz.prog 104 #[.pointer (some ⟨X,0,none⟩),.agg #[.int .i64 ck,.string cs],.slice A l.length cap] w (Jci w (Qk sl (ck,cs) l)):=by
 obtain⟨c0,c2,⟨n,f,c,hm,hf⟩,_⟩:=hp;have dj:okS cs:=hc.2;have eB:=hf cs dj;have hX:X<w.heap.size:=block_lt_of_cell c0;have t1:=Jky l.length (by omega);have l2:=hl.1;have m2:=hl.2.1;unfold maxLen at m2;have HF:=Lib.hid eB;have HM:=Lib.hid hm
 have sD:=(fun(g1 g2:Nat) (W:World) (hb:Below w.heap.size w W) (dN:J3 W [(2,sl cs)] (some ⟨g1,0,none⟩) 1) (dR:J3 W [(11,(l.length:Int))] (some ⟨g2,0,none⟩) 1) (t:TypeId)=>
  Jc0 [⟨[(2,sl cs)],some ⟨g1,0,none⟩,1⟩,⟨[(11,(l.length:Int))],some ⟨g2,0,none⟩,1⟩,⟨l,A,cap⟩] (some ⟨W.heap.size,0,none⟩) 3
   (W.alloc (.cells #[.slice (some ⟨g1,0,none⟩) 1 1,.slice (some ⟨g2,0,none⟩) 1 1,.slice A l.length cap] t))
   (Jan rfl fun x hx=>by
    simp only [List.mem_cons,List.not_mem_nil,or_false] at hx
    rcases hx with rfl|rfl|rfl
    ·exact dN
    ·exact dR
    ·exact hl.later hb)
   (by simp [Qu];omega) (by simp))
 have sE:=(fun(g1 g2 g3:Nat) (W:World) (hb:Below w.heap.size w W) (dN:J3 W [(2,sl cs)] (some ⟨g1,0,none⟩) 1) (dR:J3 W [(11,(l.length:Int))] (some ⟨g2,0,none⟩) 1) (iI:J3 W [(8,2)] (some ⟨g3,0,none⟩) 1) (t:TypeId)=>
  Jc0 [⟨[(2,sl cs)],some ⟨g1,0,none⟩,1⟩,⟨[(8,2)],some ⟨g3,0,none⟩,1⟩,⟨[(11,(l.length:Int))],some ⟨g2,0,none⟩,1⟩,⟨l,A,cap⟩] (some ⟨W.heap.size,0,none⟩) 4
   (W.alloc (.cells #[.slice (some ⟨g1,0,none⟩) 1 1,.slice (some ⟨g3,0,none⟩) 1 1,.slice (some ⟨g2,0,none⟩) 1 1,.slice A l.length cap] t))
   (Jan rfl fun x hx=>by
    simp only [List.mem_cons,List.not_mem_nil,or_false] at hx
    rcases hx with rfl|rfl|rfl|rfl
    ·exact dN
    ·exact iI
    ·exact dR
    ·exact hl.later hb)
   (by simp [Qu];omega) (by simp))
 have rt:∀g1 g2:Nat,Qu [⟨[(2,sl cs)],some ⟨g1,0,none⟩,1⟩,⟨[(11,(l.length:Int))],some ⟨g2,0,none⟩,1⟩,⟨l,A,cap⟩]=Qk sl (1,cs) l:=fun _ _=>by simp [Qu,Qk]
 have yr:∀g1 g2 g3:Nat,Qu [⟨[(2,sl cs)],some ⟨g1,0,none⟩,1⟩,⟨[(8,2)],some ⟨g3,0,none⟩,1⟩,⟨[(11,(l.length:Int))],some ⟨g2,0,none⟩,1⟩,⟨l,A,cap⟩]=Qk sl (2,cs) l:=fun _ _ _=>by simp [Qu,Qk]
 simp only [rt] at sD;simp only [yr] at sE;have ru:Qk sl (0,cs) l=l:=by simp [Qk]
 have HU0:=Lib.hid ru;have HL:=Lib.hid hl;clear hm hf eB hl hc rt yr ru;have rv:=fun(k:Int)=>Jcb (w:=(w.alloc (.cells #[.int .i64 k,.string cs] 81)).drew) (Jc2 Tryz.underlying9) (x:= .string cs) Tryz.underlying204 Tryz.underlying21 (Jbp _) rfl (HM.out.bel Jb) dj HF.out;have hlk1:=rv 0;have hlk2:=rv 1;have hlk3:=rv 2;clear rv
 rcases hk with rfl|rfl|rfl
 all_goals
  go_enter Tryz.func104,Tryz.ntmps104
  go_wp2_with fail
  go_region_law (go_simp;go_wp2_with (first
     | (go_at_call_of 103 (Value.int IntKind.i64 2);go_loud (refine(Jak _ _ _).mono ?_;rintro r w1 ⟨⟨rfl,ba⟩,ac⟩;have dN:=J3.one ba;have af:=ac.size;(try simp at af);clear ba))
     | (go_at_call_of 103 (Value.int IntKind.i64 11);go_loud (refine(Jak _ _ _).mono ?_;rintro r w2 ⟨⟨rfl,ao⟩,aq⟩;have dR:=J3.one ao;have br:=aq.size;(try simp at br);clear ao))))
 all_goals
  have cT:Below w.heap.size w w1:=(Jh (Jc (Below.refl _ _) _)).trans (ac.mono (by simp));have hB:Below w.heap.size w w2:=cT.trans (aq.mono cT.size);have q0:=Ja aq (Ja ac (Kal _ _ _));have uc:=dN.later aq;rw [show ∀k:Int,(w.alloc (.cells #[.int .i64 k,.string cs] 81)).drew.heap.size=w.heap.size+1 from fun _=>by simp] at uc;clear dN
 ·go_wp2_with fail
  go_ret;rw [HU0.out];exact⟨⟨_,_,rfl,HL.out.later hB⟩,hB⟩
 ·go_wp2_with fail
  go_ret;rw [HU0.out];exact⟨⟨_,_,rfl,HL.out.later hB⟩,hB⟩
 iterate 2
  ·go_wp2_with (go_at_call 102;go_loud (refine(sD _ _ w2 hB uc dR _).mono ?_;intro r w4 aZ;obtain⟨⟨A4,c4,rfl,gP⟩,ei⟩:=aZ.at.less (Jc hB _);clear aZ))
   go_ret;exact⟨⟨_,_,rfl,gP⟩,ei⟩
 iterate 2
  ·go_wp2_with (first
    | (go_at_call_of 103 (Value.int IntKind.i64 8);go_loud (refine(Jak _ _ _).mono ?_;rintro r w3 ⟨⟨rfl,aE⟩,aM⟩;have iI:=J3.one aE;have fe:=aM.size;have cZ:=hB.trans (aM.mono hB.size);clear aE))
    | (go_at_call 102;go_loud (refine(sE _ _ _ w3 cZ (uc.later aM) (dR.later aM) iI _).mono ?_;intro r w4 aZ;obtain⟨⟨A4,c4,rfl,gP⟩,ei⟩:=aZ.at.less (Jc cZ _);clear aZ)))
   go_ret;exact⟨⟨_,_,rfl,gP⟩,ei⟩
end Go.Proofs.YtdgjplldlfeolaaGreatDoor
namespace Go.Proofs.YtdgjplldlfeolaaGreatDoor
open Go.RowKit
theorem Jgj {α:Type} {P:List α->Prop} (h0:P []) (h1:∀l x,P l->P (l ++ [x])):∀l,P l:=fun l=>by
 have:∀r:List α,P r.reverse:=fun r=>by
  induction r with
  | nil=>exact h0
  | cons x r ih=>rw [List.reverse_cons];exact h1 _ _ ih
 rw [<-List.reverse_reverse l];exact this _
def Jft (L:List Va) (s:ByteArray):Option Int:=L.zipIdx.foldl (fun c v=>if s.data=v.1.name.data then some (v.2:Int) else c) none
theorem Jeh (L:List Va) (v:Va) (s:ByteArray):Jft (L ++ [v]) s=if s.data=v.name.data then some (L.length:Int) else Jft L s:=by
 unfold Jft;rw [List.zipIdx_append,List.foldl_append];simp [List.zipIdx]
def Jcq (L:List Va) (s:ByteArray):Option (Int×ByteArray):=L.foldl (fun c v=>if s.data=v.name.data then some (v.ck,v.cn) else c) none
theorem Jce (L:List Va) (v:Va) (s:ByteArray):Jcq (L ++ [v]) s=if s.data=v.name.data then some (v.ck,v.cn) else Jcq L s:=by
 unfold Jcq;rw [List.foldl_append];rfl
def Jeg (l:List Ce) (d:Int×ByteArray):Option Int:=l.zipIdx.foldl (fun c x=>if x.1.name.toList.isEmpty=true/\d.1=x.1.ck/\d.2.data=x.1.cn.data then some (x.2:Int) else c) none
theorem Jef (l:List Ce) (x:Ce) (d:Int×ByteArray):Jeg (l ++ [x]) d=if x.name.toList.isEmpty=true/\d.1=x.ck/\d.2.data=x.cn.data then some (l.length:Int) else Jeg l d:=by
 unfold Jeg;rw [List.zipIdx_append,List.foldl_append];simp [List.zipIdx]
theorem Jlb (v:Va) (s:ByteArray):∀(L:List Va) (i:Int),Xf (L ++ [v]) s i=match Xf L s i with|some j=>some j|none=>if s.data=v.name.data then some (i+(L.length:Int)) else none
 | [],i=>by simp [Xf]
 | u :: L,i=>by
  simp only [List.cons_append,Xf]
  split
  ·rfl
  ·rw [Jlb v s L (i+1)]
   cases Xf L s (i+1)
   ·simp only [List.length_cons]
    split
    ·congr 1;omega
    ·rfl
   ·rfl
theorem Jlv:∀(L:List Va) (s:ByteArray) (i:Int),(∀u∈L,u.name≠s)->Xf L s i=none
 | [],s,i,_=>rfl
 | u :: L,s,i,h=>by
  have h1:=h u (by simp);rw [Xf,if_neg (fun he=>h1 (by ext1;exact he.symm))];exact Jlv L s (i+1) fun y hy=>h y (by simp [hy])
theorem Jrw (s:ByteArray):∀(L:List Va),(L.map (·.name)).Nodup->Jft L s=Qi L s:=by
 refine Jgj (fun _=>rfl) fun L v ih hn=>?_
 ·rw [List.map_append,List.nodup_append] at hn;rw [Jeh,ih hn.1];unfold Qi;rw [Jlb]
  by_cases hs:s.data=v.name.data
  ·have hsv:s=v.name:=by ext1;exact hs
   rw [Jlv L s 0 (fun u hu he=>hn.2.2 u.name (List.mem_map.2 ⟨u,hu,rfl⟩) v.name (by simp) (he.trans hsv))];simp [hs]
  ·rw [if_neg hs]
   cases Xf L s 0 <;> simp [hs]
theorem Jtm (s:ByteArray):∀(L:List Va),(∀u∈L,u.name≠s)->Jft L s=none:=by
 refine Jgj (fun _=>rfl) fun L v ih h=>?_;rw [Jeh,if_neg (fun he=>h v (by simp) (by ext1;exact he.symm))];exact ih fun u hu=>h u (by simp [hu])
theorem Jlc (s:ByteArray):∀(L:List Va),(∀u∈L,u.name≠s)->Jcq L s=none:=by
 refine Jgj (fun _=>rfl) fun L v ih h=>?_;rw [Jce,if_neg (fun he=>h v (by simp) (by ext1;exact he.symm))];exact ih fun u hu=>h u (by simp [hu])
theorem Jid {L:List Va} (hn:(L.map (·.name)).Nodup) {k:Nat} {x:Va} (hx:L[k]?=some x):∀u∈L.take k,u.name≠x.name:=by
 intro u hu he;obtain⟨j,hj⟩:=List.getElem?_of_mem hu
 have tB:j<k:=by
  have:=(List.getElem?_eq_some_iff.1 hj).1;rw [List.length_take] at this;omega
 rw [List.getElem?_take,if_pos tB] at hj;have e1:(L.map (·.name))[j]?=some x.name:=by rw [List.getElem?_map,hj];simp [he]
 have e2:(L.map (·.name))[k]?=some x.name:=by rw [List.getElem?_map,hx];rfl
 obtain⟨l1,g1⟩:=List.getElem?_eq_some_iff.1 e1;obtain⟨l2,g2⟩:=List.getElem?_eq_some_iff.1 e2;have:=(List.getElem_inj hn).1 (g1.trans g2.symm);omega
theorem Jiv (s:ByteArray):∀L:List Va,(Jcq L s).getD (0,⟨#[]⟩)=L.foldl (fun c v=>if s.data=v.name.data then(v.ck,v.cn) else c) (0,⟨#[]⟩):=by
 refine Jgj rfl fun L v ih=>?_
 ·rw [Jce,List.foldl_append];simp only [List.foldl_cons,List.foldl_nil]
  split
  ·rfl
  ·exact ih
def Jc3 (x:Ce) (d:Int×ByteArray):Prop:=x.name.toList.isEmpty=true/\K9 x.ck x.cn d.1 d.2=true
theorem Jlk (x:Ce) (d:Int×ByteArray) (hx:Jc3 x d):∀(l:List Ce) (i:Nat),(∀u∈l,¬Jc3 u d)->Jav i (l ++ [x]) d=((i+l.length:Nat):Int)
 | [],i,_=>by
  unfold Jc3 at hx;simp only [List.nil_append,Jav];rw [if_pos hx];rfl
 | u :: l,i,h=>by
  have h1:=h u (by simp);unfold Jc3 at h1;rw [List.cons_append,Jav,if_neg h1,Jlk x d hx l (i+1) fun y hy=>h y (by simp [hy]),List.length_cons]
  congr 1;omega
theorem Jk5 (x:Ce) (d:Int×ByteArray) (hx:¬Jc3 x d):∀(l:List Ce) (i:Nat),Jav i (l ++ [x]) d=Jav i l d
 | [],i=>by
  unfold Jc3 at hx;simp only [List.nil_append,Jav];rw [if_neg hx]
 | u :: l,i=>by
  rw [List.cons_append,Jav,Jav]
  split
  ·rfl
  ·exact Jk5 x d hx l (i+1)
theorem Jee (x:Ce) (d:Int×ByteArray):(x.name.toList.isEmpty=true/\d.1=x.ck/\d.2.data=x.cn.data)<->Jc3 x d:=by
 unfold Jc3;rw [Jdg]
 constructor
 ·rintro⟨h1,h2,h3⟩;exact⟨h1,h2.symm,by rw [Jxo.1 h3]⟩
 ·rintro⟨h1,h2,h3⟩;exact⟨h1,h2.symm,by rw [Jej h3]⟩
theorem Jtp (d:Int×ByteArray):∀l:List Ce,Jha l->(Jeg l d).getD 0=Kg l d:=by
 refine Jgj (fun _=>rfl) fun l x ih h=>?_;unfold Jha at h ih;rw [List.pairwise_append] at h;rw [Jef];unfold Kg at ih ⊢
 by_cases hx:Jc3 x d
 ·rw [if_pos ((Jee x d).2 hx),Jlk x d hx l 0 fun u hu hud=>?_]
  ·simp
  ·have h1:=(Jee x d).2 hx;have h2:=(Jee u d).2 hud;exact h.2.2 u hu x (by simp) h2.1 h1.1 (Prod.ext (h2.2.1.symm.trans h1.2.1) (Jxo.1 (h2.2.2.symm.trans h1.2.2)))
 ·rw [if_neg (fun he=>hx ((Jee x d).1 he)),Jk5 x d hx];exact ih h.1
end Go.Proofs.YtdgjplldlfeolaaGreatDoor
