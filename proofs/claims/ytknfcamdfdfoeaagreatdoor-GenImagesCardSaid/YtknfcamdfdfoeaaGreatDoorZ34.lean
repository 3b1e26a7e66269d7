/- Lemmas. -/
import Derived.Test.YtknfcamdfdfoeaaGreatDoorMac
import Derived.Test.YtknfcamdfdfoeaaGreatDoorZ29
import Derived.Test.YtknfcamdfdfoeaaGreatDoorZ24
import Derived.Test.YtknfcamdfdfoeaaGreatDoorZ09
import Derived.Test.YtknfcamdfdfoeaaGreatDoorZ07
import Derived.Test.YtknfcamdfdfoeaaGreatDoorZ05
import Derived.Test.YtknfcamdfdfoeaaGreatDoorZ12
import Derived.Test.YtknfcamdfdfoeaaGreatDoorZ18
import Derived.Deep.RegionLaw
set_option linter.unusedVariables false
set_option linter.unusedSimpArgs false
set_option maxRecDepth 100000
set_option maxHeartbeats 64000000
namespace Go.Proofs.YtknfcamdfdfoeaaGreatDoor
open Go.RowKit
def Kao (f:Fr) (c:List (Int×Int)) (d d':Int):Prop:=
 ∀(n k e:Nat) (rest:List (Int×Int)) (ps:List Pl) (dep:Int),e=k+c.length->ps.length=n+1->e<=n->
  (∃u,ps[k]?=some ⟨true,d,u⟩)->(∀j,k<j->j<e->ps[j]?=some Pl.no)->(ps[e]?=some Pl.no\/∃u,ps[e]?=some ⟨true,d',u⟩)->
  ∃ps' dep',goJ f n k (c ++ rest) ps dep=goJ f n e rest ps' dep'/\ps'.length=n+1/\(∃u,ps'[e]?=some ⟨true,d',u⟩)/\∀j,e<j->ps'[j]?=ps[j]?
theorem Ka7 {ps:List Pl} {tg:Nat} {d:Int} (f:Int) (h:ps[tg]?=some Pl.no\/∃u,ps[tg]?=some ⟨true,d,u⟩):∃u,Ja5 ps tg d f=some (ps.set tg ⟨true,d,u⟩):=by
 unfold Ja5
 rcases h with h|⟨u,h⟩
 ·rw [h];exact⟨f,by simp [Pl.no]⟩
 ·rw [h];exact⟨max u f,Ul⟩
theorem Ka6 {ps:List Pl} {k:Nat} {p:Pl} (h:ps[k]?=some p):ps.getD k Pl.no=p:=by
 rw [List.getD_eq_getElem?_getD,h];rfl
theorem Kc4 {f:Fr} {k:Nat} {op n d d' u:Int} {ps:List Pl} (dep:Int) (hs:ps[k]?=some ⟨true,d,u⟩) (hr:Qj (op,n)=0) (xC:Xn op f<0\/n<Xn op f) (ht:Ky op<=d) (hd:d'=d-Ky op+Kan op) (h16:d'<=16) (hj:op≠10/\op≠11)
  (he:ps[k+1]?=some Pl.no\/∃u,ps[k+1]?=some ⟨true,d',u⟩):∃u',Jct f k (op,n) ps dep=(0,ps.set (k+1) ⟨true,d',u'⟩,max dep d'):=by
 obtain⟨u',hc⟩:=Ka7 (u+1) he;refine⟨u',?_⟩;unfold Jct;rw [Ka6 hs];dsimp only;rw [<-hd,if_neg (by rw [hr];decide),if_neg Ua,if_neg Ux,if_neg Ua,if_neg Ua,if_neg hj.1,hc];dsimp only;rw [if_neg Ua]
theorem Kb2 {f:Fr} {k:Nat} {n d u:Int} {ps:List Pl} (dep:Int) (m:Nat) (hm:n=m) (hs:ps[k]?=some ⟨true,d,u⟩) (h65:m<=65535) (hd:1<=d) (h16:d<=16) (am:k+1+m<ps.length)
  (h1:ps[k+1]?=some Pl.no\/∃u,ps[k+1]?=some ⟨true,d-1,u⟩) (h2:ps[k+1+m]?=some Pl.no\/∃u,ps[k+1+m]?=some ⟨true,d-1,u⟩) :
  ∃u1 u2,Jct f k (11,n) ps dep=(0,(ps.set (k+1) ⟨true,d-1,u1⟩).set (k+1+m) ⟨true,d-1,u2⟩,max dep (d-1)):=by
 obtain⟨u1,ak⟩:=Ka7 (u+1) h1
 have h3:(ps.set (k+1) ⟨true,d-1,u1⟩)[k+1+m]?=some Pl.no\/∃u,(ps.set (k+1) ⟨true,d-1,u1⟩)[k+1+m]?=some ⟨true,d-1,u⟩:=by
  rcases Nat.eq_zero_or_pos m with h0|h0
  ·subst h0;exact .inr ⟨u1,List.getElem?_set_self Ua⟩
  ·rw [List.getElem?_set_ne Ua];exact h2
 obtain⟨u2,dm⟩:=Ka7 (u+1) h3;refine⟨u1,u2,?_⟩;have ht:Ky 11=1:=rfl;have hg:Kan 11=0:=rfl;have gm:Xn 11 f = -1:=rfl
 have hr:Qj (11,n)=0:=by
  unfold Qj;simp only [show Qp 11=2 from rfl];exact Ugj
 unfold Jct;rw [Ka6 hs];dsimp only;rw [ht,hg,gm,show d-1+0=d-1 from by omega,if_neg (by rw [hr];decide),if_neg Ua,if_neg Ux,if_neg Ua,if_neg Ua,if_neg Ux,ak];dsimp only;rw [if_pos (.inr rfl),show((k:Int)+1+n).toNat=k+1+m from by omega,dm]
theorem Kcz {f:Fr} {k:Nat} {n d u:Int} {ps:List Pl} (dep:Int) (m:Nat) (hm:n=m) (hs:ps[k]?=some ⟨true,d,u⟩) (h65:m<=65535) (hd:0<=d) (h16:d<=16) (am:k+1+m<ps.length)
  (h2:ps[k+1+m]?=some Pl.no\/∃u,ps[k+1+m]?=some ⟨true,d,u⟩) :
  ∃u2,Jct f k (10,n) ps dep=(0,ps.set (k+1+m) ⟨true,d,u2⟩,max dep d):=by
 obtain⟨u2,dm⟩:=Ka7 (u+1) h2;refine⟨u2,?_⟩;have ht:Ky 10=0:=rfl;have hg:Kan 10=0:=rfl;have gm:Xn 10 f = -1:=rfl
 have hr:Qj (10,n)=0:=by
  unfold Qj;simp only [show Qp 10=2 from rfl];exact Ugj
 unfold Jct;rw [Ka6 hs];dsimp only;rw [ht,hg,gm,show d-0+0=d from by omega,if_neg (by rw [hr];decide),if_neg Ua,if_neg Ux,if_neg Ua,if_neg Ua,if_pos rfl];dsimp only;rw [if_pos (.inl rfl),show((k:Int)+1+n).toNat=k+1+m from by omega,dm]
theorem Ka2 {f:Fr} {n k:Nat} {i:Int×Int} {r:List (Int×Int)} {ps ps':List Pl} {dep dep':Int} (h:Jct f k i ps dep=(0,ps',dep')):goJ f n k (i :: r) ps dep=goJ f n (k+1) r ps' dep':=by
 rw [goJ,h,if_neg Ul]
theorem Kao.op {f:Fr} {op n d d':Int} (hr:Qj (op,n)=0) (xC:Xn op f<0\/n<Xn op f) (ht:Ky op<=d) (hd:d'=d-Ky op+Kan op) (h16:d'<=16) (hj:op≠10/\op≠11):Kao f [(op,n)] d d':=by
 intro m k e rest ps dep he hl hk ⟨u,hs⟩ _ wt;obtain rfl:e=k+1:=Ta;obtain⟨u',ho⟩:=Kc4 dep hs hr xC ht hd h16 hj wt;refine⟨_,_,Ka2 ho,by rw [List.length_set];exact hl,⟨u',List.getElem?_set_self Ua⟩,fun j hj=>List.getElem?_set_ne Ua⟩
theorem Kao.nil {f:Fr} {d:Int} : Kao f [] d d:=by
 intro m k e rest ps dep he hl hk hs _ wt;obtain rfl:e=k:=Ta;exact⟨ps,dep,rfl,hl,hs,fun _ _=>rfl⟩
theorem Kao.app {f:Fr} {c1 c2:List (Int×Int)} {d d1 d2:Int} (h1:Kao f c1 d d1) (h2:Kao f c2 d1 d2) (eR:c1≠[]\/d=d1) (eu:c2≠[]\/d1=d2):Kao f (c1 ++ c2) d d2:=by
 intro n k e rest ps dep he hl hk hs dV wt;rw [Nk] at he
 have hmid:ps[k+c1.length]?=some Pl.no\/∃u,ps[k+c1.length]?=some ⟨true,d1,u⟩:=by
  rcases List.eq_nil_or_concat c2 with h0|⟨_,_,h0⟩
  ·subst h0;obtain rfl:d1=d2:=by simpa using eu
   rw [show k+c1.length=e by simpa using he.symm];exact wt
  ·have hp:0<c2.length:=by rw [h0];simp
   rcases List.eq_nil_or_concat c1 with h3|⟨_,_,h3⟩
   ·subst h3;obtain rfl:d=d1:=by simpa using eR
    exact .inr hs
   ·have ii:0<c1.length:=by rw [h3];simp
    exact .inl (dV _ Ua Ua)
 obtain⟨ps1,dep1,g1,l1,s1,k1⟩:=h1 n k (k+c1.length) (c2 ++ rest) ps dep rfl hl Ua hs (fun j a b=>dV j a Ua) hmid
 have hend2:ps1[e]?=some Pl.no\/∃u,ps1[e]?=some ⟨true,d2,u⟩:=by
  rcases Nat.eq_zero_or_pos c2.length with h0|h0
  ·have hc:c2 = []:=List.eq_nil_of_length_eq_zero h0;obtain rfl:d1=d2:=by rcases eu with h|h;exact absurd hc h;exact h
   rw [show e=k+c1.length by omega];exact .inr s1
  ·rw [k1 e Ua];exact wt
 obtain⟨ps2,dep2,g2,l2,s2,k2⟩:=h2 n (k+c1.length) e rest ps1 dep1 Ua l1 hk s1 (fun j a b=>(k1 j a).trans (dV j Ua b)) hend2;exact⟨ps2,dep2,by rw [List.append_assoc,g1,g2],l2,s2,fun j hj=>(k2 j hj).trans (k1 j Ua)⟩
theorem Kao.either {f:Fr} {a b:List (Int×Int)} {d:Int} (ha:Kao f a d (d+1)) (hb:Kao f b d (d+1)) (na:0<a.length) (nb:0<b.length) (la:a.length<=65000) (lb:b.length<=65000) (h0:0<=d) (h16:d+1<=16) :
  Kao f ([(11,(a.length:Int)+1)] ++ a ++ [(10,(b.length:Int))] ++ b) (d+1) (d+1):=by
 intro n k e rest ps dep he hl hk ⟨u,hs⟩ dV wt;simp only [Nk,Nl,Nm] at he;obtain⟨u1,u2,ho⟩:=Kb2 (f:=f) dep (a.length+1) (n:=(a.length:Int)+1) Ua hs Ua Ua Ua Ua (.inl (dV _ Ua Ua)) (.inl (dV _ Ua Ua));rw [show d+1-1=d from by omega] at ho;generalize zf:(ps.set (k+1) ⟨true,d,u1⟩).set (k+1+(a.length+1)) ⟨true,d,u2⟩=ps1 at ho;have l1:ps1.length=n+1:=by rw [<-zf,List.length_set,List.length_set];exact hl
 have s1:ps1[k+1]?=some ⟨true,d,u1⟩:=Ugl;have s2:ps1[k+1+(a.length+1)]?=some ⟨true,d,u2⟩:=by rw [<-zf];exact List.getElem?_set_self (by rw [List.length_set];omega)
 have s3:∀j,j≠k+1->j≠k+1+(a.length+1)->ps1[j]?=ps[j]?:=fun j h1 h2=>by rw [<-zf,List.getElem?_set_ne (Ne.symm h2),List.getElem?_set_ne (Ne.symm h1)]
 obtain⟨ps2,dep2,g2,l2,t2,k2⟩:=ha n (k+1) (k+1+a.length) ((10,(b.length:Int)) :: (b ++ rest)) ps1 _ rfl l1 Ua ⟨_,s1⟩
  (fun j h1 h2=>(s3 j Ua Ua).trans (dV j Ua Ua)) (.inl ((s3 _ Ua Ua).trans (dV _ Ua Ua)))
 obtain⟨u3,t2⟩:=t2
 have hend2:ps2[k+1+a.length+1+b.length]?=some Pl.no\/∃u,ps2[k+1+a.length+1+b.length]?=some ⟨true,d+1,u⟩:=by
  rw [k2 _ Ua,s3 _ Ua Ua,show k+1+a.length+1+b.length=e by omega];exact wt
 obtain⟨u4,ho3⟩:=Kcz (f:=f) dep2 b.length (n:=(b.length:Int)) rfl t2 Ua Ua Ua Ua hend2;generalize hps3:ps2.set (k+1+a.length+1+b.length) ⟨true,d+1,u4⟩=ps3 at ho3;have l3:ps3.length=n+1:=by rw [<-hps3,List.length_set];exact l2
 have r1:ps3[e]?=some ⟨true,d+1,u4⟩:=by rw [<-hps3,show e=k+1+a.length+1+b.length by omega];exact List.getElem?_set_self Ua
 have r2:∀j,k+1+a.length<j->j≠e->ps3[j]?=ps1[j]?:=fun j h1 h2=>by rw [<-hps3,List.getElem?_set_ne Ua];exact k2 j h1
 obtain⟨ps4,dep4,g4,l4,t4,k4⟩:=hb n (k+1+a.length+1) e rest ps3 _ Ua l3 hk ⟨u2,by rw [r2 _ Ua Ua];exact s2⟩
  (fun j h1 h2=>(r2 j Ua Ua).trans ((s3 j Ua Ua).trans (dV j Ua h2))) (.inr ⟨_,r1⟩)
 refine⟨ps4,dep4,?_,l4,t4,fun j hj=>(k4 j hj).trans ((r2 j Ua Ua).trans (s3 j Ua Ua))⟩;rw [show [((11:Int),(a.length:Int)+1)] ++ a ++ [((10:Int),(b.length:Int))] ++ b ++ rest=(11,(a.length:Int)+1) :: (a ++ ((10,(b.length:Int)) :: (b ++ rest))) by simp,Ka2 ho,g2,Ka2 ho3,g4]
theorem Kao.choice {f:Fr} {v a b:List (Int×Int)} {d:Int} (hv:Kao f v d (d+1)) (ha:Kao f a d (d+1)) (hb:Kao f b d (d+1)) (nv:0<v.length) (na:0<a.length) (nb:0<b.length) (la:a.length<=65000) (lb:b.length<=65000) (h0:0<=d) (h16:d+1<=16) :
  Kao f (Yv v a b) d (d+1):=by
 have h:=hv.app (Kao.either ha hb na nb la lb h0 h16) (.inl fun h=>by rw [h] at nv;cases nv) (.inl fun h=>Lt);unfold Yv;simpa only [List.append_assoc] using h
theorem Kao.past {f:Fr} {x:List (Int×Int)} (hx:Kao f x 0 0) (nx:0<x.length) (lx:x.length<=65000):Kao f ([(11,(x.length:Int))] ++ x) 1 0:=by
 intro n k e rest ps dep he hl hk ⟨u,hs⟩ dV wt;simp only [Nk,Nl,Nm] at he;have hend1:ps[k+1+x.length]?=some Pl.no\/∃u,ps[k+1+x.length]?=some ⟨true,1-1,u⟩:=by rw [show k+1+x.length=e by omega];exact wt
 obtain⟨u1,u2,ho⟩:=Kb2 (f:=f) dep x.length (n:=(x.length:Int)) rfl hs Ua Ua Ua Ua (.inl (dV _ Ua Ua)) hend1;rw [show(1:Int)-1=0 from rfl] at ho;generalize zf:(ps.set (k+1) ⟨true,0,u1⟩).set (k+1+x.length) ⟨true,0,u2⟩=ps1 at ho;have l1:ps1.length=n+1:=by rw [<-zf,List.length_set,List.length_set];exact hl
 have s1:ps1[k+1]?=some ⟨true,0,u1⟩:=Ugl;have s2:ps1[e]?=some ⟨true,0,u2⟩:=by rw [<-zf,show e=k+1+x.length by omega];exact List.getElem?_set_self (by rw [List.length_set];omega)
 have s3:∀j,j≠k+1->j≠e->ps1[j]?=ps[j]?:=fun j h1 h2=>by rw [<-zf,List.getElem?_set_ne Ua,List.getElem?_set_ne (Ne.symm h1)]
 obtain⟨ps2,dep2,g2,l2,t2,k2⟩:=hx n (k+1) e rest ps1 _ Ua l1 hk ⟨_,s1⟩ (fun j h1 h2=>(s3 j Ua Ua).trans (dV j Ua h2)) (.inr ⟨_,s2⟩);refine⟨ps2,dep2,?_,l2,t2,fun j hj=>(k2 j hj).trans (s3 j Ua Ua)⟩;rw [show [((11:Int),(x.length:Int))] ++ x ++ rest=(11,(x.length:Int)) :: (x ++ rest) by simp,Ka2 ho,g2]
theorem Kao.judged {f:Fr} {c:List (Int×Int)} (h:Kao f c 0 0) (hg:f.good=true) (hl:c.length<=600):(Yi c f).2.1=0:=by
 unfold Yi;rw [if_neg (by rw [hg];decide),if_neg Ua]
 have dV:∀j,0<j->j<c.length->(Jdk c.length)[j]?=some Pl.no:=fun j h1 h2=>by
  unfold Jdk
  cases j with
  | zero=>omega
  | succ j=>rw [List.getElem?_cons_succ,List.getElem?_replicate,if_pos Ua]
 have wt:(Jdk c.length)[c.length]?=some Pl.no\/∃u,(Jdk c.length)[c.length]?=some ⟨true,0,u⟩:=by
  rcases Nat.eq_zero_or_pos c.length with h0|h0
  ·rw [h0];exact .inr ⟨0,rfl⟩
  ·left
   unfold Jdk;obtain⟨j,hj⟩:∃j,c.length=j+1:=⟨c.length-1,Ua⟩;rw [hj,List.getElem?_cons_succ,List.getElem?_replicate,if_pos Ua]
 obtain⟨ps',dep',g,l,⟨u,t⟩,_⟩:=h c.length 0 c.length [] (Jdk c.length) 0 Ua (by simp [Jdk]) (Ns _) ⟨0,rfl⟩ dV wt;rw [List.append_nil] at g;rw [g,goJ,Ka6 t,if_neg Ul]
namespace Ex
theorem Kbe:∀(l:List Ex) (n:Int),(∀x∈l,x.depth<=depthL l n)/\n<=depthL l n
 | [],n=>⟨Ul,by simp [depthL]⟩
 | x :: l,n=>by
  have h:=Kbe l (max n x.depth);rw [depthL];refine⟨fun y hy=>?_,by have:=h.2;omega⟩
  rcases List.mem_cons.1 hy with rfl|hy
  ·have:=h.2;omega
  ·exact h.1 y hy
theorem depth_part {e x:Ex} (h:x∈e.sub):x.depth+1<=e.depth:=by
 rw [depth_eq e];have:=(Kbe e.sub 0).1 x h;exact Ua
end Ex
theorem Jn3 {k n:Int} {s:ByteArray} {len:Nat} (h:Jl k n s len=true) :
  (k=1/\len=0)\/(k=2/\len=0)\/(k=3/\len=0)\/(k=4/\len=1/\1<=n/\n<=2)\/(k=5/\len=2/\1<=n/\n<=16)\/(k=6/\len=3)\/(k=7/\len=2)\/(k=8/\len=1)\/(k=9/\len=1)\/(k=10/\len=2):=by
 unfold Jl at h;simp only [Bool.and_eq_true,beq_iff_eq,Bool.not_eq_true',decide_eq_false_iff_not] at h;obtain⟨⟨⟨⟨⟨h1,h2⟩,h3⟩,h4⟩,_⟩,_⟩:=h;have hk:k=1\/k=2\/k=3\/k=4\/k=5\/k=6\/k=7\/k=8\/k=9\/k=10\/(k≠1/\k≠2/\k≠3/\k≠4/\k≠5/\k≠6/\k≠7/\k≠8/\k≠9/\k≠10):=Ua
 rcases hk with rfl|rfl|rfl|rfl|rfl|rfl|rfl|rfl|rfl|rfl|⟨a1,a2,a3,a4,a5,a6,a7,a8,a9,a10⟩
 case inr.inr.inr.inr.inr.inr.inr.inr.inr.inr=>
  unfold Jw at h1;rw [if_neg a1,if_neg a2,if_neg a3,if_neg a4,if_neg a5,if_neg a6,if_neg a7,if_neg a8,if_neg a9,if_neg a10] at h1
  cases h1
 all_goals
  simp only [Jw] at h2 h3 h4;simp at h2 h3 h4;omega
section
variable {f:Fr} {sl:ByteArray->Int} {fl:Int×ByteArray->Int}
theorem Kba {op n:Int} (h:1<op) (h':op<8) (h0:0<=n) (h1:n<=255):Qj (op,n)=0:=by
 have hw:Qp op=1:=by unfold Qp;rw [if_neg Ua,if_neg Ua,if_pos Ua]
 unfold Qj;dsimp only;rw [hw,if_neg Ux,if_neg Ux,if_neg Ua,if_neg Ua,if_neg Ua,if_neg Ua]
theorem Kao.give {op n d:Int} (h:op=2\/op=4\/op=6) (h0:0<=n) (h1:n<=255) (hr:n<Xn op f) (hd:0<=d) (h16:d+1<=16):Kao f [(op,n)] d (d+1):=by
 have ht:Ky op=0:=by unfold Ky;rw [if_neg Ua,if_neg Ua]
 have hg:Kan op=1:=by unfold Kan;rw [if_pos Ua]
 exact Kao.op (Kba Ua Ua h0 h1) (.inr hr) Ua Ua Ua ⟨Ua,Ua⟩
theorem Kao.take {op n:Int} (h:op=3\/op=5\/op=7) (h0:0<=n) (h1:n<=255) (hr:n<Xn op f):Kao f [(op,n)] 1 0:=by
 have ht:Ky op=1:=by unfold Ky;rw [if_pos Ua]
 have hg:Kan op=0:=by unfold Kan;rw [if_neg Ua]
 exact Kao.op (Kba Ua Ua h0 h1) (.inr hr) Ua Ua Ua ⟨Ua,Ua⟩
theorem Kao.push {n d:Int} (hd:0<=d) (h16:d+1<=16):Kao f [(1,n)] d (d+1):=
 Kao.op rfl (.inl (show(-1:Int)<0 by decide)) (show(0:Int)<=d from hd) (by have h1:Ky 1=0:=rfl;have h2:Kan 1=1:=rfl;omega) h16 ⟨Ux,Ux⟩
theorem Kao.un {n d:Int} (h1:1<=n) (h2:n<=2) (hd:0<=d) (h16:d+1<=16):Kao f [(8,n)] (d+1) (d+1):=by
 have ht:Ky 8=1:=rfl;have hg:Kan 8=1:=rfl
 have hr:Qj (8,n)=0:=by
  unfold Qj;simp only [show Qp 8=1 from rfl];exact Ugj
 exact Kao.op hr (.inl (show(-1:Int)<0 by decide)) Ua Ua Ua ⟨Ux,Ux⟩
theorem Kao.bin {n d:Int} (h1:1<=n) (h2:n<=16) (hd:0<=d) (h16:d+1<=16):Kao f [(9,n)] (d+1+1) (d+1):=by
 have ht:Ky 9=2:=rfl;have hg:Kan 9=1:=rfl
 have hr:Qj (9,n)=0:=by
  unfold Qj;simp only [show Qp 9=1 from rfl];exact Ugj
 exact Kao.op hr (.inl (show(-1:Int)<0 by decide)) Ua Ua Ua ⟨Ux,Ux⟩
theorem Kau {α:Type} {l:List α} (h:0<l.length):l≠[]:=fun e=>by rw [e] at h;cases h
theorem Kcy (dF:∀s,0<=sl s/\sl s<f.s) (hs:f.s<=255) (ho:f.o<=255) (e:Ex):∀c d,e.formed=true->(∀c'∈e.arrs [] c,0<=fl c'/\fl c'<f.o)->e.size<=120->0<=d->d+e.depth<=16->Kao f (e.gen sl fl c) d (d+1)/\0<(e.gen sl fl c).length:=by
 induction e using Ex.ind with
 | h e ih=>
  intro c d hf ha hz h0 hd
  have cq:∀(j:Nat),j<e.sub.length->∀d':Int,0<=d'->d'+e.depth<=17->Kao f ((Ex.genL sl fl e.kind e.name c 0 e.sub).getD j []) d' (d'+1)/\0<((Ex.genL sl fl e.kind e.name c 0 e.sub).getD j []).length/\((Ex.genL sl fl e.kind e.name c 0 e.sub).getD j []).length<=65000:=by
   intro j hj d' h0' hd';have hx:e.sub[j]?=some e.sub[j]:=Ng hj;have hm:e.sub[j]∈e.sub:=Nj hj;generalize e.sub[j]=x at hx hm;have h1:=Ex.depth_part hm;have h2:=Ex.size_sub hx;rw [Ex.genL_get sl fl e.kind e.name c e.sub 0 j x hx,Nat.zero_add];have h3:=ih x hm (K4 e.kind e.name c j) d' (Q9 hf x hm) (fun c' hc=>ha c' (Ex.arrs_sub hx c c' hc)) Ua h0' Ua;have h4:=Ex.gen_len sl fl x (K4 e.kind e.name c j);exact⟨h3.1,h3.2,Ua⟩
  have oH:=(Ex.depth_bd e).1;rw [Ex.formed_eq,Bool.and_eq_true] at hf;have dj:=Jn3 hf.1;have eF:=@Ex.arrs_here e;rw [Ex.gen_eq];generalize Ex.genL sl fl e.kind e.name c 0 e.sub=ps at cq;unfold Jae;have oQ:Kao f [(2,sl e.name)] d (d+1):=Kao.give (.inl rfl) (dF e.name).1 (by have:=(dF e.name).2;omega) (dF e.name).2 h0 Ua
  rcases dj with ⟨hk,hl⟩|⟨hk,hl⟩|⟨hk,hl⟩|⟨hk,hl,n1,n2⟩|⟨hk,hl,n1,n2⟩|⟨hk,hl⟩|⟨hk,hl⟩|⟨hk,hl⟩|⟨hk,hl⟩|⟨hk,hl⟩
  ·exact Ugf
  ·exact Ugf
  ·rw [if_pos hk];exact⟨oQ,Ul⟩
  ·rw [if_neg Ua,if_pos hk];obtain⟨a1,a2,_⟩:=cq 0 Ua d h0 Ua;exact⟨a1.app (Kao.un n1 n2 h0 Ua) (.inl (Kau a2)) (.inr rfl),Ul⟩
  ·rw [if_neg Ua,if_neg Ua,if_pos hk];obtain⟨a1,a2,_⟩:=cq 0 Ua d h0 Ua;obtain⟨b1,b2,_⟩:=cq 1 Ua (d+1) Ua Ua;exact⟨(a1.app b1 (.inl (Kau a2)) (.inl (Kau b2))).app (Kao.bin n1 n2 h0 Ua) (.inl (Kau Li)) (.inl Ul),Uj⟩
  ·rw [if_neg Ua,if_neg Ua,if_neg Ua,if_pos hk];obtain⟨a1,a2,_⟩:=cq 0 Ua d h0 Ua;obtain⟨b1,b2,b3⟩:=cq 1 Ua d h0 Ua;obtain⟨c1,c2,c3⟩:=cq 2 Ua d h0 Ua;exact⟨Kao.choice a1 b1 c1 a2 b2 c2 b3 c3 h0 Ua,by rw [Ex.choice_len];omega⟩
  ·rw [if_neg Ua,if_neg Ua,if_neg Ua,if_neg Ua,if_pos hk];obtain⟨b1,b2,b3⟩:=cq 1 Ua d h0 Ua;obtain⟨c1,c2,c3⟩:=cq 0 Ua d h0 Ua;obtain⟨g1,g2⟩:=ha c (eF hk c);exact⟨Kao.choice (Kao.give (.inr (.inl rfl)) g1 Ua g2 h0 Ua) b1 c1 Ul b2 c2 b3 c3 h0 Ua,by rw [Ex.choice_len];simp⟩
  ·rw [if_neg Ua,if_neg Ua,if_neg Ua,if_neg Ua,if_neg Ua,if_pos (.inl hk)];obtain⟨a1,a2,_⟩:=cq 0 Ua d h0 Ua;exact⟨a1,a2⟩
  ·rw [if_neg Ua,if_neg Ua,if_neg Ua,if_neg Ua,if_neg Ua,if_pos (.inr hk)];obtain⟨a1,a2,_⟩:=cq 0 Ua d h0 Ua;exact⟨a1,a2⟩
  ·rw [if_neg Ua,if_neg Ua,if_neg Ua,if_neg Ua,if_neg Ua,if_neg Ua,if_pos hk];obtain⟨b1,b2,b3⟩:=cq 0 Ua d h0 Ua;obtain⟨c1,c2,c3⟩:=cq 1 Ua d h0 Ua;exact⟨Kao.choice oQ b1 c1 Ul b2 c2 b3 c3 h0 Ua,by rw [Ex.choice_len];simp⟩
theorem Ka1 (dF:∀s,0<=sl s/\sl s<f.s) (hs:f.s<=255) {c:Int×ByteArray} {x:List (Int×Int)} (hx:Kao f x 0 0) (nx:0<x.length) (lx:x.length<=65000):Kao f (Qk sl c x) 0 0:=by
 have oQ:Kao f [(2,sl c.2)] 0 1:=Kao.give (.inl rfl) (dF c.2).1 (by have:=(dF c.2).2;omega) (dF c.2).2 Ua Ua;unfold Qk
 split
 ·exact oQ.app (Kao.past hx nx lx) (.inl Ul) (.inl Ul)
 ·split
  ·have h2:Kao f [(2,sl c.2),(8,2)] 0 1:=oQ.app (Kao.un (d:=0) Ua Ua Ua Ua) (.inl Ul) (.inr rfl);exact h2.app (Kao.past hx nx lx) (.inl Ul) (.inl Ul)
  ·exact hx
theorem Kb4 (dF:∀s,0<=sl s/\sl s<f.s) (hs:f.s<=255) (hi:f.i<=255):∀(l:List Va) (i:Nat),((i+l.length:Nat):Int)<=f.i->Kao f (Yh sl i l) 0 0
 | [],i,_=>Kao.nil
 | v :: r,i,h=>by
  rw [Nl] at h;rw [Yh];have h1:Kao f [(6,(i:Int))] 0 1:=Kao.give (.inr (.inr rfl)) Ua Ua (show(i:Int)<f.i by omega) Ua Ua;have h2:Kao f [(3,sl v.name)] 1 0:=Kao.take (.inl rfl) (dF v.name).1 Ba (dF v.name).2;exact(h1.app h2 (.inl Ul) (.inl Ul)).app (Kb4 dF hs hi r (i+1) Ua) (.inr rfl) (.inr rfl)
theorem Kbx (dF:∀s,0<=sl s/\sl s<f.s) (hs:f.s<=255) (hi:f.o<=255):∀(l:List Qe) (i:Nat),((i+l.length:Nat):Int)<=f.o->Kao f (Zx sl i l) 0 0
 | [],i,_=>Kao.nil
 | v :: r,i,h=>by
  rw [Nl] at h;rw [Zx];have h1:Kao f [(4,(i:Int))] 0 1:=Kao.give (.inr (.inl rfl)) Ua Ua (show(i:Int)<f.o by omega) Ua Ua;have h2:Kao f [(3,sl v.name)] 1 0:=Kao.take (.inl rfl) (dF v.name).1 Ba (dF v.name).2;exact(h1.app h2 (.inl Ul) (.inl Ul)).app (Kbx dF hs hi r (i+1) Ua) (.inr rfl) (.inr rfl)
theorem Kbw (dF:∀s,0<=sl s/\sl s<f.s) (hs:f.s<=255) (hi:f.u<=255):∀(l:List Va) (i:Nat),((i+l.length:Nat):Int)<=f.u->Kao f (Xl sl i l) 0 0
 | [],i,_=>Kao.nil
 | v :: r,i,h=>by
  rw [Nl] at h;rw [Xl];have h1:Kao f [(2,sl v.name)] 0 1:=Kao.give (.inl rfl) (dF v.name).1 Ba (dF v.name).2 Ua Ua;have h2:Kao f [(7,(i:Int))] 1 0:=Kao.take (.inr (.inr rfl)) Ua Ua (show(i:Int)<f.u by omega);exact(h1.app h2 (.inl Ul) (.inl Ul)).app (Kbw dF hs hi r (i+1) Ua) (.inr rfl) (.inr rfl)
theorem Kb3 (dF:∀s,0<=sl s/\sl s<f.s) (hs:f.s<=255) (hi:f.n<=255):∀(l:List Ce) (i:Nat),((i+l.length:Nat):Int)<=f.n->Kao f (Ze sl i l) 0 0
 | [],i,_=>Kao.nil
 | v :: r,i,h=>by
  rw [Nl] at h;rw [Ze];have h1:Kao f [(1,1)] 0 1:=Kao.push Ua Ua;have h2:Kao f [(5,(i:Int))] 1 0:=Kao.take (.inr (.inl rfl)) Ua Ua (show(i:Int)<f.n by omega);exact(Ka1 dF hs (h1.app h2 (.inl Ul) (.inl Ul)) Ul Ul).app (Kb3 dF hs hi r (i+1) Ua) (.inr rfl) (.inr rfl)
theorem Kbu {L:List Va} (dF:∀s,0<=sl s/\sl s<f.s) (hs:f.s<=255) (hi:f.n<=255):∀(l:List Qe) (i:Nat),(∀q∈l,Kao f (q.e.gen sl fl (J9 L q.name)) 0 1/\0<(q.e.gen sl fl (J9 L q.name)).length/\(q.e.gen sl fl (J9 L q.name)).length<=360)->((i+l.length:Nat):Int)<=f.n->Kao f (Zu sl fl L i l) 0 0
 | [],i,_,_=>Kao.nil
 | q :: r,i,hq,h=>by
  rw [Nl] at h;rw [Zu];obtain⟨g1,g2,g3⟩:=hq q Ul;have h2:Kao f [(5,(i:Int))] 1 0:=Kao.take (.inr (.inl rfl)) Ua Ua (show(i:Int)<f.n by omega);exact(Ka1 dF hs (g1.app h2 (.inl (Kau g2)) (.inl Ul)) Ul Uj).app (Kbu dF hs hi r (i+1) (fun x hx=>hq x Fz) Ua) (.inr rfl) (.inr rfl)
theorem Kby {L:List Va} {eqs:List Qe} (dF:∀s,0<=sl s/\sl s<f.s) (hs:f.s<=255) (hq:∀q∈eqs,Kao f (q.e.gen sl fl (J9 L q.name)) 0 1/\0<(q.e.gen sl fl (J9 L q.name)).length/\(q.e.gen sl fl (J9 L q.name)).length<=360):∀l:List Int,Kao f (Xd sl fl L eqs l) 0 0
 | []=>Kao.nil
 | j :: r=>by
  rw [Xd];refine Kao.app ?_ (Kby dF hs hq r) (.inr rfl) (.inr rfl)
  cases hx:eqs[j.toNat]? with
  | none=>exact Kao.nil
  | some q=>
   obtain⟨g1,g2,g3⟩:=hq q (Ni hx);have h2:Kao f [(3,sl q.name)] 1 0:=Kao.take (.inl rfl) (dF q.name).1 (by have:=(dF q.name).2;omega) (dF q.name).2;exact Ka1 dF hs (g1.app h2 (.inl (Kau g2)) (.inl Ul)) Ul Uj
end
theorem Jtl (L:List Va) (s:ByteArray) (h:0<L.length):0<=Xu L s/\Xu L s<(L.length:Int):=by
 unfold Xu
 cases hv:Qi L s with
 | none=>exact⟨Ul,Uj⟩
 | some j=>
  obtain⟨k,v,rfl,hk,_⟩:=Zi hv;have:=(Nh hk).1;simp only [Option.getD_some];omega
theorem Jf3 (d:Int×ByteArray):∀(l:List Ce) (i:Nat),Jav i l d=0\/((i:Int)<=Jav i l d/\Jav i l d<((i+l.length:Nat):Int))
 | [],i=> .inl rfl
 | x :: r,i=>by
  rw [Jav]
  split
  ·right;rw [Nl];omega
  ·rcases Jf3 d r (i+1) with h|h
   ·exact .inl h
   ·right;rw [Nl];omega
theorem Kck (l:List Ce) (d:Int×ByteArray) (h:0<l.length):0<=Kg l d/\Kg l d<(l.length:Int):=by
 unfold Kg
 rcases Jf3 d l 0 with h1|h1 <;> omega
namespace Ex
theorem Jpf {L:List Va} : ∀(r:List Ex),(typL L r).2=0->∀x∈r,(typ L x).2=0
 | [],_,x,hx=>by cases hx
 | y :: r,h,x,hx=>by
  obtain⟨h1,h2⟩:=Jmx h
  rcases List.mem_cons.1 hx with rfl|hx
  ·exact h1
  ·exact Jpf r h2 x hx
theorem Kbj {k:Int} {s:ByteArray} {c:Int×ByteArray} : ∀(r:List Ex) (i:Nat) (d:Int×ByteArray),d∈arrsL [] k s c i r->∃(j:Nat) (x:Ex),r[j]?=some x/\d∈x.arrs [] (K4 k s c (i+j))
 | [],i,d,h=>by rw [arrsL] at h;cases h
 | x :: r,i,d,h=>by
  rw [arrsL,Kat r (fun y _=>arrs_app y)] at h
  rcases List.mem_append.1 h with h|h
  ·exact⟨0,x,rfl,h⟩
  ·obtain⟨j,y,h1,h2⟩:=Kbj r (i+1) d h;exact⟨j+1,y,Lw,by rwa [show i+(j+1)=i+1+j from by omega]⟩
theorem arrs_all {L:List Va} (e:Ex):∀c,e.formed=true->(e.typ L).2=0->∀d∈e.arrs [] c,d=c\/d∈X3 L:=by
 induction e using ind with
 | h e ih=>
  intro c hf ht d hd;rw [typ_eq] at ht
  by_cases hr:(typL L e.sub).2=0
  ·rw [if_pos hr] at ht;rw [arrs_eq,Kat e.sub (fun y _=>arrs_app y)] at hd
   rcases List.mem_append.1 hd with h1|h1
   ·split at h1
    ·left;simpa using h1
    ·cases h1
   ·obtain⟨j,x,hx,h2⟩:=Kbj e.sub 0 d h1;have hm:=Ni hx;have h3:=ih x hm _ (Q9 hf x hm) (Jpf e.sub hr x hm) d h2
    rcases h3 with h3|h3
    ·rw [Nat.zero_add] at h3;subst h3;unfold K4
     by_cases hk:e.kind=10
     ·rw [if_pos hk]
      right
      have hl:=Jfj hf hk;have hj:j<2:=by have:=(Nh hx).1;omega
      have aS:e.name.toList.isEmpty=false:=by
       rcases Jh0 hf with ⟨_,h⟩|⟨h,_⟩
       ·exact Jbx h
       ·exact absurd hk h.2.2.2
      have lC:(K7 L e.name).2=true:=by
       exact Ugi
      unfold K7 at lC
      cases hv:Qi L e.name with
      | none=>rw [hv] at lC;simp at lC
      | some i=>
       obtain⟨k,v,_,dz,hn⟩:=Zi hv;unfold X3;refine List.mem_cons_of_mem _ (Jfn.2 ⟨v,Ni dz,?_⟩);rw [<-hn]
       rcases(by omega:j=0\/j=1) with rfl|rfl
       ·exact .inl rfl
       ·exact .inr rfl
     ·rw [if_neg hk]
      split
      ·right;unfold X3;exact List.mem_cons_self
      ·exact .inl rfl
    ·exact .inr h3
  ·rw [if_neg hr] at ht;exact absurd ht hr
end Ex
theorem Kb0 {L:List Va} : ∀(l:List Qe) (m:List (Int×ByteArray)) (d:Int×ByteArray),(d∈m\/∃q∈l,d∈q.e.arrs [] (J9 L q.name))->d∈l.foldl (fun m q=>q.e.arrs m (J9 L q.name)) m
 | [],m,d,h=>by
  rcases h with h|⟨q,hq,_⟩
  ·exact h
  ·cases hq
 | x :: l,m,d,h=>by
  rw [List.foldl_cons];refine Kb0 l _ d ?_;rw [Ex.arrs_app]
  rcases h with h|⟨q,hq,h⟩
  ·exact .inl (List.mem_append_left _ h)
  ·rcases List.mem_cons.1 hq with rfl|hq
   ·exact .inl (List.mem_append_right _ h)
   ·exact .inr ⟨q,hq,h⟩
theorem Jay.arrow {p:Pr} (h:Jay p) {q:Qe} (hq:q∈p.eqs) {d:Int×ByteArray} (hd:d∈q.e.arrs [] (J9 (Je p) q.name)):0<(Jq p).length:=by
 have dV:d∈X3 (Je p):=by
  rcases Ex.arrs_all (L:=Je p) q.e _ (h.eqs q hq).formed ((Xp h.chk).2.2 q hq) d hd with h1|h1
  ·obtain⟨v,hv,_,_,bO,nk⟩:=Ja3 h.clk hq;rw [bO] at h1;subst h1;unfold X3
   rcases nk with ⟨h2,h3⟩|⟨h2,_,u,hu,gG⟩
   ·have:v.cn=⟨#[]⟩:=Jej Sz;rw [h2,this];exact List.mem_cons_self
   ·refine List.mem_cons_of_mem _ (Jfn.2 ⟨u,hu,?_⟩);rw [gG]
    rcases(h.vars v hv).ck with h4|h4|h4
    ·exact absurd h4 h2
    ·left;rw [h4]
    ·right;rw [h4]
  ·exact h1
 have fL:inC (Jad (Je p) p.eqs) d=true:=Kce.2 (Kb0 _ _ _ (.inr ⟨q,hq,hd⟩));unfold Jq Kaq;rw [Nk,List.length_map];have:0<((X3 (Je p)).filter (inC (Jad (Je p) p.eqs))).length:=List.length_pos_of_mem (List.mem_filter.2 ⟨dV,fL⟩);rw [List.length_map];exact Ua
theorem Kcd {p:Pr} (h:Jay p) (hb:¬16<(Jq p).length):(Jke p).good=true:=by
 rw [Fr.good_iff];unfold Jke;have:=h.small;dsimp only;exact Ua
theorem Kcb {p:Pr} (h:Jay p) (h0:(Je p).length=0):Xs p = []:=by
 have hv:Je p = []:=List.eq_nil_of_length_eq_zero h0
 have hq:p.eqs = []:=by
  cases he:p.eqs with
  | nil=>rfl
  | cons q r=>
   obtain⟨v,hm,_⟩:=h.vof q (by rw [he];simp);rw [hv] at hm
   cases hm
 have hl:=h0;unfold Je at hl;simp only [Nk] at hl;have hi:p.ins = []:=List.eq_nil_of_length_eq_zero Ua;have hu:p.outs = []:=List.eq_nil_of_length_eq_zero Ua
 have ho:(J1 p).1 = []:=by
  have:=(Yg h.order).2.1;rw [hq] at this;exact List.eq_nil_of_length_eq_zero (by simpa using this)
 have hc:Jq p = []:=by
  unfold Jq;rw [hq];have:Jad (Je p) [] = []:=rfl;rw [this];unfold Kaq;have hf:(X3 (Je p)).filter (inC []) = []:=List.filter_eq_nil_iff.2 fun c _=>by rw [Kce];simp
  rw [hf];exact Gd
 unfold Xs;rw [hq,hi,hu,ho,hc];simp [Yh,Zx,Xd,Zu,Ze,Xl,J0]
theorem Kbb {p:Pr} (h:Jay p) (hb:¬16<(Jq p).length) (hl:¬600<(Xs p).length):(Yi (Xs p) (Jke p)).2.1=0:=by
 refine Kao.judged ?_ (Kcd h hb) Ua
 rcases Nat.eq_zero_or_pos (Je p).length with h0|h0
 ·rw [Kcb h h0];exact Kao.nil
 have jN:=h.small;have hs:(Jke p).s<=255:=M2;have ho:(Jke p).o<=255:=M2;have hn:(Jke p).n<=255:=M2;have hi:(Jke p).i<=255:=M2;have hu:(Jke p).u<=255:=M2;have dF:∀s,0<=Xu (Je p) s/\Xu (Je p) s<(Jke p).s:=fun s=>Jtl _ s h0
 have hq:∀q∈p.eqs,Kao (Jke p) (q.e.gen (Xu (Je p)) (Kg (Jq p)) (J9 (Je p) q.name)) 0 1/\0<(q.e.gen (Xu (Je p)) (Kg (Jq p)) (J9 (Je p) q.name)).length/\(q.e.gen (Xu (Je p)) (Kg (Jq p)) (J9 (Je p) q.name)).length<=360:=fun q hq=>by
  have hf:=h.eqs q hq;obtain⟨g1,g2⟩:=Kcy (f:=Jke p) dF hs ho q.e (J9 (Je p) q.name) 0 hf.formed (fun c hc=>Kck (Jq p) c (h.arrow hq hc)) hf.size Ua (by have:=hf.depth;omega);exact⟨g1,g2,h.codes q hq _ _ _⟩
 have ek:(J0 p.eqs).length<=(Jq p).length:=by unfold Jq;rw [Nk,List.length_map];omega
 unfold Xs;have h1:=Kb4 dF hs hi p.ins 0 (by unfold Jke;simp);have h2:=Kbx dF hs ho (J0 p.eqs) 0 (by unfold Jke;simp;omega);have h3:=Kby (eqs:=p.eqs) dF hs hq (J1 p).1;have h4:=Kbu (L:=Je p) dF hs hn (J0 p.eqs) 0 (fun q hd=>hq q (Z4 hd).1) (by unfold Jke;simp;omega);have h5:=Kb3 dF hs hn ((Jq p).drop (J0 p.eqs).length) (J0 p.eqs).length (by unfold Jke;rw [List.length_drop];simp;omega);have h6:=Kbw dF hs hu p.outs 0 (by unfold Jke;simp);exact((((h1.app h2 (.inr rfl) (.inr rfl)).app h3 (.inr rfl) (.inr rfl)).app h4 (.inr rfl) (.inr rfl)).app h5 (.inr rfl) (.inr rfl)).app h6 (.inr rfl) (.inr rfl)
theorem Kca {p:Pr} (h:Jay p) (hb:¬16<(Jq p).length) (hl:¬600<(Xs p).length) {v:Int} (hv:0<v):(Jd8 p v).wrong=0:=by
 have hj:=Kbb h hb hl
 have h0:Jcj (Xs p) (Jke p) (Yi (Xs p) (Jke p)).1.2=0:=by
  unfold Jcj;rw [if_neg (fun e=>e.2 rfl),hj]
 have hg:=Kcd h hb;rw [Fr.good_iff] at hg
 have hm:(Jd8 p v).moves.good=true:=by
  rw [Fr.good_iff];unfold Im.moves Jd8;dsimp only;exact Ua
 have h1:Jcj [] (Jd8 p v).moves 0=0:=by
  have:Yi [] (Jd8 p v).moves=((0,0),0,0):=by
   unfold Yi;rw [if_neg (by rw [hm];decide),if_neg Ul];exact Gd
  unfold Jcj;rw [this];exact Ul
 unfold Im.wrong;rw [if_neg Tm,if_neg (by unfold Jd8 Jke;simp),if_neg (by unfold Jd8;simp),if_neg (by unfold Jd8;dsimp only;rw [h0];simp)];exact h1
end Go.Proofs.YtknfcamdfdfoeaaGreatDoor
namespace Go.Proofs.YtknfcamdfdfoeaaGreatDoor
open Go.RowKit Go.Sort
def Zl (l:List (Int×ByteArray)):List Value:=l.flatMap fun c=>[.int .i64 c.1,.string c.2]
theorem Jip (l:List (Int×ByteArray)) (c:Int×ByteArray):Zl (l ++ [c])=Zl l ++ [.int .i64 c.1,.string c.2]:=by unfold Zl;simp
theorem Ex.arrsL_len {k:Int} {s:ByteArray} {c:Int×ByteArray} : ∀(r:List Ex),(∀x∈r,∀l c,l.length<=(x.arrs l c).length/\(x.arrs l c).length<=l.length+x.size)->∀(l:List (Int×ByteArray)) (i:Nat),l.length<=(Ex.arrsL l k s c i r).length/\(Ex.arrsL l k s c i r).length<=l.length+Ex.sizeL r
 | [],_,l,i=>by simp [Ex.arrsL,Ex.sizeL]
 | x :: r,h,l,i=>by
  have h1:=h x Ul l (K4 k s c i);have h2:=Ex.arrsL_len r (fun y hy=>h y F0) (x.arrs l (K4 k s c i)) (i+1) (k:=k) (s:=s) (c:=c);rw [Ex.arrsL,Ex.sizeL];omega
theorem Ex.arrs_len (e:Ex):∀l c,l.length<=(e.arrs l c).length/\(e.arrs l c).length<=l.length+e.size:=by
 induction e using Ex.ind with
 | h e ih=>
  intro l c;rw [Ex.arrs_eq,Ex.size_eq];have:=Ex.arrsL_len e.sub ih (if e.kind=7 then l ++ [c] else l) 0 (k:=e.kind) (s:=e.name) (c:=c)
  split at this <;> split <;> simp_all <;> omega
def Jz1 (w0:World) (x:Ex):Prop:=∀(A:Option Addr) (cap:Nat) (c:Int×ByteArray),Jt w0 x A cap->∀(W:World) (v:Value) (l:List (Int×ByteArray)),Below w0.heap.size w0 W->W.ownsRow w0.heap.size 55 2 v l.length (Zl l)->l.length+x.size<=1000000->
  Calls Tryz.prog 50 #[v,exV x A cap,kvC c] W fun r w'=>(∃v',r = .returned v'/\w'.ownsRow w0.heap.size 55 2 v' (x.arrs l c).length (Zl (x.arrs l c))/\(v'.ownBlock=v.ownBlock\/∀b,v'.ownBlock=some b->W.heap.size<=b))/\W.grownBy w' v.ownBlock
theorem Jqj (w0:World) (e:Ex):Jz1 w0 e:=by
 induction e using Ex.ind with
 | h e ih=>
 intro Ae ce c he W v l dZ ae cE;obtain⟨Av,cv,rfl,zD,nL⟩:=Jv ae;have ai:=he.len;unfold maxLen at ai nL;obtain⟨bI,aD⟩:=ai;have hU:∀b,(Value.slice Av l.length cv).ownBlock=some b->w0.heap.size<=b/\b<W.heap.size:=fun b hb=>ae.lt b hb;have tL:=dZ.size;have hszz:=Ex.size_eq e;have cY:=Ex.len_sizeL e.sub;obtain⟨R,hR⟩:∃R,R=e.arrs l c:=⟨_,rfl⟩;rw [<-hR];rw [Ex.arrs_eq] at hR;obtain⟨ck,cs⟩:=c;have sH:=fun W=>Jg4 e Ae ce ck cs W Ua;have kZ:∀k,W.heap.size<=k->some k≠(Value.slice Av l.length cv).ownBlock:=fun k hk he=>by have:=(hU k he.symm).2;omega
 have kS:=Nf hU;clear hU;unfold exV kvC at *;dsimp only at *
 by_cases h7:e.kind=7
 ·have t7:(e.kind == 7)=true:=S9;rw [if_pos h7] at hR;have vi:=Nf hR;clear hR h7
  go_enter Tryz.func50,Tryz.ntmps50
  go_wp2_with (first
   | (at_builtin;go_loud (refine Z2 rfl (.tmp 12) (.tmp 14) 122 rfl w0.heap.size 55 _ 2 24 Tryz.underlying122 Jes rfl Ua (.slice Av l.length cv) l.length (Zl l) (W.heap.size+1+1) 1 1 [.int .i64 ck,.string cs] rfl (Js (Js (Js ae))) rfl rfl (fun j u hj=>Udt) Uv Ua Ua Uj ?_;intro v2 w2 ao aG aI;obtain⟨A2,cv2,rfl,it,iu⟩:=Jv ao;have kI:=aG.size;simp at kI;have q0:=Na w2 W.heap.size 0 e.kind (Jr (aG.block _ Mw (kZ _ Dr)) Uq);have q1:=Nb w2 W.heap.size 1 (.int .i32 e.n) (Jr (aG.block _ Mw (kZ _ Dr)) Uq);have q2:=Nb w2 W.heap.size 2 (.string e.name) (Jr (aG.block _ Mw (kZ _ Dr)) Uq);have q3:=Nb w2 W.heap.size 3 (.slice Ae e.sub.length ce) (Jr (aG.block _ Mw (kZ _ Dr)) Uq);have q4:=Na w2 (W.heap.size+1) 0 ck (Jr (aG.block _ Mw (kZ _ Dr)) Uq);have q5:=Nb w2 (W.heap.size+1) 1 (.string cs) (Jr (aG.block _ Mw (kZ _ Dr)) Uq)))
   | (go_at_call 56;go_loud (refine(sH _).mono ?_;rintro r w3 ⟨⟨dv,rfl,ay⟩,aM⟩;obtain⟨D,cd,rfl,js,gN⟩:=Jv ay)))
  refine Jo fun W1 bt=>?_;have eI:w2.heap.size<=W1.heap.size:=by rw [bt];exact aM.size
  have ba:W1.ownsRow w0.heap.size 55 2 (.slice A2 (l.length+1) cv2) (l ++ [(ck,cs)]).length (Zl (l ++ [(ck,cs)])):=by rw [bt,Jip,Nk];exact Jy ao aM
  have gU:(Value.slice A2 (l.length+1) cv2).ownBlock=(Value.slice Av l.length cv).ownBlock\/∀b,(Value.slice A2 (l.length+1) cv2).ownBlock=some b->W.heap.size<b:=by
   rcases aI with h|h
   ·exact .inl h
   ·exact .inr fun b hb=>Fy
  have zZ:=fun b hb=>(ao.lt b hb)
  have ez:W.grownBy W1 (Value.slice Av l.length cv).ownBlock:=by
   rw [bt];exact Kv (Kv (K0 (Jc (Jc (Jc (Nt) _) _) _)) aG) (K0 aM)
  have ak:=Nb W1 W.heap.size 3 (.slice Ae e.sub.length ce) (by rw [bt];exact Ja aM q3)
  have jI:W1.ownsRow w2.heap.size 55 2 (.slice D e.sub.length cd) e.sub.length (Yx e.kind e.name (ck,cs) e.sub.length):=by rw [bt];exact ay
  have qY:∀b,(Value.slice A2 (l.length+1) cv2).ownBlock=some b->b<w2.heap.size:=fun b hb=>(zZ b hb).2;have hzW:=lt0 W w2;clear bt zZ aG ao aM aI q0 q1 q2 q3 q4 q5 ay;obtain⟨V1,km⟩:∃V1,Value.slice A2 (l.length+1) cv2=V1:=⟨_,rfl⟩;rw [km] at ba gU qY;have ku:=Nf km;clear km;have vj:(l ++ [(ck,cs)]).length+Ex.sizeL e.sub<=1000000:=Uj
  go_loopw [0,8] (fun u0 i wr=>∃(k:Nat) (V:Value) (l2:List (Int×ByteArray)),k<=e.sub.length/\i = .int .i64 k/\u0=V/\Hid (Ex.arrsL l2 e.kind e.name (ck,cs) k (e.sub.drop k)=R)/\wr.ownsRow w0.heap.size 55 2 V l2.length (Zl l2)/\Hid (V.ownBlock=V1.ownBlock\/∀b,V.ownBlock=some b->W1.heap.size<=b)/\Hid (W1.grownBy wr V1.ownBlock)/\l2.length+Ex.sizeL (e.sub.drop k)<=1000000) (fun _ i _=>e.sub.length-(intOf i).toNat)
  case atStart=>exact⟨0,V1,l ++ [(ck,cs)],Np,rfl,ku.out,Nf (by rw [List.drop_zero];exact vi.out.symm),ba,Nf (.inl rfl),Nf (K0 (Nt)),by rw [List.drop_zero];exact vj⟩
  case round=>
   exact Ufa
 ·have t7:(e.kind == 7)=false:=S9;rw [if_neg h7] at hR;have vi:=Nf hR;clear hR h7
  go_enter Tryz.func50,Tryz.ntmps50
  go_wp2_with (first
   | (go_at_call 56;go_loud (refine(sH _).mono ?_;rintro r w3 ⟨⟨dv,rfl,ay⟩,aM⟩;obtain⟨D,cd,rfl,js,gN⟩:=Jv ay)))
  refine Jo fun W1 bt=>?_;have ba:W1.ownsRow w0.heap.size 55 2 (.slice Av l.length cv) l.length (Zl l):=by rw [bt];exact Jy (Js (Js ae)) aM
  have gU:(Value.slice Av l.length cv).ownBlock=(Value.slice Av l.length cv).ownBlock\/∀b,(Value.slice Av l.length cv).ownBlock=some b->W.heap.size<b:= .inl rfl
  have ez:W.grownBy W1 (Value.slice Av l.length cv).ownBlock:=by
   rw [bt];exact Kv (K0 (Jc (Jc (Nt) _) _)) (K0 aM)
  have ak:=Nb W1 W.heap.size 3 (.slice Ae e.sub.length ce) (by rw [bt];exact Ja aM Uq)
  obtain⟨w2,sh⟩:∃w2:World,w2=(W.alloc (.cells #[.int .i64 e.kind,.int .i32 e.n,.string e.name,.slice Ae e.sub.length ce] 51)).alloc (.cells #[.int .i64 ck,.string cs] 55):=⟨_,rfl⟩;have qb:w2.heap.size=W.heap.size+2:=by rw [sh];simp
  have jI:W1.ownsRow w2.heap.size 55 2 (.slice D e.sub.length cd) e.sub.length (Yx e.kind e.name (ck,cs) e.sub.length):=by rw [bt,qb];simpa using ay
  have eI:w2.heap.size<=W1.heap.size:=by rw [bt,qb];have:=aM.size;simpa using this
  have qY:∀b,(Value.slice Av l.length cv).ownBlock=some b->b<w2.heap.size:=fun b hb=>by have:=(kS.out b hb).2;omega
  have hzW:=lt0 W w2;clear bt aM ay sh;have vj:l.length+Ex.sizeL e.sub<=1000000:=Ua;obtain⟨V1,km⟩:∃V1,Value.slice Av l.length cv=V1:=⟨_,rfl⟩;replace ba:W1.ownsRow w0.heap.size 55 2 V1 l.length (Zl l):=by rw [<-km];exact ba
  replace gU:V1.ownBlock=(Value.slice Av l.length cv).ownBlock\/∀b,V1.ownBlock=some b->W.heap.size<b:= .inl (by rw [km]);replace qY:∀b,V1.ownBlock=some b->b<w2.heap.size:=by rw [<-km];exact qY
  have ku:=Nf km;clear km
  go_loopw [0,8] (fun u0 i wr=>∃(k:Nat) (V:Value) (l2:List (Int×ByteArray)),k<=e.sub.length/\i = .int .i64 k/\u0=V/\Hid (Ex.arrsL l2 e.kind e.name (ck,cs) k (e.sub.drop k)=R)/\wr.ownsRow w0.heap.size 55 2 V l2.length (Zl l2)/\Hid (V.ownBlock=V1.ownBlock\/∀b,V.ownBlock=some b->W1.heap.size<=b)/\Hid (W1.grownBy wr V1.ownBlock)/\l2.length+Ex.sizeL (e.sub.drop k)<=1000000) (fun _ i _=>e.sub.length-(intOf i).toNat)
  case atStart=>exact⟨0,V1,l,Np,rfl,ku.out,Nf (by rw [List.drop_zero];exact vi.out.symm),ba,Nf (.inl rfl),Nf (K0 (Nt)),by rw [List.drop_zero];exact vj⟩
  case round=>
   exact Ufa
theorem Jx4 (n:Int) (hn:I64 n) (w:World):Calls Tryz.prog 83 #[.int .i64 n] w fun r w'=>r = .returned (.int .i32 (W32 n))/\Below w.heap.size w w':=by
 have hw:=Jxx n;dsimp only at hw
 have ac : -4294967296<n.tmod 4294967296:=by
  have:=Int.lt_tmod_of_pos n (show(0:Int)<4294967296 by omega);exact Ua
 have aq:n.tmod 4294967296<4294967296:=Int.tmod_lt_of_pos n Ua
 by_cases h0:n.tmod 4294967296<0
 ·rw [if_pos h0] at hw
  by_cases h1:n.tmod 4294967296+4294967296>=2147483648
  ·exact Ub6
  ·exact Ub5
 ·rw [if_neg h0] at hw
  by_cases h1:n.tmod 4294967296>=2147483648
  ·exact Ub6
  ·exact Ub5
theorem Jop (e:Ex) (A:Option Addr) (cap:Nat) (w:World) (he:Jt w e A cap) (aw:e.OK) (hl:e.kind=4->∃x r,e.sub=x :: r) :
  Calls Tryz.prog 51 #[exV e A cap] w fun r w'=>r = .returned (.int .i32 (Jai e))/\Below w.heap.size w w':=by
 have ai:=he.len;unfold maxLen at ai;obtain⟨bI,aD⟩:=ai;unfold exV
 by_cases hk:e.kind=4
 ·obtain⟨x,r,hs⟩:=hl hk;have hx:e.sub[0]?=some x:=by rw [hs];rfl
  have xm:I32 x.n:=by have:=Ex.OK_sub aw (x:=x) (by rw [hs];simp);cases x;exact this.2.1
  unfold I32 at xm;have am:0<e.sub.length:=by rw [hs];simp
  have hv:Jai e=W32 (-x.n):=by unfold Jai;rw [if_pos hk,hs]
  obtain⟨b,off,A',cap',rfl,c0,c1,c2,c3,bd⟩:=he.get hx;have tk:(e.kind == 4)=true:=Vw;simp only [Nat.zero_mul,Nat.add_zero] at c0 c1 c2 c3;have fk:b<w.heap.size:=Nu c0;have hlow:=fun W=>Jx4 (-x.n) Vs W;clear hk hs hl hx;have HV:=Nf hv;clear hv
  go_enter Tryz.func51,Tryz.ntmps51
  go_wp2_with (first|(go_at_call 83;go_loud (refine(hlow _).mono ?_;rintro r w1 ⟨rfl,ac⟩)))
  exact Udf
 ·have hv:Jai e=e.n:=by unfold Jai;rw [if_neg hk]
  have tk:(e.kind == 4)=false:=Vw;clear hk hl;have HV:=Nf hv;clear hv
  go_enter Tryz.func51,Tryz.ntmps51
  exact Uc9
theorem Joh:∀l:List (Int×ByteArray),(Zl l).length=l.length * 2
 | []=>rfl
 | x :: l=>by
  have:=Joh l;unfold Zl at this ⊢;exact Uc7
theorem Jl9:∀(l:List (Int×ByteArray)) (k:Nat) (x:Int×ByteArray),l[k]?=some x->(Zl l)[k * 2]?=some (.int .i64 x.1)/\(Zl l)[k * 2+1]?=some (.string x.2)
 | [],k,x,h=>Lt
 | y :: l,0,x,h=>by simp at h;subst h;exact⟨rfl,rfl⟩
 | y :: l,k+1,x,h=>by
  have:=Jl9 l k x Ve;have e:Zl (y :: l) = [.int .i64 y.1,.string y.2] ++ Zl l:=rfl;exact Ua2
def Jfm (w:World) (l:List (Int×ByteArray)) (A:Option Addr) (cap:Nat):Prop:=l.length<=cap/\cap<=maxLen/\X6 w A l.length 2 (Zl l)
theorem Jfm.later {w w':World} {l:List (Int×ByteArray)} {A:Option Addr} {cap:Nat} (h:Jfm w l A cap) (hb:Below w.heap.size w w'):Jfm w' l A cap:=⟨h.1,h.2.1,Jds h.2.2 hb⟩
theorem Jfm.of_own {w:World} {base:Nat} {e:TypeId} {l:List (Int×ByteArray)} {v:Value} (h:w.ownsRow base e 2 v l.length (Zl l)):∃A cap,v = .slice A l.length cap/\Jfm w l A cap:=by
 obtain⟨A,cap,rfl,h1,h2⟩:=Jv h;refine⟨A,cap,rfl,h1,h2,Joh l,fun hm=>?_⟩;exact Uct
theorem Jwc (d:Int×ByteArray) (l:List (Int×ByteArray)) (c:Int×ByteArray):inC (d :: l) c=(K9 d.1 d.2 c.1 c.2 || inC l c):=rfl
theorem Jq0 (l:List (Int×ByteArray)) (A:Option Addr) (cap:Nat) (ck:Int) (cs:ByteArray) (w:World) (hl:Jfm w l A cap) :
  Calls Tryz.prog 52 #[.slice A l.length cap,.agg #[.int .i64 ck,.string cs]] w fun r w'=>r = .returned (.bool (inC l (ck,cs)))/\Below w.heap.size w w':=by
 have bI:=hl.1;have aD:=hl.2.1;unfold maxLen at aD;have fM:=Jbt
 go_enter Tryz.func52,Tryz.ntmps52
 go_wp2_with fail
 refine Jo fun W0 ag=>?_;have ax:=Nd w W0 Uo;have bD:w.heap.size<W0.heap.size:=La;have p0:=Na W0 w.heap.size 0 ck Uc;have p1:=Nb W0 w.heap.size 1 (.string cs) Uc;clear ag
 go_loopw [5] (fun i wr=>∃(k:Nat),k<=l.length/\i = .int .i64 k/\Hid (inC (l.drop k) (ck,cs)=inC l (ck,cs))/\Below W0.heap.size W0 wr) (fun i _=>l.length-(intOf i).toNat)
 case atStart=>exact⟨0,Np,rfl,Nf (by rw [List.drop_zero]),Nt⟩
 case round=>
  obtain⟨k,hk,rfl,aa,ab⟩:=hrel;have hc:=Jg ab;have bu:=ab.size
  by_cases am:k<l.length
  ·have hx:l[k]?=some l[k]:=Ng am;have hd:l.drop k=l[k] :: l.drop (k+1):=No am;generalize l[k]=x at hx hd;obtain⟨xk,xs⟩:=x;obtain⟨b,off,rfl,cB⟩:=((hl.later ax).later ab).2.2.2 Ua;have aY:=Jl9 l k (xk,xs) hx;have d0:=Na wr b (off+k * 2) xk (cB _ _ aY.1);have d1:=Nb wr b (off+k * 2+1) (.string xs) (cB _ _ aY.2);have hr:=aa.out;rw [hd,Jwc] at hr;dsimp only at hr;have dp:=fun w=>Zt xk xs ck cs w;have hwr:=lt0 w wr;have aH:b<wr.heap.size:=Nu d0;clear cB aY hx hd aa
   cases et:K9 xk xs ck cs
   ·rw [et] at dp hr;rw [Bool.false_or] at hr;exact Ubq
   ·rw [et] at dp hr;rw [Bool.true_or] at hr;have HR:=Nf hr;clear hr et
    go_wp2_with fail
    go_quiet (fail)
    go_wp2_with fail
    exact Udg
  ·obtain rfl:k=l.length:=Ua;have hr:=aa.out;rw [Nn] at hr;have HR:=Nf hr;clear hr aa
   go_wp2_with fail
   exact Udg
end Go.Proofs.YtknfcamdfdfoeaaGreatDoor
