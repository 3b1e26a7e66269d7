/- Lemmas. -/
import Derived.Test.YtdgjplldlfeolaaGreatDoorZ35
import Derived.Test.YtdgjplldlfeolaaGreatDoorZ02
import Derived.Test.YtdgjplldlfeolaaGreatDoorZ37
import Derived.Test.YtdgjplldlfeolaaGreatDoorZ04
import Derived.Test.YtdgjplldlfeolaaGreatDoorRows
import Derived.Test.YtdgjplldlfeolaaGreatDoorZ01
import Derived.Test.YtdgjplldlfeolaaGreatDoorZ03
import Derived.Test.YtdgjplldlfeolaaGreatDoorZ31
import Derived.Test.YtdgjplldlfeolaaGreatDoorZ26
import Derived.Test.YtdgjplldlfeolaaGreatDoorZ17
set_option linter.unusedVariables false
set_option linter.unusedSimpArgs false
set_option maxRecDepth 100000
set_option maxHeartbeats 64000000
namespace Go.Proofs.YtdgjplldlfeolaaGreatDoor
open Go.RowKit
namespace Ex
end Ex
section
variable {f:Fr} {sl:ByteArray->Int} {fl:Int×ByteArray->Int}
end
theorem Jtl (L:List Va) (s:ByteArray) (h:0<L.length):0<=Xu L s/\Xu L s<(L.length:Int):=by
 unfold Xu
 cases hv:Qi L s with
 | none=>exact⟨by simp,by simp;omega⟩
 | some j=>
  obtain⟨k,v,rfl,hk,_⟩:=Zi hv;have:=(List.getElem?_eq_some_iff.1 hk).1;simp only [Option.getD_some];omega
theorem Jf3 (d:Int×ByteArray):∀(l:List Ce) (i:Nat),Jav i l d=0\/((i:Int)<=Jav i l d/\Jav i l d<((i+l.length:Nat):Int))
 | [],i=> .inl rfl
 | x :: r,i=>by
  rw [Jav]
  split
  ·right;rw [List.length_cons];omega
  ·rcases Jf3 d r (i+1) with h|h
   ·exact .inl h
   ·right;rw [List.length_cons];omega
namespace Ex
theorem Jpf {L:List Va} : ∀(r:List Ex),(typL L r).2=0->∀x∈r,(typ L x).2=0
 | [],_,x,hx=>by cases hx
 | y :: r,h,x,hx=>by
  obtain⟨h1,h2⟩:=Jmx h
  rcases List.mem_cons.1 hx with rfl|hx
  ·exact h1
  ·exact Jpf r h2 x hx
theorem Kbj {k:Int} {s:ByteArray} {c:Int×ByteArray} : ∀(r:List Ex) (i:Nat) (d:Int×ByteArray),d∈arrsL [] k s c i r->∃(j:Nat) (x:Ex),r[j]?=some x/\d∈x.arrs [] (K4 k s c (i+j))
 | [],i,d,h=>by rw [arrsL] at h;cases h
 | x :: r,i,d,h=>by
  rw [arrsL,Kat r (fun y _=>arrs_app y)] at h
  rcases List.mem_append.1 h with h|h
  ·exact⟨0,x,rfl,h⟩
  ·obtain⟨j,y,h1,h2⟩:=Kbj r (i+1) d h;exact⟨j+1,y,by simpa using h1,by rwa [show i+(j+1)=i+1+j from by omega]⟩
theorem arrs_all {L:List Va} (e:Ex):∀c,e.formed=true->(e.typ L).2=0->∀d∈e.arrs [] c,d=c\/d∈X3 L:=by
 induction e using ind with
 | h e ih=>
  intro c hf ht d hd;rw [typ_eq] at ht
  by_cases hr:(typL L e.sub).2=0
  ·rw [if_pos hr] at ht;rw [arrs_eq,Kat e.sub (fun y _=>arrs_app y)] at hd
   rcases List.mem_append.1 hd with h1|h1
   ·split at h1
    ·left;simpa using h1
    ·cases h1
   ·obtain⟨j,x,hx,h2⟩:=Kbj e.sub 0 d h1;have hm:=List.mem_of_getElem? hx;have h3:=ih x hm _ (Q9 hf x hm) (Jpf e.sub hr x hm) d h2
    rcases h3 with h3|h3
    ·rw [Nat.zero_add] at h3;subst h3;unfold K4
     by_cases hk:e.kind=10
     ·rw [if_pos hk]
      right
      have hl:=Jfj hf hk;have hj:j<2:=by have:=(List.getElem?_eq_some_iff.1 hx).1;omega
      have aS:e.name.toList.isEmpty=false:=by
       rcases Jh0 hf with ⟨_,h⟩|⟨h,_⟩
       ·exact Jbx h
       ·exact absurd hk h.2.2.2
      have lC:(K7 L e.name).2=true:=by
       unfold Y2 at ht
       cases jo:(K7 L e.name).2
       ·rw [if_pos ⟨by simpa using aS,jo⟩] at ht;exact absurd ht (by decide)
       ·rfl
      unfold K7 at lC
      cases hv:Qi L e.name with
      | none=>rw [hv] at lC;simp at lC
      | some i=>
       obtain⟨k,v,_,dz,hn⟩:=Zi hv;unfold X3;refine List.mem_cons_of_mem _ (Jfn.2 ⟨v,List.mem_of_getElem? dz,?_⟩);rw [<-hn]
       rcases(by omega:j=0\/j=1) with rfl|rfl
       ·exact .inl rfl
       ·exact .inr rfl
     ·rw [if_neg hk]
      split
      ·right;unfold X3;exact List.mem_cons_self
      ·exact .inl rfl
    ·exact .inr h3
  ·rw [if_neg hr] at ht;exact absurd ht hr
end Ex
theorem Kb0 {L:List Va} : ∀(l:List Qe) (m:List (Int×ByteArray)) (d:Int×ByteArray),(d∈m\/∃q∈l,d∈q.e.arrs [] (J9 L q.name))->d∈l.foldl (fun m q=>q.e.arrs m (J9 L q.name)) m
 | [],m,d,h=>by
  rcases h with h|⟨q,hq,_⟩
  ·exact h
  ·cases hq
 | x :: l,m,d,h=>by
  rw [List.foldl_cons];refine Kb0 l _ d ?_;rw [Ex.arrs_app]
  rcases h with h|⟨q,hq,h⟩
  ·exact .inl (List.mem_append_left _ h)
  ·rcases List.mem_cons.1 hq with rfl|hq
   ·exact .inl (List.mem_append_right _ h)
   ·exact .inr ⟨q,hq,h⟩
theorem Jay.arrow {p:Pr} (h:Jay p) {q:Qe} (hq:q∈p.eqs) {d:Int×ByteArray} (hd:d∈q.e.arrs [] (J9 (Je p) q.name)):0<(Jq p).length:=by
 have dV:d∈X3 (Je p):=by
  rcases Ex.arrs_all (L:=Je p) q.e _ (h.eqs q hq).formed ((Xp h.chk).2.2 q hq) d hd with h1|h1
  ·obtain⟨v,hv,_,_,bO,nk⟩:=Ja3 h.clk hq;rw [bO] at h1;subst h1;unfold X3
   rcases nk with ⟨h2,h3⟩|⟨h2,_,u,hu,gG⟩
   ·have:v.cn=⟨#[]⟩:=Jej (by simpa using h3);rw [h2,this];exact List.mem_cons_self
   ·refine List.mem_cons_of_mem _ (Jfn.2 ⟨u,hu,?_⟩);rw [gG]
    rcases(h.vars v hv).ck with h4|h4|h4
    ·exact absurd h4 h2
    ·left;rw [h4]
    ·right;rw [h4]
  ·exact h1
 have fL:inC (Jad (Je p) p.eqs) d=true:=Kce.2 (Kb0 _ _ _ (.inr ⟨q,hq,hd⟩));unfold Jq Kaq;rw [List.length_append,List.length_map];have:0<((X3 (Je p)).filter (inC (Jad (Je p) p.eqs))).length:=List.length_pos_of_mem (List.mem_filter.2 ⟨dV,fL⟩);rw [List.length_map];omega
def Kt (c:List (Int×Int)):Prop:=∀i∈c,I32 i.2
theorem Kt.app {a b:List (Int×Int)} (ha:Kt a) (hb:Kt b):Kt (a ++ b):=fun i hi=>by
 rcases List.mem_append.1 hi with h|h
 ·exact ha i h
 ·exact hb i h
theorem Kt.nil:Kt []:=fun i hi=>by cases hi
theorem Kt.cons {op n:Int} {l:List (Int×Int)} (h:I32 n) (hl:Kt l):Kt ((op,n) :: l):=fun i hi=>by
 rcases List.mem_cons.1 hi with rfl|hi
 ·exact h
 ·exact hl i hi
theorem Jey {n:Nat} (h:n<=1000000):I32 (n:Int):=by unfold I32;omega
section
variable {sl:ByteArray->Int} {fl:Int×ByteArray->Int}
theorem Kt.choice {v a b:List (Int×Int)} (hv:Kt v) (ha:Kt a) (hb:Kt b) (la:a.length<=100000) (lb:b.length<=100000):Kt (Yv v a b):=by
 unfold Yv;exact(((hv.app (Kt.cons (by unfold I32;omega) Kt.nil)).app ha).app (Kt.cons (by unfold I32;omega) Kt.nil)).app hb
theorem Jyx (dF:∀s,I32 (sl s)) (gM:∀c,I32 (fl c)) (e:Ex):e.OK->e.size<=120->∀c,Kt (e.gen sl fl c):=by
 induction e using Ex.ind with
 | h e ih=>
  intro ho hz c;have hn:I32 e.n:=by cases e;simp only [Ex.OK] at ho;exact ho.2.1
  have hp:∀j,Kt ((Ex.genL sl fl e.kind e.name c 0 e.sub).getD j [])/\((Ex.genL sl fl e.kind e.name c 0 e.sub).getD j []).length<=100000:=by
   intro j
   by_cases hj:j<e.sub.length
   ·have hx:e.sub[j]?=some e.sub[j]:=List.getElem?_eq_getElem hj;have hm:e.sub[j]∈e.sub:=List.getElem_mem hj;generalize e.sub[j]=x at hx hm;have h2:=Ex.size_sub hx;rw [Ex.genL_get sl fl e.kind e.name c e.sub 0 j x hx];have h4:=Ex.gen_len sl fl x (K4 e.kind e.name c (0+j));exact⟨ih x hm (Ex.OK_sub ho hm) (by omega) _,by omega⟩
   ·have:(Ex.genL sl fl e.kind e.name c 0 e.sub).getD j [] = []:=by
     rw [List.getD_eq_getElem?_getD,List.getElem?_eq_none (by rw [Ex.genL_len];omega)];rfl
    rw [this];exact⟨Kt.nil,by simp⟩
  rw [Ex.gen_eq];generalize Ex.genL sl fl e.kind e.name c 0 e.sub=ps at hp;unfold Jae;have one:∀(op n:Int),I32 n->Kt [(op,n)]:=fun op n h=>Kt.cons h Kt.nil
  split
  ·exact one _ _ (dF _)
  split
  ·exact(hp 0).1.app (one _ _ hn)
  split
  ·exact((hp 0).1.app (hp 1).1).app (one _ _ hn)
  split
  ·exact(hp 0).1.choice (hp 1).1 (hp 2).1 (hp 1).2 (hp 2).2
  split
  ·exact(one _ _ (gM c)).choice (hp 1).1 (hp 0).1 (hp 1).2 (hp 0).2
  split
  ·exact(hp 0).1
  split
  ·exact(one _ _ (dF _)).choice (hp 0).1 (hp 1).1 (hp 0).2 (hp 1).2
  ·exact one _ _ hn
theorem Kt.under (dF:∀s,I32 (sl s)) {c:Int×ByteArray} {x:List (Int×Int)} (hx:Kt x) (lx:x.length<=100000):Kt (Qk sl c x):=by
 unfold Qk;have hl:I32 (x.length:Int):=Jey (by omega)
 split
 ·exact(Kt.cons (dF _) (Kt.cons hl Kt.nil)).app hx
 ·split
  ·exact(Kt.cons (dF _) (Kt.cons (by unfold I32;omega) (Kt.cons hl Kt.nil))).app hx
  ·exact hx
theorem Jq8 (dF:∀s,I32 (sl s)):∀(l:List Va) (i:Nat),i+l.length<=100000->Kt (Yh sl i l)
 | [],i,_=>Kt.nil
 | v :: r,i,h=>by
  rw [List.length_cons] at h;rw [Yh];exact(Kt.cons (Jey (by omega)) (Kt.cons (dF _) Kt.nil)).app (Jq8 dF r (i+1) (by omega))
theorem Jro (dF:∀s,I32 (sl s)):∀(l:List Qe) (i:Nat),i+l.length<=100000->Kt (Zx sl i l)
 | [],i,_=>Kt.nil
 | v :: r,i,h=>by
  rw [List.length_cons] at h;rw [Zx];exact(Kt.cons (Jey (by omega)) (Kt.cons (dF _) Kt.nil)).app (Jro dF r (i+1) (by omega))
theorem Jri (dF:∀s,I32 (sl s)):∀(l:List Va) (i:Nat),i+l.length<=100000->Kt (Xl sl i l)
 | [],i,_=>Kt.nil
 | v :: r,i,h=>by
  rw [List.length_cons] at h;rw [Xl];exact(Kt.cons (dF _) (Kt.cons (Jey (by omega)) Kt.nil)).app (Jri dF r (i+1) (by omega))
theorem Jrj (dF:∀s,I32 (sl s)):∀(l:List Ce) (i:Nat),i+l.length<=100000->Kt (Ze sl i l)
 | [],i,_=>Kt.nil
 | v :: r,i,h=>by
  rw [List.length_cons] at h;rw [Ze];exact(Kt.under dF (Kt.cons (by unfold I32;omega) (Kt.cons (Jey (by omega)) Kt.nil)) (by simp)).app (Jrj dF r (i+1) (by omega))
theorem Jrf {L:List Va} (dF:∀s,I32 (sl s)):∀(l:List Qe) (i:Nat),(∀q∈l,∀c,Kt (q.e.gen sl fl c)/\(q.e.gen sl fl c).length<=360)->i+l.length<=100000->Kt (Zu sl fl L i l)
 | [],i,_,_=>Kt.nil
 | q :: r,i,hq,h=>by
  rw [List.length_cons] at h;rw [Zu];obtain⟨g1,g2⟩:=hq q (by simp) (J9 L q.name);exact(Kt.under dF (g1.app (Kt.cons (Jey (by omega)) Kt.nil)) (by simp;omega)).app (Jrf dF r (i+1) (fun x hx=>hq x (by simp [hx])) (by omega))
theorem Jrd {L:List Va} {eqs:List Qe} (dF:∀s,I32 (sl s)) (hq:∀q∈eqs,∀c,Kt (q.e.gen sl fl c)/\(q.e.gen sl fl c).length<=360):∀l:List Int,Kt (Xd sl fl L eqs l)
 | []=>Kt.nil
 | j :: r=>by
  rw [Xd];refine Kt.app ?_ (Jrd dF hq r)
  cases hx:eqs[j.toNat]? with
  | none=>exact Kt.nil
  | some q=>
   obtain⟨g1,g2⟩:=hq q (List.mem_of_getElem? hx) (J9 L q.name);exact Kt.under dF (g1.app (Kt.cons (dF _) Kt.nil)) (by simp;omega)
end
theorem Jwf (L:List Va) (hl:L.length<=100000) (s:ByteArray):I32 (Xu L s):=by
 rcases Nat.eq_zero_or_pos L.length with h|h
 ·have:L = []:=List.eq_nil_of_length_eq_zero h;subst this;have:Xu [] s=0:=rfl;rw [this];unfold I32;omega
 ·have:=Jtl L s h;unfold I32;omega
theorem Jwd (l:List Ce) (hl:l.length<=100000) (d:Int×ByteArray):I32 (Kg l d):=by
 rcases Jf3 d l 0 with h|h
 ·unfold Kg;rw [h];unfold I32;omega
 ·unfold Kg I32;omega
theorem Jvr {p:Pr} (h:Jay p) (aw:Ke5 p) (hb:¬16<(Jq p).length):∀i∈Xs p,I32 i.2:=by
 have jN:=h.small;have dF:=Jwf (Je p) (by omega);have gM:=Jwd (Jq p) (by omega)
 have hq:∀q∈p.eqs,∀c,Kt (q.e.gen (Xu (Je p)) (Kg (Jq p)) c)/\(q.e.gen (Xu (Je p)) (Kg (Jq p)) c).length<=360:=fun q hq c=>
  ⟨Jyx dF gM q.e (aw.eqs q hq).2.2.2 (h.eqs q hq).size c,h.codes q hq _ _ _⟩
 have ek:=Ja4 p.eqs;unfold Xs;exact(((((Jq8 dF p.ins 0 (by omega)).app (Jro dF (J0 p.eqs) 0 (by omega))).app (Jrd dF hq (J1 p).1)).app (Jrf dF (J0 p.eqs) 0 (fun q hd=>hq q (Z4 hd).1) (by omega))).app (Jrj dF _ _ (by rw [List.length_drop];omega))).app (Jri dF p.outs 0 (by omega))
theorem Jy1 {e:Ex} (h:e.OK):I32 (Jai e):=by
 unfold Jai
 split
 ·exact Jvc _
 ·cases e;simp only [Ex.OK] at h;exact h.2.1
theorem Jt7 {p:Pr} (aw:Ke5 p):∀x∈(Jq p).map (·.first),I32 x:=by
 intro x hx;obtain⟨c,hc,rfl⟩:=List.mem_map.1 hx;unfold Jq at hc
 rcases List.mem_append.1 hc with hc|hc
 ·obtain⟨q,hq,rfl⟩:=List.mem_map.1 hc;exact Jy1 (aw.eqs q (Z4 hq).1).2.2.1
 ·unfold Kaq at hc;obtain⟨d,_,rfl⟩:=List.mem_map.1 hc;show I32 0;unfold I32;omega
def Kfk (s:ByteArray) (v:Int):Im×(Int×Int×Int):=
 if (Kdm s).2.1≠0 then(Im.zero,(1,(Kdm s).2.2,(Kdm s).2.1)) else imE (Kdm s).1 v
theorem Km7 {p:Pr} (v:Int) (h:K5 p≠0):(imE p v).2=(4,0,K5 p):=by
 have no:∀x:Int,((4:Int),(0:Int),x)≠(0,0,0):=fun x e=>by simp at e
 have h1:J7 p=(4,0,K5 p):=by unfold J7;rw [if_pos h]
 have h2:Qg p=(4,0,K5 p):=by unfold Qg;rw [if_pos (by rw [h1];exact no _),h1]
 have h3:(J1 p).2=(4,0,K5 p):=by unfold J1;rw [if_neg (by rw [h2];exact no _)];exact h2
 have h4:Ks p=(4,0,K5 p):=by unfold Ks;rw [if_neg (by rw [h3];exact no _)];exact h3
 have h5:(Kf p).2=(4,0,K5 p):=by unfold Kf;rw [if_neg (by rw [h4];exact no _)];exact h4
 have h6:(Xg p).2.2=(4,0,K5 p):=by unfold Xg;rw [if_neg (by rw [h5];exact no _)];exact h5
 unfold imE;rw [if_pos (by rw [h6];exact no _)];exact h6
theorem Kh7 {p:Pr} (h:K5 p=0):Qw p=true/\(Jal p).size<=4096:=by
 unfold K5 at h
 split at h
 ·simp at h
 ·rename_i hw
  split at h
  ·simp at h
  ·exact⟨by simpa using hw,by omega⟩
theorem Kmq {s:ByteArray} {v:Int} (h:(Kdm s).2.1=0) (hp:K5 (Kdm s).1=0):Kfk (Jal (Kdm s).1) v=Kfk s v:=by
 obtain⟨h1,h2⟩:=Kh7 hp;unfold Kfk;rw [Kkf h1 h2,if_neg (by simp),if_neg (by simpa using h)]
end Go.Proofs.YtdgjplldlfeolaaGreatDoor
namespace Go.Proofs.YtdgjplldlfeolaaGreatDoor
open Go.RowKit Go.Sort
theorem X9.of {w W:World} {B n:Nat} {v:Value} {xs:List Value} {l:List (Int×Int)} (h:W.ownsRow B 122 2 v n xs) (hn:n=l.length) (hx:xs=cdC l) (hB:w.heap.size<=B) (hb:Below w.heap.size w W):X9 w l (.returned v) W:=by
 subst hn hx;exact⟨⟨v,rfl,K8 h hB⟩,hb⟩
end Go.Proofs.YtdgjplldlfeolaaGreatDoor
namespace Go.Proofs.YtdgjplldlfeolaaGreatDoor
open Go.RowKit
theorem Jay.find {p:Pr} (h:Jay p) {q:Qe} (hq:q∈p.eqs):∃(j:Nat) (v:Va),Jp (Je p) q.name=(j:Int)/\(Je p)[j]?=some v/\v∈Je p/\v.name=q.name/\(v.ck,v.cn)=J9 (Je p) q.name:=by
 obtain⟨v,hv,hf,hn,bO,_⟩:=Ja3 h.clk hq
 rcases Y5 (Je p) q.name with ⟨_,h2⟩|⟨k,u,h1,h2,h3⟩
 ·rw [hf] at h2;cases h2
 ·rw [hf] at h3;injection h3 with h3;subst h3;exact⟨k,v,h1,h2,hv,hn,bO.symm⟩
section
variable {sl sl':ByteArray->Int} {fl:Int×ByteArray->Int} {L:List Va}
namespace Ex
end Ex
end
end Go.Proofs.YtdgjplldlfeolaaGreatDoor
