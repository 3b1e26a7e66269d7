/- Lemmas. -/
import Derived.Test.YtknfcamdfdfoeaaGreatDoorMac
import Derived.Test.YtknfcamdfdfoeaaGreatDoorZ20
import Derived.Test.YtknfcamdfdfoeaaGreatDoorZ18
import Derived.Test.YtknfcamdfdfoeaaGreatDoorZ19
import Derived.Test.YtknfcamdfdfoeaaGreatDoorZ05
set_option linter.unusedVariables false
set_option linter.unusedSimpArgs false
set_option maxRecDepth 100000
set_option maxHeartbeats 64000000
namespace Go.Proofs.YtknfcamdfdfoeaaGreatDoor
open Go.RowKit
def leB:Nat->Nat->List Int
 | 0,_=>[]
 | w+1,n=>((n % 256:Nat):Int) :: leB w (n / 256)
theorem Y4:∀w n,(leB w n).length=w
 | 0,_=>rfl
 | w+1,n=>by rw [leB,List.length_cons,Y4 w]
def Xh (a:Int):Nat:=(a % 4294967296).toNat
theorem Jne (a:Int):Xh a<4294967296:=by unfold Xh;omega
def Jdm (i:Int×Int):List Int:=i.1 :: leB (Qp i.1).toNat (Xh i.2)
def Ja7 (c:List (Int×Int)):List Int:=c.flatMap Jdm
def Je9 (l:List Int):List Int:=l.flatMap fun v=>leB 4 (Xh v)
def Jcs (x:List Int):List Int:=leB 2 x.length ++ x
theorem Jlt (op:Int):0<=Qp op/\Qp op<=4:=by
  unfold Qp;repeat' split
  all_goals omega
theorem Jnq (i:Int×Int):(Jdm i).length<=5:=by
 unfold Jdm;have:=Jlt i.1;rw [List.length_cons,Y4];omega
theorem Jit (c:List (Int×Int)):(Ja7 c).length<=5 * c.length:=by
 unfold Ja7
 induction c with
 | nil=>simp
 | cons i c ih=>
  have:=Jnq i;rw [List.flatMap_cons,List.length_append,List.length_cons];omega
theorem Jsn (l:List Int):(Je9 l).length=4 * l.length:=by
 unfold Je9
 induction l with
 | nil=>simp
 | cons i c ih=>rw [List.flatMap_cons,List.length_append,List.length_cons,Y4];omega
theorem Js9 (c:List (Int×Int)) (i:Int×Int):Ja7 (c ++ [i])=Ja7 c ++ Jdm i:=by unfold Ja7;simp
structure Im where
 ver:Int
 fro:Int
 eld:Int
 fr:Fr
 first:List Int
 step:List (Int×Int)
 move:List (Int×Int)
 sf:Int
 mf:Int
def Fr.zero:Fr:=⟨0,0,0,0,0⟩
def Im.zero:Im:=⟨0,0,0,Fr.zero,[],[],[],0,0⟩
def Jcj (c:List (Int×Int)) (f:Fr) (fuel:Int):Int:=if (Yi c f).2.1=0/\(Yi c f).1.2≠fuel then 14 else(Yi c f).2.1
def Im.moves (m:Im):Fr:=⟨0,m.eld,m.fr.n,0,0⟩
def Im.wrong (m:Im):Int:=
 if m.ver=0\/m.ver<=m.fro\/m.eld<0\/16<m.eld then 1
 else if m.fr.o≠m.fr.n\/(m.first.length:Int)≠m.fr.n then 1
 else if m.fro=0/\(0<m.eld\/0<m.move.length) then 1
 else if Jcj m.step m.fr m.sf≠0 then Jcj m.step m.fr m.sf
 else Jcj m.move m.moves m.mf
def Ju8 (m:Im):List Int:=
 [77,73,68,83] ++ leB 4 m.ver.toNat ++ leB 4 m.fro.toNat ++ leB 1 m.eld.toNat ++ leB 1 m.fr.s.toNat ++ leB 1 m.fr.n.toNat ++ leB 1 m.fr.i.toNat ++ leB 1 m.fr.u.toNat ++ leB 2 m.sf.toNat ++ leB 2 m.mf.toNat
def Jba (m:Im):List Int:=Ju8 m ++ Jcs (Je9 m.first) ++ Jcs (Ja7 m.step) ++ Jcs (Ja7 m.move)
def Jdl (m:Im):List Int×Int:=if m.wrong≠0 then([],m.wrong) else if 2016<(Jba m).length then([],3) else(Jba m,0)
theorem Juv {f:Fr} {n:Nat} : ∀(c:List (Int×Int)) (k:Nat) (ps:List Pl) (dep:Int),Jaa k n dep ps->(goJ f n k c ps dep).2.1=0->
  (∀i∈c,Qj i=0)/\0<=(goJ f n k c ps dep).1.1/\(goJ f n k c ps dep).1.1<=16/\0<=(goJ f n k c ps dep).1.2/\(goJ f n k c ps dep).1.2<=((k+c.length:Nat):Int)
 | [],k,ps,dep,h,h0=>by
  rw [goJ] at h0 ⊢;have hg:=h.get n;have hd:=h.dep0
  split at h0
  ·exact absurd (show(12:Int)=0 from h0) Ux
  ·rename_i hz;rw [if_neg hz];exact⟨Ul,hd.1,hd.2,hg.2.2.1,by simpa using hg.2.2.2.1⟩
 | i :: c,k,ps,dep,h,h0=>by
  rw [goJ] at h0 ⊢
  by_cases h1:(Jct f k i ps dep).1≠0
  ·rw [if_pos h1] at h0;exact absurd h0 h1
  ·rw [if_neg h1] at h0 ⊢;have h2:(Jct f k i ps dep).1=0:=Lw;obtain⟨g1,g2,g3,g4,g5⟩:=Juv c (k+1) _ _ (h.one h2) h0;refine⟨fun j hj=>?_,g2,g3,g4,by rw [List.length_cons];omega⟩
   rcases List.mem_cons.1 hj with rfl|hj
   ·unfold Jct at h2
    split at h2
    ·exact h2
    ·rename_i hh;simpa using hh
   ·exact g1 j hj
theorem Jt5 {c:List (Int×Int)} {f:Fr} (h:(Yi c f).2.1=0):f.good=true/\c.length<=600/\(∀i∈c,Qj i=0)/\0<=(Yi c f).1.1/\(Yi c f).1.1<=16/\0<=(Yi c f).1.2/\(Yi c f).1.2<=(c.length:Int):=by
 unfold Yi at h ⊢
 by_cases h1:f.good=false
 ·rw [if_pos h1] at h;exact absurd h Ux
 ·rw [if_neg h1] at h ⊢
  by_cases h2:600<c.length
  ·rw [if_pos h2] at h;exact absurd h Ux
  ·rw [if_neg h2] at h ⊢;obtain⟨g1,g2⟩:=Juv c 0 _ _ (Jaa.start c.length) h;exact⟨Lw,Ua,g1,by simpa using g2⟩
theorem Fr.good_iff {f:Fr} : f.good=true<->(0<=f.s/\f.s<=24)/\(0<=f.o/\f.o<=16)/\(0<=f.n/\f.n<=16)/\(0<=f.i/\f.i<=8)/\(0<=f.u/\f.u<=8):=by
 unfold Fr.good inB;simp [and_assoc]
structure Im.Right (m:Im):Prop where
 ver:m.ver≠0/\m.fro<m.ver
 eld:0<=m.eld/\m.eld<=16
 fr:m.fr.good=true
 old:m.fr.o=m.fr.n/\(m.first.length:Int)=m.fr.n
 step:m.step.length<=600/\(∀i∈m.step,Qj i=0)/\0<=m.sf/\m.sf<=600
 move:m.move.length<=600/\(∀i∈m.move,Qj i=0)/\0<=m.mf/\m.mf<=600
theorem Jmp {c:List (Int×Int)} {f:Fr} {fuel:Int} (h:Jcj c f fuel=0):f.good=true/\c.length<=600/\(∀i∈c,Qj i=0)/\0<=fuel/\fuel<=600:=by
 unfold Jcj at h
 split at h
 ·exact absurd h Ux
 ·rename_i hn;obtain⟨g1,g2,g3,g4,g5,g6,g7⟩:=Jt5 h
  have:(Yi c f).1.2=fuel:=by
   by_cases he:(Yi c f).1.2=fuel
   ·exact he
   ·exact absurd ⟨h,he⟩ hn
  exact⟨g1,g2,g3,Ua,Ua⟩
theorem Im.right {m:Im} (h:m.wrong=0):m.Right:=by
 unfold Im.wrong at h
 split at h
 ·exact absurd h Ux
 split at h
 ·exact absurd h Ux
 split at h
 ·exact absurd h Ux
 split at h
 ·rename_i hn;exact absurd h hn
 ·rename_i h1 h2 h3 h4;obtain⟨a1,a2,a3,a4,a5⟩:=Jmp (by simpa using h4);obtain⟨b1,b2,b3,b4,b5⟩:=Jmp h;exact⟨Ua,Ua,a1,Ua,⟨a2,a3,a4,a5⟩,⟨b2,b3,b4,b5⟩⟩
def Jke (p:Pr):Fr:=⟨(Je p).length,(Jq p).length,(Jq p).length,p.ins.length,p.outs.length⟩
def Jd8 (p:Pr) (v:Int):Im:=⟨v,0,0,Jke p,(Jq p).map (·.first),Xs p,[],(Yi (Xs p) (Jke p)).1.2,0⟩
def imE (p:Pr) (v:Int):Im×(Int×Int×Int):=
 if (Xg p).2.2≠(0,0,0) then(Im.zero,(Xg p).2.2)
 else if v=0 then(Im.zero,(4,0,1))
 else if (Jdl (Jd8 p v)).2≠0 then(Im.zero,(4,0,(Jdl (Jd8 p v)).2))
 else(Jd8 p v,(0,0,0))
def Jc3 (x:Ce) (d:Int×ByteArray):Prop:=x.name.toList.isEmpty=true/\K9 x.ck x.cn d.1 d.2=true
theorem Jlk (x:Ce) (d:Int×ByteArray) (hx:Jc3 x d):∀(l:List Ce) (i:Nat),(∀u∈l,¬Jc3 u d)->Jav i (l ++ [x]) d=((i+l.length:Nat):Int)
 | [],i,_=>by
  unfold Jc3 at hx;simp only [List.nil_append,Jav];rw [if_pos hx];rfl
 | u :: l,i,h=>by
  have h1:=h u Ul;unfold Jc3 at h1;rw [List.cons_append,Jav,if_neg h1,Jlk x d hx l (i+1) fun y hy=>h y F0,List.length_cons]
  congr 1;omega
theorem Jk5 (x:Ce) (d:Int×ByteArray) (hx:¬Jc3 x d):∀(l:List Ce) (i:Nat),Jav i (l ++ [x]) d=Jav i l d
 | [],i=>by
  unfold Jc3 at hx;simp only [List.nil_append,Jav];rw [if_neg hx]
 | u :: l,i=>by
  rw [List.cons_append,Jav,Jav]
  split
  ·exact Gd
  ·exact Jk5 x d hx l (i+1)
theorem Jee (x:Ce) (d:Int×ByteArray):(x.name.toList.isEmpty=true/\d.1=x.ck/\d.2.data=x.cn.data)<->Jc3 x d:=by
 unfold Jc3;rw [Jdg]
 constructor
 ·rintro⟨h1,h2,h3⟩;exact⟨h1,h2.symm,by rw [Jxo.1 h3]⟩
 ·rintro⟨h1,h2,h3⟩;exact⟨h1,h2.symm,by rw [Jej h3]⟩
theorem Jtp (d:Int×ByteArray):∀l:List Ce,Jha l->(Jeg l d).getD 0=Kg l d:=by
 refine Jgj (fun _=>rfl) fun l x ih h=>?_;unfold Jha at h ih;rw [List.pairwise_append] at h;rw [Jef];unfold Kg at ih ⊢
 by_cases hx:Jc3 x d
 ·rw [if_pos ((Jee x d).2 hx),Jlk x d hx l 0 fun u hu hud=>?_]
  ·exact Ul
  ·have h1:=(Jee x d).2 hx;have h2:=(Jee u d).2 hud;exact h.2.2 u hu x Ul h2.1 h1.1 (Prod.ext (h2.2.1.symm.trans h1.2.1) (Jxo.1 (h2.2.2.symm.trans h1.2.2)))
 ·rw [if_neg (fun he=>hx ((Jee x d).1 he)),Jk5 x d hx];exact ih h.1
structure Juk (v:Va):Prop where
 name:v.name.size<=16
 ne:v.name.toList.isEmpty=false
 cn:v.cn.size<=16
 ck:v.ck=0\/v.ck=1\/v.ck=2
structure Jtw (q:Qe):Prop where
 name:q.name.size<=16
 ne:q.name.toList.isEmpty=false
 right:q.e.right=0
 formed:q.e.formed=true
 size:q.e.size<=120
 depth:q.e.depth<=12
 first:q.first.kind=4->∃x r,q.first.sub=x :: r
 delay:q.delay=0\/q.delay=1\/q.delay=2
 pre:q.delay=2->Jai q.first=0
structure Jay (p:Pr):Prop where
 order:(J1 p).2=(0,0,0)
 clk:Qg p=(0,0,0)
 chk:J7 p=(0,0,0)
 whole:Qw p=true
 dist:Jb4 (Je p)
 nodup:((Je p).map (·.name)).Nodup
 small:p.ins.length<=8/\p.outs.length<=8/\(Je p).length<=24/\p.eqs.length<=24
 vars:∀v∈Je p,Juk v
 eqs:∀q∈p.eqs,Jtw q
 vof:∀q∈p.eqs,∃v∈Je p,v.name=q.name/\J9 (Je p) q.name=(v.ck,v.cn)
theorem Jeb {v:Va} {b:Bool} (h:Ke v b=true):Juk v:=by
 simp only [Ke,Bool.and_eq_true] at h;have h3:=h.2;have h1:=h.1.1;refine⟨Jaf h1,Jbx h1,?_,?_⟩
 ·by_cases h0:v.ck=0
  ·rw [if_pos h0] at h3;exact Jgu (.inr h3)
  ·rw [if_neg h0] at h3
   by_cases h4:v.ck=1\/v.ck=2
   ·rw [if_pos h4,Bool.and_eq_true] at h3;exact Jaf h3.2
   ·rw [if_neg h4] at h3;simp at h3
 ·by_cases h0:v.ck=0
  ·exact .inl h0
  ·rw [if_neg h0] at h3
   by_cases h4:v.ck=1\/v.ck=2
   ·exact .inr h4
   ·rw [if_neg h4] at h3;simp at h3
theorem Jn2 {e:Ex} (h:e.literal=true) (hk:e.kind=4):∃x r,e.sub=x :: r:=by
 unfold Ex.literal at h
 split at h
 ·split at h
  ·cases hs:e.sub with
   | nil=>rw [hs] at h;simp at h
   | cons x r=>exact⟨x,r,rfl⟩
  ·rw [hk] at h;simp at h
 ·exact Lt
theorem Jns {e:Ex} (h:e.same Ex.zero=true):e.kind=0/\e.n=0:=by
 rw [Ex.same_eq] at h;simp only [Bool.and_eq_true,beq_iff_eq] at h;exact⟨h.1.1.1.1,h.1.1.1.2⟩
theorem Jv0 {q:Qe} (h:eqB q=true):Jtw q:=by
 simp only [eqB,Bool.and_eq_true,beq_iff_eq] at h;obtain⟨⟨h1,h2⟩,h3⟩:=h;obtain⟨r1,r2,r3⟩:=Ex.right_zero.1 h2;have cE:=Ex.count_size q.e 121 Ua;refine⟨Jaf h1,Jbx h1,h2,r3,Ua,r2,fun hk=>?_,?_,fun hd=>?_⟩
 ·by_cases d1:q.delay=1
  ·rw [if_pos d1] at h3;exact Jn2 h3 hk
  ·rw [if_neg d1] at h3
   split at h3
   ·have:=(Jns h3).1;rw [hk] at this;exact absurd this Ux
   ·cases h3
 ·by_cases d1:q.delay=1
  ·exact .inr (.inl d1)
  ·rw [if_neg d1] at h3
   split at h3
   ·rename_i hd;rcases hd with hd|hd
    ·exact .inl hd
    ·exact .inr (.inr hd)
   ·cases h3
 ·rw [if_neg Ua,if_pos (.inr hd)] at h3;obtain⟨h4,h5⟩:=Jns h3;unfold Jai;rw [if_neg Ua,h5]
theorem Jp3 {α:Type} : ∀(l m:List α),l.Nodup->(∀x∈l,x∈m)->l.length<=m.length
 | [],m,_,_=>Ul
 | x :: l,m,h,hs=>by
  obtain⟨a,b,hm⟩:=List.append_of_mem (hs x Ul);have hn:=List.nodup_cons.1 h
  have:=Jp3 l (a ++ b) hn.2 fun y hy=>by
   have h1:=hs y F0;rw [hm] at h1;have aS:y≠x:=fun he=>hn.1 (he ▸ hy)
   rcases List.mem_append.1 h1 with h2|h2
   ·exact List.mem_append.2 (.inl h2)
   ·rcases List.mem_cons.1 h2 with h3|h3
    ·exact absurd h3 aS
    ·exact List.mem_append.2 (.inr h3)
  rw [hm];simp only [List.length_append,List.length_cons] at this ⊢;exact Ua
theorem Jgp:∀ {L:List Va},Jb4 L->(L.map (·.name)).Nodup
 | [],_=>Ul
 | v :: L,h=>by
  obtain⟨h1,h2⟩:=h.tail;rw [List.map_cons,List.nodup_cons];refine⟨fun hm=>?_,Jgp h1⟩;obtain⟨u,hu,hn⟩:=List.mem_map.1 hm;exact h2 u hu hn
theorem Jsv {l:List Qe} (h:l.Pairwise (fun a b=>a.name≠b.name)):(l.map (·.name)).Nodup:=by
 unfold List.Nodup;rw [List.pairwise_map];exact h
theorem Jvz {p:Pr} (h:J7 p=(0,0,0)):p.ins.length<=8/\p.outs.length<=8/\(Je p).length<=24:=by
 unfold J7 at h
 split at h
 ·rename_i h1;rw [Prod.mk.injEq,Prod.mk.injEq] at h;omega
 ·split at h
  ·rw [Prod.mk.injEq,Prod.mk.injEq] at h;omega
  ·exact Ua
theorem Jff {p:Pr} (h:Ks p=(0,0,0)):Jay p:=by
 have hO:=(Jsu h).1;have aN:=(Yg hO).1;have hc:=(Xk aN).1;obtain⟨jn,gG,_⟩:=Xp hc;have kD:=jn;simp only [Qw,Bool.and_eq_true,List.all_eq_true] at kD;obtain⟨ci,_,_⟩:=Jbe hc
 have xr:∀q∈p.eqs,∃v∈Je p,v.name=q.name/\J9 (Je p) q.name=(v.ck,v.cn):=fun q hq=>by
  obtain⟨v,hm,_,hn,bO,_⟩:=Ja3 aN hq;exact⟨v,hm,hn,bO⟩
 have jN:=Jvz hc
 have nn:p.eqs.length<=(Je p).length:=by
  have:=Jp3 (p.eqs.map (·.name)) ((Je p).map (·.name)) (Jsv ci) fun s hs=>by
   obtain⟨q,hq,rfl⟩:=List.mem_map.1 hs;obtain⟨v,hv,hn,_⟩:=xr q hq;exact List.mem_map.2 ⟨v,hv,hn⟩
  simpa using this
 refine⟨hO,aN,hc,jn,gG,Jgp gG,⟨jN.1,jN.2.1,jN.2.2,Ua⟩,fun v hv=>?_,fun q hq=>Jv0 (kD.2 q hq),xr⟩;simp only [Je,List.mem_append] at hv
 rcases hv with (hv|hv)|hv
 ·exact Jeb (kD.1.1.1.2 v hv)
 ·exact Jeb (kD.1.1.2 v hv)
 ·exact Jeb (kD.1.2 v hv)
theorem Jay.clock {p:Pr} (h:Jay p) {q:Qe} (hq:q∈p.eqs):(J9 (Je p) q.name).2.size<=16/\((J9 (Je p) q.name).1=0\/(J9 (Je p) q.name).1=1\/(J9 (Je p) q.name).1=2):=by
 obtain⟨v,hv,_,bO⟩:=h.vof q hq;rw [bO];exact⟨(h.vars v hv).cn,(h.vars v hv).ck⟩
theorem Z4 {l:List Qe} {q:Qe} (h:q∈J0 l):q∈l/\q.delay≠0:=by
 unfold J0 at h;rw [List.mem_filter] at h;exact⟨h.1,by simpa using h.2⟩
theorem Ja4 (l:List Qe):(J0 l).length<=l.length:=List.length_filter_le _ _
theorem Joj (L:List Va):(X3 L).length=1+2 * L.length:=by
 unfold X3;rw [List.length_cons]
 induction L with
 | nil=>simp
 | cons v L ih=>rw [List.flatMap_cons,List.length_append,List.length_cons,List.length_cons,List.length_cons];simp only [List.length_nil];omega
theorem Jj0 (m l:List (Int×ByteArray)):(K3 m l).length<=l.length:=by
 unfold K3;rw [List.length_map];exact List.length_filter_le _ _
theorem Jxu {p:Pr} (h:Jay p) {c:Int×ByteArray} (hc:c∈X3 (Je p)):(c.1=0\/c.1=1\/c.1=2)/\c.2.size<=16:=by
 unfold X3 at hc
 rcases List.mem_cons.1 hc with rfl|hc
 ·exact⟨.inl rfl,by show 0<=16;omega⟩
 ·obtain⟨v,hv,h2⟩:=Jfn.1 hc
  rcases h2 with rfl|rfl
  ·exact⟨.inr (.inl rfl),(h.vars v hv).name⟩
  ·exact⟨.inr (.inr rfl),(h.vars v hv).name⟩
theorem Jay.cells {p:Pr} (h:Jay p) {c:Ce} (hc:c∈Jq p):(c.ck=0\/c.ck=1\/c.ck=2)/\c.cn.size<=16/\c.name.size<=16:=by
 unfold Jq at hc
 rcases List.mem_append.1 hc with hc|hc
 ·obtain⟨q,hq,rfl⟩:=List.mem_map.1 hc;have je:=(Z4 hq).1;have:=h.clock je;exact⟨this.2,this.1,(h.eqs q je).name⟩
 ·unfold K3 at hc;obtain⟨d,hd,rfl⟩:=List.mem_map.1 hc;have:=Jxu h (List.mem_filter.1 hd).1;exact⟨this.1,this.2,by show 0<=16;omega⟩
theorem Jay.flags {p:Pr} (h:Jay p):Jha (Jq p):=Jo1 h.dist fun q hq=>(h.eqs q hq).ne
theorem Jay.codes {p:Pr} (h:Jay p) (q:Qe) (hq:q∈p.eqs) (sl:ByteArray->Int) (fl:Int×ByteArray->Int) (c:Int×ByteArray):(q.e.gen sl fl c).length<=360:=by
 have:=Ex.gen_len sl fl q.e c;have:=(h.eqs q hq).size;exact Ua
section
variable (sl:ByteArray->Int) (fl:Int×ByteArray->Int) (L:List Va)
theorem Jis (v:Va):∀(l:List Va) (i:Nat),Yh sl i (l ++ [v])=Yh sl i l ++ [(6,((i+l.length:Nat):Int)),(3,sl v.name)]
 | [],i=>by simp [Yh]
 | u :: l,i=>by rw [List.cons_append,Yh,Yh,Jis v l (i+1),List.length_cons,List.append_assoc,show i+1+l.length=i+(l.length+1) from by omega]
theorem Jnd (q:Qe):∀(l:List Qe) (i:Nat),Zx sl i (l ++ [q])=Zx sl i l ++ [(4,((i+l.length:Nat):Int)),(3,sl q.name)]
 | [],i=>by simp [Zx]
 | u :: l,i=>by rw [List.cons_append,Zx,Zx,Jnd q l (i+1),List.length_cons,List.append_assoc,show i+1+l.length=i+(l.length+1) from by omega]
theorem Jmv (q:Qe):∀(l:List Qe) (i:Nat),Zu sl fl L i (l ++ [q])=Zu sl fl L i l ++ Qk sl (J9 L q.name) (q.e.gen sl fl (J9 L q.name) ++ [(5,((i+l.length:Nat):Int))])
 | [],i=>by simp [Zu]
 | u :: l,i=>by rw [List.cons_append,Zu,Zu,Jmv q l (i+1),List.length_cons,List.append_assoc,show i+1+l.length=i+(l.length+1) from by omega]
theorem Jnj (c:Ce):∀(l:List Ce) (i:Nat),Ze sl i (l ++ [c])=Ze sl i l ++ Qk sl (c.ck,c.cn) [(1,1),(5,((i+l.length:Nat):Int))]
 | [],i=>by simp [Ze]
 | u :: l,i=>by rw [List.cons_append,Ze,Ze,Jnj c l (i+1),List.length_cons,List.append_assoc,show i+1+l.length=i+(l.length+1) from by omega]
theorem Jhy (v:Va):∀(l:List Va) (i:Nat),Xl sl i (l ++ [v])=Xl sl i l ++ [(2,sl v.name),(7,((i+l.length:Nat):Int))]
 | [],i=>by simp [Xl]
 | u :: l,i=>by rw [List.cons_append,Xl,Xl,Jhy v l (i+1),List.length_cons,List.append_assoc,show i+1+l.length=i+(l.length+1) from by omega]
theorem Jif (eqs:List Qe) (j:Int):∀l:List Int,Xd sl fl L eqs (l ++ [j])=Xd sl fl L eqs l ++ Xd sl fl L eqs [j]
 | []=>by simp [Xd]
 | u :: l=>by
   rw [List.cons_append,Xd,Jif eqs j l];conv=>rhs;rw [Xd];rw [List.append_assoc]
theorem Jpr (eqs:List Qe) (k:Nat) (q:Qe) (h:eqs[k]?=some q):Xd sl fl L eqs [(k:Int)]=Qk sl (J9 L q.name) (q.e.gen sl fl (J9 L q.name) ++ [(3,sl q.name)]):=by
 rw [Xd,Xd,show((k:Int)).toNat=k from by omega,h,List.append_nil]
theorem Jb0 (c:Int×ByteArray) (x:List (Int×Int)):(Qk sl c x).length<=x.length+3:=by
 unfold Qk
 repeat' split
 all_goals simp
theorem Je4:∀(l:List Va) (i:Nat),(Yh sl i l).length=2 * l.length
 | [],i=>rfl
 | u :: l,i=>by rw [Yh,List.length_append,Je4 l (i+1),List.length_cons];simp;omega
theorem Jkf:∀(l:List Qe) (i:Nat),(Zx sl i l).length=2 * l.length
 | [],i=>rfl
 | u :: l,i=>by rw [Zx,List.length_append,Jkf l (i+1),List.length_cons];simp;omega
theorem Jhh:∀(l:List Va) (i:Nat),(Xl sl i l).length=2 * l.length
 | [],i=>rfl
 | u :: l,i=>by rw [Xl,List.length_append,Jhh l (i+1),List.length_cons];simp;omega
theorem Jko:∀(l:List Qe) (i:Nat),(∀q∈l,∀c,(q.e.gen sl fl c).length<=360)->(Zu sl fl L i l).length<=364 * l.length
 | [],i,_=>by simp [Zu]
 | u :: l,i,h=>by
  have h1:=Jko l (i+1) fun q hq=>h q (by simp [hq]);have h2:=Jb0 sl (J9 L u.name) (u.e.gen sl fl (J9 L u.name) ++ [(5,(i:Int))]);have h3:=h u Ul (J9 L u.name);rw [Zu,List.length_append,List.length_cons];simp only [List.length_append,List.length_cons,List.length_nil] at h2;exact Ua
theorem Jkc:∀(l:List Ce) (i:Nat),(Ze sl i l).length<=5 * l.length
 | [],i=>by simp [Ze]
 | u :: l,i=>by
  have h1:=Jkc l (i+1);have h2:=Jb0 sl (u.ck,u.cn) [(1,1),(5,(i:Int))];rw [Ze,List.length_append,List.length_cons];simp only [List.length_cons,List.length_nil] at h2;exact Ua
theorem Jhf (eqs:List Qe) (h:∀q∈eqs,∀c,(q.e.gen sl fl c).length<=360):∀l:List Int,(Xd sl fl L eqs l).length<=364 * l.length
 | []=>by simp [Xd]
 | j :: l=>by
  have h1:=Jhf eqs h l;rw [Xd,List.length_append,List.length_cons]
  cases hq:eqs[j.toNat]? with
  | none=>simp;omega
  | some q=>
   have h2:=Jb0 sl (J9 L q.name) (q.e.gen sl fl (J9 L q.name) ++ [(3,sl q.name)]);have h3:=h q (List.mem_of_getElem? hq) (J9 L q.name);simp only [List.length_append,List.length_cons,List.length_nil] at h2;simp only;omega
end
theorem Jo4 (l:List Qe) (q:Qe):J0 (l ++ [q])=J0 l ++ (if (q.delay != 0)=true then [q] else []):=by
 unfold J0;rw [List.filter_append]
 congr 1
 rw [List.filter_cons]
 split <;> simp_all
end Go.Proofs.YtknfcamdfdfoeaaGreatDoor
