/- Lemmas. -/
import Derived.Test.YtknfcamdfdfoeaaGreatDoorMac
import Derived.Test.YtknfcamdfdfoeaaGreatDoorZ22
import Derived.Test.YtknfcamdfdfoeaaGreatDoorZ09
import Derived.Test.YtknfcamdfdfoeaaGreatDoorZ23
import Derived.Test.YtknfcamdfdfoeaaGreatDoorZ32
import Derived.Test.YtknfcamdfdfoeaaGreatDoorZ08
import Derived.Test.YtknfcamdfdfoeaaGreatDoorZ33
import Derived.Test.YtknfcamdfdfoeaaGreatDoorZ02
import Derived.Deep.CutRange
import Derived.Test.YtknfcamdfdfoeaaGreatDoorZ19
import Derived.Test.YtknfcamdfdfoeaaGreatDoorZ01
set_option linter.unusedVariables false
set_option linter.unusedSimpArgs false
set_option maxRecDepth 100000
set_option maxHeartbeats 64000000
namespace Go.Proofs.YtknfcamdfdfoeaaGreatDoor
open Go.RowKit
section
variable (sl:ByteArray->Int) (fl:Int×ByteArray->Int)
def Xx:Nat->List Ce->List (Int×Int)
 | _,[]=>[]
 | k,c :: r=>(if c.name.toList.isEmpty=true then [] else [(4,(k:Int)),(3,sl c.name)]) ++ Xx (k+1) r
theorem Jjb:∀(l:List Ce) (k:Nat),(∀c∈l,c.name.toList.isEmpty=true)->Xx sl k l = []
 | [],_,_=>rfl
 | c :: r,k,h=>by rw [Xx,if_pos (h c Ul),Jjb r (k+1) fun x hx=>h x Fz];rfl
theorem Jng (L:List Va):∀(l:List Qe) (f:List Ce) (k:Nat),(∀q∈l,q.name.toList.isEmpty=false)->(∀c∈f,c.name.toList.isEmpty=true)->Xx sl k (l.map (Xm L) ++ f)=Zx sl k l
 | [],f,k,_,h=>Jjb sl f k h
 | q :: r,f,k,hn,h=>by
  rw [List.map_cons,List.cons_append,Xx,Zx,Jng L r f (k+1) (fun x hx=>hn x Fz) h];rw [show(Xm L q).name=q.name from rfl,if_neg (by rw [hn q Ul];decide)]
def Zm (c:Ce) (x:List (Int×Int)) (eqs:List Qe):List (Int×Int):=
 eqs.foldl (fun x q=>if c.name.toList.isEmpty=false/\(q.name.toList == c.name.toList)=true then q.e.gen sl fl (c.ck,c.cn) else x) x
def Xw (eqs:List Qe):Nat->List Ce->List (Int×Int)
 | _,[]=>[]
 | k,c :: r=>Qk sl (c.ck,c.cn) (Zm sl fl c [(1,1)] eqs ++ [(5,(k:Int))]) ++ Xw eqs (k+1) r
theorem Jgz (c:Ce):∀(eqs:List Qe) (x:List (Int×Int)),(c.name.toList.isEmpty=true\/∀q∈eqs,q.name≠c.name)->Zm sl fl c x eqs=x
 | [],x,_=>rfl
 | q :: r,x,h=>by
  unfold Zm;rw [List.foldl_cons,if_neg]
  ·exact Jgz c r x (h.imp id fun h y hy=>h y F0)
  ·rintro⟨h1,h2⟩
   rcases h with h|h
   ·rw [h] at h1;cases h1
   ·exact h q Ul (Jej Lg)
theorem Jno (L:List Va) (q:Qe) (hn:q.name.toList.isEmpty=false):∀(eqs:List Qe) (x:List (Int×Int)),eqs.Pairwise (fun a b=>a.name≠b.name)->q∈eqs->Zm sl fl (Xm L q) x eqs=q.e.gen sl fl (J9 L q.name)
 | [],x,_,h=>by cases h
 | a :: r,x,hp,h=>by
  rw [List.pairwise_cons] at hp;unfold Zm;rw [List.foldl_cons]
  rcases List.mem_cons.1 h with rfl|h
  ·rw [if_pos ⟨hn,by show(q.name.toList == q.name.toList)=true;simp⟩];exact Jgz sl fl (Xm L q) r _ (.inr fun y hy=>fun e=>hp.1 y hy e.symm)
  ·rw [if_neg]
   ·exact Jno L q hn r x hp.2 h
   ·rintro⟨_,h2⟩;exact hp.1 q h (Jej (show a.name.toList=q.name.toList by simpa [Xm] using h2))
theorem Jjx (eqs:List Qe):∀(l:List Ce) (k:Nat),(∀c∈l,c.name.toList.isEmpty=true)->Xw sl fl eqs k l=Ze sl k l
 | [],_,_=>rfl
 | c :: r,k,h=>by
  rw [Xw,Ze,Jjx eqs r (k+1) (fun x hx=>h x Fz),Jgz sl fl c eqs _ (.inl (h c Ul))];exact Gd
theorem Jm8 (L:List Va) (eqs:List Qe) (hp:eqs.Pairwise fun a b=>a.name≠b.name):∀(l:List Qe) (f:List Ce) (k:Nat),(∀q∈l,q∈eqs/\q.name.toList.isEmpty=false)->(∀c∈f,c.name.toList.isEmpty=true)->
  Xw sl fl eqs k (l.map (Xm L) ++ f)=Zu sl fl L k l ++ Ze sl (k+l.length) f
 | [],f,k,_,h=>by
  rw [List.map_nil,List.nil_append,Jjx sl fl eqs f k h,Zu,List.nil_append];exact Gd
 | q :: r,f,k,hn,h=>by
  obtain⟨h1,h2⟩:=hn q Ul;rw [List.map_cons,List.cons_append,Xw,Zu,Jm8 L eqs hp r f (k+1) (fun x hx=>hn x Fz) h,Jno sl fl L q h2 eqs _ hp h1,List.length_cons,show k+1+r.length=k+(r.length+1) by omega,List.append_assoc];exact Gd
end
theorem Jjn (m l:List (Int×ByteArray)):∀c∈K3 m l,c.name.toList.isEmpty=true:=fun c hc=>by
 unfold K3 at hc;obtain⟨d,_,rfl⟩:=List.mem_map.1 hc;show(⟨#[]⟩:ByteArray).toList.isEmpty=true
 first|decide|simp
def Jr9 (p:Pr):List (Int×Int):=
 Yh (Xu (Je p)) 0 p.ins ++ Xx (Xu (Je p)) 0 (Jq p) ++ Xd (Xu (Je p)) (Kg (Jq p)) (Je p) p.eqs (J1 p).1 ++ Xw (Xu (Je p)) (Kg (Jq p)) p.eqs 0 (Jq p) ++ Xl (Xu (Je p)) 0 p.outs
theorem Jwo {p:Pr} (h:Jay p):Jr9 p=Xs p:=by
 have hp:=(Jbe h.chk).1;have hd:∀q∈J0 p.eqs,q∈p.eqs/\q.name.toList.isEmpty=false:=fun q hq=>⟨(Z4 hq).1,(h.eqs q (Z4 hq).1).ne⟩;have hf:=Jjn (Jad (Je p) p.eqs) (X3 (Je p));have hc:Jq p=(J0 p.eqs).map (Xm (Je p)) ++ K3 (Jad (Je p) p.eqs) (X3 (Je p)):=rfl;have h1:=Jng (Xu (Je p)) (Je p) (J0 p.eqs) _ 0 (fun q hq=>(hd q hq).2) hf;have h2:=Jm8 (Xu (Je p)) (Kg (Jq p)) (Je p) p.eqs hp (J0 p.eqs) _ 0 hd hf;rw [<-hc] at h1 h2
 have h3:(Jq p).drop (J0 p.eqs).length=K3 (Jad (Je p) p.eqs) (X3 (Je p)):=by
  rw [hc,List.drop_left' Ul]
 unfold Jr9 Xs;rw [h1,h2,h3,Nat.zero_add,List.append_assoc,List.append_assoc,List.append_assoc,List.append_assoc];simp [List.append_assoc]
theorem Jp1 {L:List Va} {v:Va} (h:v∈L):Jp L v.name=Xu L v.name:=by
 obtain⟨k,hk⟩:=List.getElem?_of_mem h;exact(Jek hk).2.2
theorem Jay.find {p:Pr} (h:Jay p) {q:Qe} (hq:q∈p.eqs):∃(j:Nat) (v:Va),Jp (Je p) q.name=(j:Int)/\(Je p)[j]?=some v/\v∈Je p/\v.name=q.name/\(v.ck,v.cn)=J9 (Je p) q.name:=by
 obtain⟨v,hv,hf,hn,bO,_⟩:=Ja3 h.clk hq
 rcases Y5 (Je p) q.name with ⟨_,h2⟩|⟨k,u,h1,h2,h3⟩
 ·rw [hf] at h2;cases h2
 ·rw [hf] at h3;injection h3 with h3;subst h3;exact⟨k,v,h1,h2,hv,hn,bO.symm⟩
section
variable {sl sl':ByteArray->Int} {fl:Int×ByteArray->Int} {L:List Va}
namespace Ex
theorem Jnh {k:Int} {s:ByteArray} {c:Int×ByteArray} : ∀(r:List Ex) (i:Nat),(∀x∈r,∀c,x.gen sl fl c=x.gen sl' fl c)->genL sl fl k s c i r=genL sl' fl k s c i r
 | [],i,_=>by rw [genL,genL]
 | x :: r,i,h=>by rw [genL,genL,h x Ul,Jnh r (i+1) fun y hy=>h y F0]
theorem Jwx {e:Ex} (hf:e.formed=true) (ht:(e.typ L).2=0) (hk:e.kind=3\/e.kind=10):∃v∈L,v.name=e.name:=by
 rw [typ_eq] at ht
 by_cases hr:(typL L e.sub).2=0
 ·rw [if_pos hr] at ht
  have aS:e.name.toList.isEmpty=false:=by
   rcases Jh0 hf with ⟨_,h⟩|⟨h,_⟩
   ·exact Jbx h
   ·exact Ua
  have lC:(K7 L e.name).2=true:=by
   unfold Y2 at ht
   cases jo:(K7 L e.name).2
   ·rw [if_pos ⟨Se,jo⟩] at ht;exact absurd ht Ux
   ·exact Gd
  unfold K7 at lC
  cases hv:Qi L e.name with
  | none=>rw [hv] at lC;simp at lC
  | some i=>
   obtain⟨k,v,_,dz,hn⟩:=Zi hv;exact⟨v,List.mem_of_getElem? dz,hn⟩
 ·rw [if_neg hr] at ht;exact absurd ht hr
theorem gen_same (hs:∀v∈L,sl v.name=sl' v.name) (e:Ex):e.formed=true->(e.typ L).2=0->∀c,e.gen sl fl c=e.gen sl' fl c:=by
 induction e using ind with
 | h e ih=>
  intro hf ht c
  have aT:(typL L e.sub).2=0:=by
   have xt:=ht;rw [typ_eq] at xt
   by_cases hr:(typL L e.sub).2=0
   ·exact hr
   ·rw [if_neg hr] at xt;exact absurd xt hr
  have hg:genL sl fl e.kind e.name c 0 e.sub=genL sl' fl e.kind e.name c 0 e.sub:=Jnh e.sub 0 fun x hx=>ih x hx (Q9 hf x hx) (Jpf e.sub aT x hx);rw [gen_eq,gen_eq,hg]
  have hn:e.kind=3\/e.kind=10->sl e.name=sl' e.name:=fun hk=>by
   obtain⟨v,hv,he⟩:=Jwx hf ht hk;rw [<-he];exact hs v hv
  unfold Jae
  by_cases h3:e.kind=3
  ·rw [if_pos h3,if_pos h3,hn (.inl h3)]
  by_cases bM:e.kind=10
  ·rw [if_neg Ua,if_neg Ua,if_neg Ua,if_neg Ua,if_neg Ua,if_neg Ua,if_pos bM,if_neg Ua,if_neg Ua,if_neg Ua,if_neg Ua,if_neg Ua,if_neg Ua,if_pos bM,hn (.inr bM)]
  ·rw [if_neg h3,if_neg h3]
   repeat' split
   all_goals first|rfl|(exact absurd ‹e.kind=10› bM)
end Ex
theorem Jk1 {c:Int×ByteArray} {x x':List (Int×Int)} (hx:x=x') (h:c.1=1\/c.1=2->sl c.2=sl' c.2):Qk sl c x=Qk sl' c x':=by
 subst hx;unfold Qk
 by_cases h1:c.1=1
 ·rw [if_pos h1,if_pos h1,h (.inl h1)]
 ·rw [if_neg h1,if_neg h1]
  by_cases h2:c.1=2
  ·rw [if_pos h2,if_pos h2,h (.inr h2)]
  ·rw [if_neg h2,if_neg h2]
theorem Jna:∀(l:List Va) (i:Nat),(∀v∈l,sl v.name=sl' v.name)->Yh sl i l=Yh sl' i l
 | [],_,_=>rfl
 | v :: r,i,h=>by rw [Yh,Yh,h v Ul,Jna r (i+1) fun x hx=>h x Fz]
theorem Jmu:∀(l:List Va) (i:Nat),(∀v∈l,sl v.name=sl' v.name)->Xl sl i l=Xl sl' i l
 | [],_,_=>rfl
 | v :: r,i,h=>by rw [Xl,Xl,h v Ul,Jmu r (i+1) fun x hx=>h x Fz]
theorem Jlg:∀(l:List Ce) (i:Nat),(∀c∈l,c.name.toList.isEmpty=false->sl c.name=sl' c.name)->Xx sl i l=Xx sl' i l
 | [],_,_=>rfl
 | c :: r,i,h=>by
  rw [Xx,Xx,Jlg r (i+1) fun x hx=>h x Fz]
  cases hn:c.name.toList.isEmpty
  ·rw [h c Ul hn]
  ·rw [if_pos rfl,if_pos rfl]
theorem Jnl {eqs:List Qe} (h:∀q∈eqs,sl q.name=sl' q.name/\(∀c,q.e.gen sl fl c=q.e.gen sl' fl c)/\((J9 L q.name).1=1\/(J9 L q.name).1=2->sl (J9 L q.name).2=sl' (J9 L q.name).2)):∀l:List Int,Xd sl fl L eqs l=Xd sl' fl L eqs l
 | []=>rfl
 | j :: r=>by
  rw [Xd,Xd,Jnl h r]
  cases hx:eqs[j.toNat]? with
  | none=>rfl
  | some q=>
   obtain⟨h1,h2,h3⟩:=h q (List.mem_of_getElem? hx);dsimp only;rw [Jk1 (sl:=sl) (sl':=sl') (x:=q.e.gen sl fl (J9 L q.name) ++ [(3,sl q.name)]) (x':=q.e.gen sl' fl (J9 L q.name) ++ [(3,sl' q.name)]) (by rw [h1,h2]) h3]
theorem Jsr {eqs:List Qe} {c:Ce} (h:∀q∈eqs,∀c,q.e.gen sl fl c=q.e.gen sl' fl c) (x:List (Int×Int)):Zm sl fl c x eqs=Zm sl' fl c x eqs:=by
 induction eqs generalizing x with
 | nil=>rfl
 | cons q r ih=>
  unfold Zm at ih ⊢;rw [List.foldl_cons,List.foldl_cons,h q Ul];exact ih (fun y hy=>h y F0) _
theorem Jlz {eqs:List Qe} (h:∀q∈eqs,∀c,q.e.gen sl fl c=q.e.gen sl' fl c):∀(l:List Ce) (i:Nat),(∀c∈l,c.ck=1\/c.ck=2->sl c.cn=sl' c.cn)->Xw sl fl eqs i l=Xw sl' fl eqs i l
 | [],_,_=>rfl
 | c :: r,i,hc=>by
  rw [Xw,Xw,Jlz h r (i+1) fun x hx=>hc x Fz];rw [Jk1 (sl:=sl) (sl':=sl') (c:=(c.ck,c.cn)) (by rw [Jsr h]) (hc c Ul)]
end
def Jxi (sl:ByteArray->Int) (p:Pr):List (Int×Int):=
 Yh sl 0 p.ins ++ Xx sl 0 (Jq p) ++ Xd sl (Kg (Jq p)) (Je p) p.eqs (J1 p).1 ++ Xw sl (Kg (Jq p)) p.eqs 0 (Jq p) ++ Xl sl 0 p.outs
theorem Jay.clockIn {p:Pr} (h:Jay p) {q:Qe} (hq:q∈p.eqs):(J9 (Je p) q.name).1=1\/(J9 (Je p) q.name).1=2->∃u∈Je p,u.name=(J9 (Je p) q.name).2:=by
 obtain⟨v,_,_,_,bO,nk⟩:=Ja3 h.clk hq;rw [bO];dsimp only;intro h1
 rcases nk with ⟨h2,_⟩|⟨_,_,h3⟩
 ·exact Ua
 ·exact h3
theorem Jw6 {p:Pr} (h:Jay p):Jxi (Jp (Je p)) p=Xs p:=by
 rw [<-Jwo h];have hs:∀v∈Je p,Jp (Je p) v.name=Xu (Je p) v.name:=fun v hv=>Jp1 hv
 have hn:∀q∈p.eqs,Jp (Je p) q.name=Xu (Je p) q.name:=fun q hq=>by
  obtain⟨_,v,_,_,hv,he,_⟩:=h.find hq;rw [<-he];exact hs v hv
 have hg:∀q∈p.eqs,∀c,q.e.gen (Jp (Je p)) (Kg (Jq p)) c=q.e.gen (Xu (Je p)) (Kg (Jq p)) c:=fun q hq=>Ex.gen_same hs q.e (h.eqs q hq).formed ((Xp h.chk).2.2 q hq)
 have hk:∀q∈p.eqs,(J9 (Je p) q.name).1=1\/(J9 (Je p) q.name).1=2->Jp (Je p) (J9 (Je p) q.name).2=Xu (Je p) (J9 (Je p) q.name).2:=fun q hq h1=>by
  obtain⟨u,hu,he⟩:=h.clockIn hq h1;rw [<-he];exact hs u hu
 have ev:∀c∈Jq p,(c.name.toList.isEmpty=false->Jp (Je p) c.name=Xu (Je p) c.name)/\(c.ck=1\/c.ck=2->Jp (Je p) c.cn=Xu (Je p) c.cn):=fun c hc=>by
  unfold Jq at hc
  rcases List.mem_append.1 hc with hc|hc
  ·obtain⟨q,hq,rfl⟩:=List.mem_map.1 hc;have je:=(Z4 hq).1;exact⟨fun _=>hn q je,hk q je⟩
  ·have aL:=Jjn _ _ c hc;refine⟨fun h0=>absurd (aL.symm.trans h0) Ux,fun h1=>?_⟩;unfold K3 at hc;obtain⟨d,hd,rfl⟩:=List.mem_map.1 hc;have gN:d∈X3 (Je p):=(List.mem_filter.1 hd).1;unfold X3 at gN
   rcases List.mem_cons.1 gN with rfl|gN
   ·unfold Jb6 at h1;dsimp only at h1;omega
   ·obtain⟨v,hv,h2⟩:=Jfn.1 gN
    rcases h2 with rfl|rfl
    ·exact hs v hv
    ·exact hs v hv
 have dV:∀v∈p.ins,v∈Je p:=fun v hv=>by unfold Je;simp [hv]
 have ww:∀v∈p.outs,v∈Je p:=fun v hv=>by unfold Je;simp [hv]
 unfold Jxi Jr9;rw [Jna p.ins 0 fun v hv=>hs v (dV v hv),Jlg (Jq p) 0 fun c hc=>(ev c hc).1,Jnl (L:=Je p) (eqs:=p.eqs) fun q hq=>⟨hn q hq,hg q hq,hk q hq⟩,Jlz hg (Jq p) 0 fun c hc=>(ev c hc).2,Jmu p.outs 0 fun v hv=>hs v (ww v hv)]
end Go.Proofs.YtknfcamdfdfoeaaGreatDoor
namespace Go.Proofs.YtknfcamdfdfoeaaGreatDoor
open Go.RowKit Go.Sort
theorem Jyt:(Tryz.prog.info? 87).map (fun i=>(i.zero,i.size,i.bytes))=some (some (.agg #[.string ⟨#[]⟩,.int .i64 0,.string ⟨#[]⟩,.int .i32 0]),4,48):=Ug
theorem Juc (p:Pr) (a:PrA) (w:World) (f:Int×Int×Int) (aS:f.2.2≠0) (dK:∀W,Below w.heap.size w W->Calls Tryz.prog 48 #[prV p a] W fun r w'=>r = .returned (fV f)/\Below W.heap.size W w') :
  Calls Tryz.prog 25 #[prV p a] w fun r w'=>r = .returned (.tuple #[.slice none 0 0,fV f])/\Below w.heap.size w w':=by
 obtain⟨A1,c1,A2,c2,A3,c3,A4,c4⟩:=a;obtain⟨k1,k2,k3⟩:=f;unfold prV fV at *;dsimp only at *;have t1:(k3 != 0)=true:=Se;clear aS
 go_enter Tryz.func25,Tryz.ntmps25
 go_wp2_with (first|(go_at_call 48;refine(dK _ Jb).mono ?_;rintro r wa ⟨rfl,aA⟩;have aW:=Jg aA;have bS:=Jf aA;have cN:w.heap.size+2<=wa.heap.size:=Ut;have dG:w.heap.size<wa.heap.size:=Ua;have aX:w.heap.size+1<wa.heap.size:=Ua))
 go_region
 all_goals
  go_wp2_with fail
  refine bodyPost_ret (v:= .tuple #[.slice none 0 0,.agg #[.int .i64 k1,.int .i64 k2,.int .i64 k3]]) Gr rfl ⟨rfl,?_⟩
  (repeat refine Jh ?_)
  exact Km
theorem Jjq {h:Qe->Bool} : ∀(l:List Qe) (k:Nat),Zg h k l≠(0,0,0)->(Zg h k l).2.2≠0
 | [],k,hn=>absurd rfl hn
 | q :: r,k,hn=>by
  rw [Zg] at hn ⊢
  by_cases hq:h q=true
  ·rw [if_pos hq];show(23:Int)≠0;decide
  ·rw [if_neg hq] at hn ⊢;exact Jjq r (k+1) hn
theorem Jkq {p:Pr} (h:Ks p≠(0,0,0)):(Ks p).2.2≠0:=by
 unfold Ks at h ⊢
 by_cases hO:(J1 p).2=(0,0,0)
 ·rw [if_pos hO] at h ⊢;exact Jjq _ _ h
 ·rw [if_neg hO];exact Jpj hO
def Je7 (p:Pr) (w:World) (r:Ending) (w':World):Prop:=(∃v,r = .returned (.tuple #[v,fV (Kf p).2])/\w'.ownsRow w.heap.size 87 4 v (Kf p).1.length (X7 (Kf p).1))/\Below w.heap.size w w'
theorem Jtc (p:Pr) (a:PrA) (w:World) (hp:Kr w p a) (aw:Q4 p) (n1:p.ins.length<=1000000) (n2:p.outs.length<=1000000) (n3:p.locals.length<=1000000) (n4:p.eqs.length<=1000000) (aN:Ks p=(0,0,0)) :
  Calls Tryz.prog 25 #[prV p a] w (Je7 p w):=by
 have bO:=Jff aN;have dK:=fun W h=>Jjw p a W (hp.later h) aw n1 n2 n3 n4;have aJ:=fun W h=>Z3 p a W (hp.later h) n1 n2 n3;rw [aN] at dK;have hcE:Kf p=if 16<(Jq p).length then([],(4,0,3)) else(Jq p,(0,0,0)):=by unfold Kf;rw [if_pos aN]
 have qO:=Lib.hid hp.eqs;have kc:=Lib.hid aw.eqs;have rk:=Lib.hid hcE;have cG:=hp.eqs.len;unfold maxLen at cG;obtain⟨fT,fU⟩:=cG;obtain⟨A1,c1,A2,c2,A3,c3,A4,c4⟩:=a;unfold prV fV at *;dsimp only at *;clear aN hp aw hcE
 go_enter Tryz.func25,Tryz.ntmps25
 go_wp2_with (first
  | (go_at_call 48;refine(dK _ Jb).mono ?_;rintro r wa ⟨rfl,aA⟩;have aW:=Jg aA;have bS:=Jf aA;have cN:w.heap.size+2<=wa.heap.size:=Ut;have dG:w.heap.size<wa.heap.size:=Ua;have aX:w.heap.size+1<wa.heap.size:=Ua)
  | (go_at_call 26;go_loud (refine(aJ _ Jb).mono ?_;rintro r wv ⟨⟨Av,cv,rfl,ay⟩,dB⟩;have ky:=Jg dB;have lc:=Jf dB;have rP:wa.heap.size+1<=wv.heap.size:=D1;have hyv:w.heap.size<wv.heap.size:=Ua;have mt:w.heap.size+1<wv.heap.size:=Ua;have cR:=Ju.of_own ay;clear ay)))
 refine Jo fun W0 ag=>?_;have ax:Below w.heap.size w W0:=Uo;have bE:Ju W0 (Je p) Av cv:=Do;have bD:w.heap.size+1<W0.heap.size:=by rw [ag];exact mt
 have rx:w.heap.size<W0.heap.size:=Ua;have p4:W0.cell? ⟨w.heap.size,4,none⟩=some (.slice A4 p.eqs.length c4):=Uc;have g0:W0.cell? ⟨w.heap.size+1,0,none⟩=some (.int .i64 0):=Uc;have g1:W0.cell? ⟨w.heap.size+1,1,none⟩=some (.int .i64 0):=Uc;have g2:W0.cell? ⟨w.heap.size+1,2,none⟩=some (.int .i64 0):=Uc;have f0:W0.frozen? ⟨w.heap.size+1,0,none⟩=false:=Uc;have f1:W0.frozen? ⟨w.heap.size+1,1,none⟩=false:=Uc;have f2:W0.frozen? ⟨w.heap.size+1,2,none⟩=false:=Uc;have cY:=bE.len;unfold maxLen at cY;obtain⟨fH,fI⟩:=cY;have hL3:(Je p).length<=24:=bO.small.2.2.1;have hQ3:p.eqs.length<=24:=bO.small.2.2.2;have cC:=Lib.hid bO;generalize qR:Je p=L at *;have wJ:=Lib.hid qR;clear ag aW bS cN dG aX ky lc rP hyv mt cR dK aJ aA dB bO qR;have vw:=Jyt
 go_loopw [6,7,8] (fun V M i wr=>∃(k:Nat),k<=p.eqs.length/\i = .int .i64 k/\Hid (wr.ownsRow W0.heap.size 87 4 V ((J0 (p.eqs.take k)).map (Xm L)).length (X7 ((J0 (p.eqs.take k)).map (Xm L))))/\Hid (wr.ownsRow W0.heap.size 55 2 M (Jad L (p.eqs.take k)).length (Zl (Jad L (p.eqs.take k))))/\(Jad L (p.eqs.take k)).length<=120 * k/\Hid (∀b,M.ownBlock=some b->V.ownBlock≠some b)/\Below W0.heap.size W0 wr) (fun _ _ i _=>p.eqs.length-(intOf i).toNat)
 case atStart=>exact⟨0,Nat.zero_le _,rfl,Lib.hid (World.ownsRow_nil _ _ _ _),Lib.hid (World.ownsRow_nil _ _ _ _),Nat.zero_le _,Lib.hid (fun b hb=>by cases hb),Below.refl _ _⟩
 case round=>
  obtain⟨k,hk,rfl,ae,fL,jH,qf,ab⟩:=hrel;have dh:Below w.heap.size w wr:=Jn ax ab Ua;have bu:=ab.size;have lu:w.heap.size<wr.heap.size:=Ua;have ud:w.heap.size+1<wr.heap.size:=Ua;have hc:=Jg ab
  by_cases am:k<p.eqs.length
  ·have hx:p.eqs[k]?=some p.eqs[k]:=List.getElem?_eq_getElem am;have aj:p.eqs[k]∈p.eqs:=List.getElem_mem am;have aP:p.eqs.take (k+1)=p.eqs.take k ++ [p.eqs[k]]:=U6;generalize p.eqs[k]=q at hx aj aP;have cM:=cC.out.eqs q aj;obtain⟨j,v,cL,oE,_,_,mW⟩:=cC.out.find aj;rw [wJ.out] at cL oE mW;have rL:=kc.out q aj;obtain⟨b,off,B1,k1,B2,k2,rfl,bG,⟨g0,g1,g2,g3,g4,g5,g6,g7,g8,g9,sf,se⟩⟩:=(qO.out.later ax).get hx;have d0:=Ja ab g0;have d1:=Ja ab g1;have d2:=Ja ab g2;have d3:=Ja ab g3;have d4:=Ja ab g4;have d5:=Ja ab g5;have d6:=Ja ab g6;have d7:=Ja ab g7;have d8:=Ja ab g8;have d9:=Ja ab g9;have dZ:b<wr.heap.size:=Ua;have mX:j<L.length:=(List.getElem?_eq_some_iff.1 oE).1;obtain⟨bv,ov,rfl,dB,⟨e0,e1,e2,e3⟩⟩:=(bE.later ab).get oE;have jS:=fun W hb=>Xa L (some ⟨bv,ov,none⟩) cv q.name W ((bE.later ab).later hb);rw [cL] at jS;have iU:Jad L (p.eqs.take (k+1))=q.e.arrs (Jad L (p.eqs.take k)) (v.ck,v.cn):=by rw [aP,mW];unfold Jad;rw [List.foldl_append];rfl
   have harrl:=Ex.arrs_len q.e (Jad L (p.eqs.take k)) (v.ck,v.cn)
   have kY:(J0 (p.eqs.take (k+1))).map (Xm L)=(J0 (p.eqs.take k)).map (Xm L) ++ (if (q.delay != 0)=true then [Xm L q] else []):=by
    exact Ucn
   have hcql:((J0 (p.eqs.take k)).map (Xm L)).length<=k:=by
    rw [List.length_map];have:=Ja4 (p.eqs.take k);rw [List.length_take] at this;exact Ua
   have mp:Xm L q=⟨q.name,v.ck,v.cn,Jai q.first⟩:=by unfold Xm;rw [<-mW]
   have ga:=Jqj W0 q.e B2 k2 (v.ck,v.cn) se;have cU:=fun W (hb:Below W0.heap.size W0 W)=>Jop q.first B1 k1 W (sf.later hb) rL.2.2.1 cM.first;have cE:=cM.size;have ek:=cM.delay;have vx:=cM.pre;unfold exV kvC at ga;unfold exV at cU;dsimp only at ga;have gD:=Lib.hid iU;have gE:=Lib.hid kY;have rM:=Lib.hid mp;have uT:=Lib.hid cU;have HPRE:=Lib.hid vx;have HDL:=Lib.hid ek;clear iU kY mp cU vx ek hx aj aP oE mW rL g0 g1 g2 g3 g4 g5 g6 g7 g8 g9 sf se cM cL e0 e1 bG;generalize Jad L (p.eqs.take k)=ml at *;generalize (J0 (p.eqs.take k)).map (Xm L)=csl at *;have eU:=fL.out;have tj:(0:Int)<=(j:Int):=Ua;have hmb:∀b,u7.ownBlock=some b->b<wr.heap.size:=fun b hb=>(eU.lt b hb).2;have HMB:=Lib.hid hmb;clear hmb
   go_upto_region 13 with (first
    | (go_at_call 49;go_loud (refine(jS _ Jb).mono ?_;rintro r w1 ⟨rfl,ac⟩;have ak:=Jg ac;have af:wr.heap.size+1<=w1.heap.size:=V9;have dG:w.heap.size<w1.heap.size:=Ua;have kh:wr.heap.size<w1.heap.size:=Ua;have qZ:bv<w1.heap.size:=Ua))
    | (go_at_call 50;go_loud (refine(ga _ u7 ml Jb Udk Ua).mono ?_;rintro r w3 ⟨⟨v3,rfl,aE,iM⟩,bJ⟩)))
   refine Jo fun V hV=>?_;have bt:Below wr.heap.size wr w1:=(Jc (Below.refl _ _) _).trans (ac.mono Ul);have kp:∀k,wr.heap.size<=k->some k≠u7.ownBlock:=fun k hk he=>by have:=HMB.out k he.symm;omega
   have ld:w1.grownBy w3 u7.ownBlock:=Kv (K0 (Jc (Below.refl _ _) _)) bJ;have mQ:w1.heap.size<V.heap.size:=by rw [hV];have:=bJ.size;simp at this;omega
   have hgV:wr.grownBy V u7.ownBlock:=by rw [hV];exact Kv (K0 bt) ld
   have q0:V.cell? ⟨wr.heap.size,0,none⟩=some (.string q.name):=Udm;have q1:V.cell? ⟨wr.heap.size,1,none⟩=some (.int .i64 q.delay):=Udm;have q2:V.cell? ⟨wr.heap.size,2,none⟩=some (.int .i64 q.first.kind):=Udm;have q3:V.cell? ⟨wr.heap.size,3,none⟩=some (.int .i32 q.first.n):=Udm;have q4:V.cell? ⟨wr.heap.size,4,none⟩=some (.string q.first.name):=Udm;have q5:V.cell? ⟨wr.heap.size,5,none⟩=some (.slice B1 q.first.sub.length k1):=Udm;have x0:V.cell? ⟨w1.heap.size,0,none⟩=some (.int .i64 v.ck):=Udv;have x1:V.cell? ⟨w1.heap.size,1,none⟩=some (.string v.cn):=Udv;have sY:V.ownsRow W0.heap.size 55 2 v3 (q.e.arrs ml (v.ck,v.cn)).length (Zl (q.e.arrs ml (v.ck,v.cn))):=by rw [hV];exact aE
   have bK:Below W0.heap.size W0 V:=J2 ab hgV (fun b hb=>(eU.lt b hb).1) Ua;have hbVw:Below w.heap.size w V:=Jn ax bK Ua;have sZ:V.ownsRow W0.heap.size 87 4 u6 csl.length (X7 csl):=X5 ae.out hgV qf.out;have el:∀b,u6.ownBlock=some b->b<wr.heap.size:=fun b hb=>(ae.out.lt b hb).2
   have hD:∀b,v3.ownBlock=some b->u6.ownBlock≠some b:=by
    rcases iM with h|h
    ·intro b hb;rw [h] at hb;exact qf.out b hb
    ·intro b hb he;have h1:=h b hb;have h2:=el b he;simp at h1;omega
   have hzr2:wr.heap.size<V.heap.size:=Ua;have ta:=fun W (hb:Below V.heap.size V W)=>uT.out W (Jn bK hb Ua);have HLV:=Lib.hid ta;have HOC:=Lib.hid sZ;have HOM:=Lib.hid sY;have HDD:=Lib.hid hD;generalize w1.heap.size=X at *;generalize q.e.arrs ml (v.ck,v.cn)=ml2 at *;clear hV bJ ld hgV sY sZ hD ta ae fL eU qf aE iM ac bt ak hc jS ga d0 d1 d2 d3 d4 d5 d6 d7 d8 d9 e2 e3 kp
   rcases HDL.out with lA|js|gN
   ·have t1:(q.delay == 1)=false:=by rw [lA];rfl
    have t2:(q.delay == 2)=false:=by rw [lA];rfl
    have et:(J0 (p.eqs.take (k+1))).map (Xm L)=csl:=by rw [gE.out,lA];simp
    have qg:=Lib.hid et;clear lA et gE
    go_wp2_with fail
    go_roundw
    case rel=>exact⟨k+1,Ua,Up,Lib.hid (by rw [qg.out];exact HOC.out),Lib.hid (by rw [gD.out];exact HOM.out),by rw [gD.out];omega,HDD,bK⟩
    case measure=>simp [intOf];omega
   ·have t1:(q.delay == 1)=true:=by rw [js];rfl
    have t2:(q.delay == 2)=false:=by rw [js];rfl
    have et:(J0 (p.eqs.take (k+1))).map (Xm L)=csl ++ [⟨q.name,v.ck,v.cn,Jai q.first⟩]:=by rw [gE.out,js,<-rM.out];simp
    have qg:=Lib.hid et
    have hS:∀w',Below V.heap.size V w'->w'.cell? ⟨wr.heap.size,0,none⟩=some (.string q.name)/\w'.cell? ⟨wr.heap.size,1,none⟩=some (.int .i64 q.delay)/\w'.cell? ⟨wr.heap.size,2,none⟩=some (.int .i64 q.first.kind)/\w'.cell? ⟨wr.heap.size,3,none⟩=some (.int .i32 q.first.n)/\w'.cell? ⟨wr.heap.size,4,none⟩=some (.string q.first.name)/\w'.cell? ⟨wr.heap.size,5,none⟩=some (.slice B1 q.first.sub.length k1)/\w'.cell? ⟨X,0,none⟩=some (.int .i64 v.ck)/\w'.cell? ⟨X,1,none⟩=some (.string v.cn):=fun w' hb=>
     ⟨Ja hb q0,Ja hb q1,Ja hb q2,Ja hb q3,Ja hb q4,Ja hb q5,Ja hb x0,Ja hb x1⟩
    have HS:=Lib.hid hS;have ar:=hS V.drew (Jh (Below.refl _ _));clear js et gE hS
    go_wp2_with fail
    refine Kd (fun w'=>w'.cell? ⟨wr.heap.size,0,none⟩=some (.string q.name)/\w'.cell? ⟨wr.heap.size,1,none⟩=some (.int .i64 q.delay)/\w'.cell? ⟨wr.heap.size,2,none⟩=some (.int .i64 q.first.kind)/\w'.cell? ⟨wr.heap.size,3,none⟩=some (.int .i32 q.first.n)/\w'.cell? ⟨wr.heap.size,4,none⟩=some (.string q.first.name)/\w'.cell? ⟨wr.heap.size,5,none⟩=some (.slice B1 q.first.sub.length k1)/\w'.cell? ⟨X,0,none⟩=some (.int .i64 v.ck)/\w'.cell? ⟨X,1,none⟩=some (.string v.cn)) 10 1 Ug Gd ?_;simp only [List.size_toArray,List.length_cons,List.length_nil,Nat.zero_add,Nat.reduceAdd];refine Ji 0 ar ?_;refine Ji 1 ar ?_;refine Ji 2 ar ?_;refine Ji 3 ar ?_;refine Ji 4 ar ?_;refine Ji 5 ar ?_;refine Kb 6 ?_;refine Jj fun K hK=>?_;go_simp;refine(HLV.out V.drew (Jh (Below.refl _ _))).mono ?_;rintro r w4 ⟨rfl,ei⟩;dsimp only;have nU:Below V.heap.size V w4:=Jd (Jh (Below.refl _ _)) ei;refine hK _ _ ⟨HS.out _ nU,?_⟩;clear hK K
    try simp only [Act.put,sa1,sa2,sa3]
    have zQ:=HS.out _ nU;refine Ji 7 zQ ?_;refine Kb 8 ?_;refine Jj fun K hK=>?_;go_simp;refine hK _ _ ⟨HS.out _ (Jc nU _),?_⟩;clear hK K
    try simp only [Act.put,sa1,sa2,sa3]
    have qS:=nU.size;refine Kb 9 ?_;refine Jez (.tmp 50) (.tmp 58) 80 rfl W0.heap.size 87 _ 4 48 Tryz.underlying80 vw rfl Ua u6 csl.length (X7 csl) _ 1 1 [.string q.name,.int .i64 v.ck,.string v.cn,.int .i32 (Jai q.first)] rfl (Js (Jy HOC.out nU)) rfl (Qr rfl rfl) Uv Ua Ua (by have:=bK.size;simp;omega) ?_;intro v5 w5 bX eT jr;have eX:V.grownBy w5 u6.ownBlock:=Kv (K0 (Jc nU _)) eT
    have oy:w5.cell? ⟨wr.heap.size,0,none⟩=some (.string q.name)/\w5.cell? ⟨wr.heap.size,1,none⟩=some (.int .i64 q.delay)/\w5.cell? ⟨wr.heap.size,2,none⟩=some (.int .i64 q.first.kind)/\w5.cell? ⟨wr.heap.size,3,none⟩=some (.int .i32 q.first.n)/\w5.cell? ⟨wr.heap.size,4,none⟩=some (.string q.first.name)/\w5.cell? ⟨wr.heap.size,5,none⟩=some (.slice B1 q.first.sub.length k1)/\w5.cell? ⟨X,0,none⟩=some (.int .i64 v.ck)/\w5.cell? ⟨X,1,none⟩=some (.string v.cn):=by
     have hn:∀k,wr.heap.size<=k->some k≠u6.ownBlock:=fun k hk he=>by have:=el k he.symm;omega
     exact⟨Jr (eX.block wr.heap.size Ua (hn _ Ua)) q0,Jr (eX.block wr.heap.size Ua (hn _ Ua)) q1,Jr (eX.block wr.heap.size Ua (hn _ Ua)) q2,Jr (eX.block wr.heap.size Ua (hn _ Ua)) q3,Jr (eX.block wr.heap.size Ua (hn _ Ua)) q4,Jr (eX.block wr.heap.size Ua (hn _ Ua)) q5,Jr (eX.block X Ua (hn _ Ua)) x0,Jr (eX.block X Ua (hn _ Ua)) x1⟩
    refine⟨oy,Kh Ug ?_⟩
    try simp only [Act.put,sa1,sa2,sa3]
    refine Qx 10 ?_;refine Jj fun K hK=>?_;go_simp;refine hK _ _ ?_;clear hK K
    try simp only [Act.put,sa1,sa2,sa3]
    refine Ki Ug ?_;have pH:=Lib.hid bX;have HM5:=Lib.hid (X5 HOM.out eX (Jcu HDD.out))
    have HD5:=Lib.hid (Jmf (v2:=v5) HDD.out (fun b hb=>(HOM.out.lt b hb).2) (by
     rcases jr with h|h
     ·exact .inl h
     ·exact .inr fun b hb=>Fy))
    have da:Below W0.heap.size W0 w5:=J2 bK eX (fun b hb=>(HOC.out.lt b hb).1) bK.size;have z1:=oy.2.1;clear ar zQ oy bX eT eX jr HS
    go_wp2_with fail
    exact Ubd
   ·have t1:(q.delay == 1)=false:=by rw [gN];rfl
    have t2:(q.delay == 2)=true:=by rw [gN];rfl
    have et:(J0 (p.eqs.take (k+1))).map (Xm L)=csl ++ [⟨q.name,v.ck,v.cn,0⟩]:=by rw [gE.out,gN,rM.out,HPRE.out gN];simp
    have qg:=Lib.hid et;clear gN et gE
    go_wp2_with (at_builtin;go_loud (refine Qv rfl (.tmp 63) (.tmp 68) 80 rfl W0.heap.size 87 _ 4 48 Tryz.underlying80 vw rfl Ua u6 csl.length (X7 csl) _ 1 1 [.string q.name,.int .i64 v.ck,.string v.cn,.int .i32 0] rfl (Js HOC.out) rfl (Qr rfl rfl) Uv Ua Ua (by have:=bK.size;simp;omega) ?_;intro v5 w5 bX eT jr;have eX:V.grownBy w5 u6.ownBlock:=Kv (K0 (Jc (Below.refl _ _) _)) eT;have pH:=Lib.hid bX;have HM5:=Lib.hid (X5 HOM.out eX (Jcu HDD.out));have HD5:=Lib.hid (Jmf (v2:=v5) HDD.out (fun b hb=>(HOM.out.lt b hb).2) (jr.imp id fun h b hb=>Fy));have da:Below W0.heap.size W0 w5:=J2 bK eX (fun b hb=>(HOC.out.lt b hb).1) bK.size;clear bX eT eX jr))
    exact Ubd
  ·obtain rfl:k=p.eqs.length:=Ua;obtain⟨W1,rfl⟩:∃W1,W1=wr:=⟨wr,rfl⟩;have dr:=ae.out;have dk:=fL.out;rw [List.take_length] at dr dk jH;have ah:Jq p=(J0 p.eqs).map (Xm L) ++ K3 (Jad L p.eqs) (X3 L):=by unfold Jq;rw [wJ.out]
   have HCELL:=Lib.hid ah
   have rl:((J0 p.eqs).map (Xm L)).length<=24:=by
    rw [List.length_map];have:=Ja4 p.eqs;exact Ua
   generalize (J0 p.eqs).map (Xm L)=cs0 at *;generalize Jad L p.eqs=Lm at *;have tK:=Lib.hid dr;have iz:=Lib.hid dk;have hva1:=bE.later ab;replace p4:=Ja ab p4;clear ae fL dr dk ah hc
   go_wp2_with fail
   have tc:(W1.alloc (.cells #[.int .i64 0,.string ⟨#[]⟩] 55)).ownsRow W1.heap.size 55 2 (.slice (some ⟨W1.heap.size,0,none⟩) 1 1) (X3 (L.take 0)).length (Zl (X3 (L.take 0))):=
    ⟨rfl,.inr ⟨W1.heap.size,1,#[.int .i64 0,.string ⟨#[]⟩],rfl,Nat.le_refl _,heap_alloc_new W1 _,Nat.le_refl _,U2,rfl,rfl⟩⟩
   have th:=Lib.hid tc;clear tc
   go_loopw [11,12] (fun v i wr=>∃(k:Nat),k<=L.length/\i = .int .i64 k/\Hid (wr.ownsRow W1.heap.size 55 2 v (X3 (L.take k)).length (Zl (X3 (L.take k))))/\Below W1.heap.size W1 wr) (fun _ i _=>L.length-(intOf i).toNat)
   case atStart=>exact⟨0,Nat.zero_le _,rfl,th,Jc (Below.refl _ _) _⟩
   case round=>
    clear th;obtain⟨k,dz,rfl,ae,nV⟩:=hrel;have br:=nV.size;have fR:=Joj (L.take k);rw [List.length_take] at fR
    by_cases dO:k<L.length
    ·have hx:L[k]?=some L[k]:=List.getElem?_eq_getElem dO;generalize L[k]=x at hx;have zV:=Jnf hx;obtain⟨b,off,rfl,bG,⟨d0,d1,d2,d3⟩⟩:=(hva1.later nV).get hx;have HAL:=Lib.hid zV;clear hx zV d1 d2 d3;generalize X3 (L.take k)=al at *;have hS:∀w',Below wr.heap.size wr w'->w'.cell? ⟨b,off+k * 4,none⟩=some (.string x.name):=fun w' hb=>Ja hb d0;have HS:=Lib.hid hS;have ar:=hS wr.drew (Jh (Below.refl _ _));clear hS
     go_wp2_with fail
     refine Kd (fun w'=>w'.cell? ⟨b,off+k * 4,none⟩=some (.string x.name)) 14 2 Ug Gd ?_;simp only [List.size_toArray,List.length_cons,List.length_nil,Nat.zero_add,Nat.reduceAdd];refine Ji 0 ar ?_;refine Ji 1 ar ?_;refine Ji 2 ar ?_;refine Ji 3 ar ?_;refine Ji 4 ar ?_;refine Ji 5 ar ?_;refine Ji 6 ar ?_;refine Ji 7 ar ?_;refine Ji 8 ar ?_;refine Ji 9 ar ?_;refine Ji 10 ar ?_;refine Ji 11 ar ?_;refine Ji 12 ar ?_;refine Kb 13 ?_;refine Jj fun K hK=>?_;go_simp;refine hK _ _ ⟨HS.out _ (Jc (Jh (Below.refl _ _)) _),?_⟩;clear hK K
     try simp only [Act.put,sa1,sa2,sa3]
     refine Kh Ug ?_;refine Qx 14 ?_;refine Jez (.tmp 78) (.tmp 91) 122 rfl W1.heap.size 55 _ 2 24 Tryz.underlying122 Jes rfl Ua u11 al.length (Zl al) _ 2 2 [.int .i64 1,.string x.name,.int .i64 2,.string x.name] rfl (Js (Kp ae.out)) rfl (Qr rfl rfl) Uv Ua Ua Uj ?_;intro v5 w5 bX eT jr
     try simp only [Act.put,sa1,sa2,sa3]
     refine Qx 15 ?_;refine Jj fun K hK=>?_;go_simp;refine hK _ _ ?_;clear hK K
     try simp only [Act.put,sa1,sa2,sa3]
     refine Ki Ug ?_;have pH:=Lib.hid bX;have da:Below W1.heap.size W1 w5:=J2 (Jc (Jh nV) _) eT (fun b hb=>(ae.out.lt b hb).1) Uj;clear ar bX eT jr HS
     go_wp2_with fail
     go_roundw
     case rel=>exact⟨k+1,Ua,Up,Lib.hid (by rw [HAL.out,Jip,Jip,List.length_append,List.length_append,List.append_assoc];exact pH.out),da⟩
     case measure=>simp [intOf];omega
    ·obtain rfl:k=L.length:=Ua;obtain⟨W2,rfl⟩:∃W2,W2=wr:=⟨wr,rfl⟩;have oC:=ae.out;rw [List.take_length] at oC fR;generalize X3 L=al at *;have le:al.length<=100:=Ua;clear fR;have dr:=Jy tK.out nV;have dk:=Jy iz.out nV;have vA:∀b,u6.ownBlock=some b->W0.heap.size<=b/\b<W1.heap.size:=fun b hb=>tK.out.lt b hb;have hS3n:∀b,u11.ownBlock=some b->W1.heap.size<=b:=fun b hb=>(oC.lt b hb).1;have rN:Below W0.heap.size W0 W2:=Jn ab nV Ua;have HD2:=Lib.hid (Jcu qf.out);have HS1':=Lib.hid dr;have HS2':=Lib.hid dk;have HS3':=Lib.hid oC;obtain⟨Am,cm,rfl,hcm1,nO⟩:=Jv dk;obtain⟨Aa,ca,rfl,hca1,hca2⟩:=Jv oC;unfold maxLen at nO hca2;have vB:∀b,u6.ownBlock=some b->(Value.slice Aa al.length ca).ownBlock≠some b:=fun b hb he=>by have:=vA b hb;have:=hS3n b he;omega
     have HS13:=Lib.hid (Jcu vB);have HS31:=Lib.hid vB;clear dr dk oC ae tK iz qf hva1 p4 hS3n vB
     go_wp2_with fail
     obtain⟨VO,sL⟩:∃VO,VO=u6:=⟨_,rfl⟩;rw [<-sL] at HS1' HD2 HS13 HS31 vA
     go_loopw [6,13] (fun V i wr=>∃(k:Nat),k<=al.length/\i = .int .i64 k/\Hid (wr.ownsRow W0.heap.size 87 4 V (cs0 ++ K3 Lm (al.take k)).length (X7 (cs0 ++ K3 Lm (al.take k))))/\Hid (V.ownBlock=VO.ownBlock\/∀b,V.ownBlock=some b->W2.heap.size<=b)/\Hid (W2.grownBy wr VO.ownBlock)) (fun _ i _=>al.length-(intOf i).toNat)
     case atStart=>exact⟨0,Nat.zero_le _,rfl,Lib.hid (by rw [List.take_zero,<-sL];simpa [K3] using HS1'.out),Lib.hid (.inl (by rw [sL])),Lib.hid (Zj _ _)⟩
     case round=>
      obtain⟨k,dU,rfl,aE,mZ,mu⟩:=hrel;have fe:=mu.out.size;have en:Below W0.heap.size W0 wr:=J2 rN mu.out (fun b hb=>(vA b hb).1) rN.size;have lu:w.heap.size<wr.heap.size:=Ua;have ud:w.heap.size+1<wr.heap.size:=Ua;have gM:=Jj0 Lm (al.take k);rw [List.length_take] at gM;have na:(cs0 ++ K3 Lm (al.take k)).length<=1000:=Li;have qX:=X5 HS2'.out mu.out (Jcu (Jcu HD2.out));have jw:=X5 HS3'.out mu.out HS31.out
      by_cases jp:k<al.length
      ·have hx:al[k]?=some al[k]:=List.getElem?_eq_getElem jp;have aP:al.take (k+1)=al.take k ++ [al[k]]:=by rw [List.take_succ_eq_append_getElem jp]
       generalize al[k]=x at hx aP;have iy:K3 Lm (al.take (k+1))=if inC Lm x=true then K3 Lm (al.take k) ++ [Jb6 x] else K3 Lm (al.take k):=by rw [aP,Jc1]
       obtain⟨xk,xs⟩:=x;obtain⟨_,_,nI,aN⟩:=Jfm.of_own jw;injection nI with e1 e2 e3;subst e1 e3;obtain⟨b,off,rfl,cB⟩:=aN.2.2.2 Ua;have aY:=Jl9 al k (xk,xs) hx;have d0:wr.cell? ⟨b,off+k * 2,none⟩=some (.int .i64 xk):=cB _ _ aY.1;have d1:wr.cell? ⟨b,off+k * 2+1,none⟩=some (.string xs):=cB _ _ aY.2;have aH:=block_lt_of_cell d0;obtain⟨_,_,nI,fG⟩:=Jfm.of_own qX;injection nI with e1 e2 e3;subst e1 e3;have mw:=fun W hb=>Jq0 Lm Am cm xk xs W (fG.later hb);obtain⟨vb,hU⟩:∃vb,inC Lm (xk,xs)=vb:=⟨_,rfl⟩;rw [hU] at iy mw;have mL:=Lib.hid iy;have HG3:=Lib.hid mu.out;have lw:∀b',u6.ownBlock=some b'->W0.heap.size<=b':=fun b' gr=>(aE.out.lt b' gr).1;clear hx aP iy aN cB aY qX jw fG hU mu;generalize K3 Lm (al.take k)=fl at *;generalize bO:cs0 ++ fl=cl at *;have mK:=Lib.hid bO;clear bO
       cases vb
       ·go_wp2_with (first|(go_at_call 52;go_loud (refine(mw _ Jb).mono ?_;rintro r w1 ⟨rfl,ac⟩)))
        go_roundw
        case rel=>exact⟨k+1,Ua,Up,Lib.hid (by rw [mL.out,if_neg Ul,mK.out];exact Jy aE.out ac),mZ,Lib.hid (Kv HG3.out (K0 ac))⟩
        case measure=>simp [intOf];omega
       ·go_wp2_with (first
         | (go_at_call 52;go_loud (refine(mw _ Jb).mono ?_;rintro r w1 ⟨rfl,ac⟩;have ak:=Jg ac;have af:=ac.size))
         | (at_builtin;go_loud (refine Qv rfl (.tmp 105) (.tmp 111) 80 rfl W0.heap.size 87 _ 4 48 Tryz.underlying80 vw rfl Ua u6 cl.length (X7 cl) _ 1 1 [.string ⟨#[]⟩,.int .i64 xk,.string xs,.int .i32 0] rfl (Js (Jy aE.out ac)) rfl (Qr rfl rfl) Uv Ua Ua (by have:=en.size;simp;omega) ?_;intro v5 w5 bX eT jr;have eX:wr.grownBy w5 u6.ownBlock:=Kv (K0 (Jc ac _)) eT;have pH:=Lib.hid bX;have HG5:=Lib.hid (Jib HG3.out eX mZ.out);have HB5:Hid (v5.ownBlock=VO.ownBlock\/∀b,v5.ownBlock=some b->W2.heap.size<=b):=Lib.hid (by
           rcases jr with h|h
           ·rw [h];exact mZ.out
           ·exact .inr fun b hb=>Fy);clear bX eT eX jr)))
        go_roundw
        case rel=>exact⟨k+1,Ua,Up,Lib.hid (by rw [mL.out];simp only [if_true];rw [<-List.append_assoc,mK.out,show X7 (cl ++ [Jb6 (xk,xs)])=X7 cl ++ [.string ⟨#[]⟩,.int .i64 xk,.string xs,.int .i32 0] from Jdy _ _,List.length_append];exact pH.out),HB5,HG5⟩
        case measure=>simp [intOf];omega
      ·obtain rfl:k=al.length:=Ua;have ay:=aE.out;rw [List.take_length,<-HCELL.out] at ay na;obtain⟨Ae,ce,rfl,zY,rO⟩:=Jv ay;unfold maxLen at rO;have jh:Below w.heap.size w wr:=Jn ax en Ua;have g0':=Ja en g0;have g1':=Ja en g1;have g2':=Ja en g2;have f0':=(Jf en (w.heap.size+1) 0 Ua).trans f0;have f1':=(Jf en (w.heap.size+1) 1 Ua).trans f1;have f2':=(Jf en (w.heap.size+1) 2 Ua).trans f2;have HOE:=Lib.hid (K8 ay (B':=w.heap.size) Ua);have mq:∀b,(Value.slice Ae (Jq p).length ce).ownBlock=some b->b≠w.heap.size+1:=fun b hb he=>by have:=(ay.lt b hb).1;omega
       clear ay aE mZ mu qX jw g0 g1 g2 f0 f1 f2 gM
       by_cases dP:16<(Jq p).length
       ·have pU:(16:Int)<((Jq p).length:Int):=Ua
        go_wp2_with fail
        refine bodyPost_ret (v:= .tuple #[.slice none 0 0,.agg #[.int .i64 4,.int .i64 0,.int .i64 3]]) Gr rfl ?_;unfold Je7;rw [rk.out,if_pos dP];exact⟨⟨_,rfl,World.ownsRow_nil _ _ _ _⟩,Mq⟩
       ·have pU:¬(16:Int)<((Jq p).length:Int):=Ua
        go_wp2_with fail
        refine bodyPost_ret (v:= .tuple #[.slice Ae (Jq p).length ce,.agg #[.int .i64 0,.int .i64 0,.int .i64 0]]) Gr rfl ?_;unfold Je7;rw [rk.out,if_neg dP];exact⟨⟨_,rfl,Kn (Kn (Kn HOE.out mq 0 _) mq 1 _) mq 2 _⟩,Mq⟩
theorem Jkw (p:Pr) (a:PrA) (w:World) (hp:Kr w p a) (aw:Q4 p) (n1:p.ins.length<=1000000) (n2:p.outs.length<=1000000) (n3:p.locals.length<=1000000) (n4:p.eqs.length<=1000000) :
  Calls Tryz.prog 25 #[prV p a] w (Je7 p w):=by
 by_cases hS:Ks p=(0,0,0)
 ·exact Jtc p a w hp aw n1 n2 n3 n4 hS
 ·refine(Juc p a w (Ks p) (Jkq hS) fun W h=>Jjw p a W (hp.later h) aw n1 n2 n3 n4).mono ?_;rintro r w' ⟨rfl,hb⟩;unfold Je7;rw [Jqc hS];exact⟨⟨_,rfl,World.ownsRow_nil _ _ _ _⟩,hb⟩
end Go.Proofs.YtknfcamdfdfoeaaGreatDoor
namespace Go.Proofs.YtknfcamdfdfoeaaGreatDoor
open Go.RowKit Go.Sort Go.Maps Go.ChangeMaps Go.WideMaps
structure Jfw (W:World) (X Bs Bt Bf:Nat) (L:List Va) (cs:List Ce) (A:Option Addr) (cap:Nat):Prop where
 c0:W.cell? ⟨X,0,none⟩=some (.map (some Bs))
 c1:W.cell? ⟨X,1,none⟩=some (.map (some Bt))
 c2:W.cell? ⟨X,2,none⟩=some (.map (some Bf))
 c3:W.cell? ⟨X,3,none⟩=some (.slice A cs.length cap)
 slots:Qd Tryz.prog 9 (plainElem Tryz.prog 21) okS klS okI (Lit.int .i32) 0 W Bs L.length (Jft L) L.length
 clks:Qd Tryz.prog 9 clkR okS klS okC klC (0,⟨#[]⟩) W Bt L.length (Jcq L) L.length
 flags:∃c,Qd Tryz.prog 55 (plainElem Tryz.prog 21) okC klC okI (Lit.int .i32) 0 W Bf cs.length (Jeg cs) c
theorem Jmo {Q:Exit->Act->World->Prop} {e:Exit} {a:Act} {W:World} (h:∀W0,W0=W->Q e a W0):Q e a W:=h W rfl
theorem Jya (w:World):(zeroValue 55).run Tryz.prog w = .ok (kvC (0,⟨#[]⟩)) w:=Ug
theorem Jxs (p:Pr) (a:PrA) (cs:List Ce) (A:Option Addr) (cap:Nat) (w:World) (hp:Kr w p a) (dj:Jbh w cs A cap) (n1:p.ins.length<=1000000) (n2:p.outs.length<=1000000) (n3:p.locals.length<=1000000) (n4:cs.length<=1000000)
  (hs:∀v∈Je p,okS v.name/\okC (v.ck,v.cn)) (hn:((Je p).map (·.name)).Nodup) (bO:∀c∈cs,okC (c.ck,c.cn)) :
  Calls Tryz.prog 19 #[prV p a,.slice A cs.length cap] w fun r w'=>(∃X Bs Bt Bf,r = .returned (.pointer (some ⟨X,0,none⟩))/\Jfw w' X Bs Bt Bf (Je p) cs A cap)/\Below w.heap.size w w':=by
 have aJ:=fun W h=>Jcv p a W (hp.later h) n1 n2 n3;have hL3:(Je p).length<=3000000:=by simp [Je];omega
 obtain⟨A1,c1,A2,c2,A3,c3,A4,c4⟩:=a;obtain⟨hcs1,hcs2,_⟩:=id dj;unfold maxLen at hcs2;unfold prV at *;dsimp only at *;have gI:=@run_makeMap Tryz.prog;generalize hL:Je p=L at *;clear hL;have HS:=Lib.hid hs;clear hs;have HN:=Lib.hid hn;clear hn;have mK:=Lib.hid bO;clear bO;have lo:=Lib.hid dj;clear dj hp
 go_enter Tryz.func19,Tryz.ntmps19
 go_wp2_with (first|(go_at_call 42;go_loud (refine(aJ _ Jb).mono ?_;rintro r wb ⟨⟨Av,cv,rfl,ae⟩,aH⟩;have el:=Jg aH;have dH:=aH.size;(try simp at dH);have cR:=Ju.of_own ae)))
 refine Jo fun W0 ag=>?_;have ax:Below w.heap.size w W0:=Uo;have bD:w.heap.size+5<=W0.heap.size:=by rw [ag];exact dH
 have p0:W0.cell? ⟨w.heap.size+4,0,none⟩=some (.map (some (w.heap.size+1))):=Uc;have p1:W0.cell? ⟨w.heap.size+4,1,none⟩=some (.map (some (w.heap.size+2))):=Uc;have p2:W0.cell? ⟨w.heap.size+4,2,none⟩=some (.map (some (w.heap.size+3))):=Uc;have p3:W0.cell? ⟨w.heap.size+4,3,none⟩=some (.slice A cs.length cap):=Uc;have bE:Off (w.heap.size+5) none W0 (fun W=>Ju W L Av cv):=by rw [ag];have:=Ju.off_own' ae;simpa using this
 have xH:Qd Tryz.prog 9 (plainElem Tryz.prog 21) okS klS okI (Lit.int .i32) 0 W0 (w.heap.size+1) 0 (fun _=>none) 0:=by
  rw [ag];refine Qd.bel ?_ aH;have h1:=Qd.made (P:=Tryz.prog) (k:=9) (R:=plainElem Tryz.prog 21) (ok:=okS) (kl:=klS) (okv:=okI) (vl:=Lit.int .i32) (z:=(0:Int)) (Jly Vh) (w.alloc (.cells #[.string p.name,.slice A1 p.ins.length c1,.slice A2 p.outs.length c2,.slice A3 p.locals.length c3,.slice A4 p.eqs.length c4] 25));have h2:=h1.bel (Jc (Jc (Jc (Below.refl _ _) (.map #[] 0)) (.map #[] 0)) (.cells #[.map (some (w.heap.size+1)),.map (some (w.heap.size+1+1)),.map (some (w.heap.size+1+1+1)),.slice A cs.length cap] 72));exact Lg
 have wC:Qd Tryz.prog 9 clkR okS klS okC klC (0,⟨#[]⟩) W0 (w.heap.size+2) 0 (fun _=>none) 0:=by
  rw [ag];refine Qd.bel ?_ aH;have h1:=Qd.made (P:=Tryz.prog) (k:=9) (R:=clkR) (ok:=okS) (kl:=klS) (okv:=okC) (vl:=klC) (z:=((0:Int),(⟨#[]⟩:ByteArray))) ⟨Vs,Ux⟩ ((w.alloc (.cells #[.string p.name,.slice A1 p.ins.length c1,.slice A2 p.outs.length c2,.slice A3 p.locals.length c3,.slice A4 p.eqs.length c4] 25)).alloc (.map #[] 0));have h2:=h1.bel (Jc (Jc (Below.refl _ _) (.map #[] 0)) (.cells #[.map (some (w.heap.size+1)),.map (some (w.heap.size+1+1)),.map (some (w.heap.size+1+1+1)),.slice A cs.length cap] 72));exact Lg
 have gZ:Qd Tryz.prog 55 (plainElem Tryz.prog 21) okC klC okI (Lit.int .i32) 0 W0 (w.heap.size+3) 0 (fun _=>none) 0:=by
  rw [ag];refine Qd.bel ?_ aH;have h1:=Qd.made (P:=Tryz.prog) (k:=55) (R:=plainElem Tryz.prog 21) (ok:=okC) (kl:=klC) (okv:=okI) (vl:=Lit.int .i32) (z:=(0:Int)) (Jly Vh) (((w.alloc (.cells #[.string p.name,.slice A1 p.ins.length c1,.slice A2 p.outs.length c2,.slice A3 p.locals.length c3,.slice A4 p.eqs.length c4] 25)).alloc (.map #[] 0)).alloc (.map #[] 0));have h2:=h1.bel (Jc (Below.refl _ _) (.cells #[.map (some (w.heap.size+1)),.map (some (w.heap.size+1+1)),.map (some (w.heap.size+1+1+1)),.slice A cs.length cap] 72));exact Lg
 have rl:=lo.out.later ax;have cY:=bE.here.len;unfold maxLen at cY;obtain⟨fH,fI⟩:=cY;clear ag ae cR el aH dH aJ gI;have HF0:=Lib.hid gZ;have HC0:=Lib.hid rl;clear gZ rl
 go_loopw [19] (fun i wr=>∃k:Nat,k<=L.length/\i = .int .i64 k/\Hid (Qd Tryz.prog 9 (plainElem Tryz.prog 21) okS klS okI (Lit.int .i32) 0 wr (w.heap.size+1) k (Jft (L.take k)) k)/\
   Hid (Qd Tryz.prog 9 clkR okS klS okC klC (0,⟨#[]⟩) wr (w.heap.size+2) k (Jcq (L.take k)) k)/\Hid (Chg (w.heap.size+1) (w.heap.size+2) none W0 wr)) (fun i _=>L.length-(intOf i).toNat)
 case atStart=>exact⟨0,Nat.zero_le _,rfl,Lib.hid xH,Lib.hid wC,Lib.hid (Chg.bel (Below.refl _ _))⟩
 case round=>
  obtain⟨k,hk,rfl,tJ,lJ,fJ⟩:=hrel;have iG:=fJ.out.size;have q0:wr.cell? ⟨w.heap.size+4,0,none⟩=some (.map (some (w.heap.size+1))):=Jr (fJ.out.block (w.heap.size+4) Ua Ua Ua Ul) p0;have q1:wr.cell? ⟨w.heap.size+4,1,none⟩=some (.map (some (w.heap.size+2))):=Jr (fJ.out.block (w.heap.size+4) Ua Ua Ua Ul) p1
  by_cases am:k<L.length
  ·have hx:L[k]?=some L[k]:=List.getElem?_eq_getElem am;have aj:L[k]∈L:=List.getElem_mem am;have aP:L.take (k+1)=L.take k ++ [L[k]]:=U6;generalize L[k]=x at hx aj aP;have jg:Ju wr L Av cv:=bE wr fun b h1 h2 _=>fJ.out.block b h2 Ua Ua Ul;obtain⟨b,off,rfl,aH,⟨d0,d1,d2,d3⟩⟩:=jg.get hx;have dT:=HS.out x aj;have HNW:=Lib.hid (Jid HN.out hx);have eZ:=Lib.hid aP;have xI:IntKind.i32.wrap (k:Int)=(k:Int):=Jbn Vh;clear hx aj aP jg p0 p1 p2 p3 xH wC
   go_wp2_with fail
   refine Jo fun W1 bt=>?_;have ac:Below wr.heap.size wr W1:=G4;have af:wr.heap.size+1=W1.heap.size:=by rw [bt];simp
   have x0:W1.cell? ⟨wr.heap.size,0,none⟩=some (.string x.name):=Lj;have x2:W1.cell? ⟨wr.heap.size,2,none⟩=some (.int .i64 x.ck):=Lj;have x3:W1.cell? ⟨wr.heap.size,3,none⟩=some (.string x.cn):=Lj;have c0:=Ja ac q0;have c1:=Ja ac q1;have cT:w.heap.size+1<W1.heap.size:=Ua;have cF:w.heap.size+2<W1.heap.size:=Ua;obtain⟨v0,st,o0,o1,o2,h0,ro,lK,lp,iy⟩:=Qd.steps (Jc2 Tryz.underlying9) (string_law Tryz.underlying9) (Jvi Tryz.underlying21) Tryz.underlying68 (fun u=>Jbp u) (tJ.out.bel ac) dT.1 Ua (v:=(k:Int)) (Jly Vh);obtain⟨v1,st1,u0,u1,u2,g0,gme,ges,gup,gfs⟩:=Qd.steps (Jc2 Tryz.underlying9) (string_law Tryz.underlying9) Jgn Tryz.underlying69 (fun u=>Jya u) (lJ.out.bel ac) dT.1 Ua (v:=(x.ck,x.cn)) dT.2;unfold kvC at ges;dsimp only at lK ges;have a1:=ro W1.drew h0;have b1:=gme W1.drew g0;have a2:=ro (setBlock W1.drew (w.heap.size+2) u1) ((Qa _ _ _ _ Ua).trans h0);have b2:=gme (setBlock W1.drew (w.heap.size+1) o1) ((Qa _ _ _ _ Ua).trans g0);have kA1:(setBlock (setBlock W1.drew (w.heap.size+1) o1) (w.heap.size+2) u1).heap[w.heap.size+1]?=some o1:=(Qa _ _ _ _ Ua).trans (Xc _ _ _ cT);have kA2:(setBlock (setBlock W1.drew (w.heap.size+1) o1) (w.heap.size+2) u1).heap[w.heap.size+2]?=some u1:=Xc _ _ _ (by rw [Yo];exact cF);have kB2:(setBlock (setBlock W1.drew (w.heap.size+2) u1) (w.heap.size+1) o1).heap[w.heap.size+2]?=some u1:=(Qa _ _ _ _ Ua).trans (Xc _ _ _ cF);have kB1:(setBlock (setBlock W1.drew (w.heap.size+2) u1) (w.heap.size+1) o1).heap[w.heap.size+1]?=some o1:=Xc _ _ _ (by rw [Yo];exact cT);have s1:=lK _ kA1;have s2:=ges _ kA2;have s3:=lK _ kB1;have s4:=ges _ kB2;have s5:=lK (setBlock (setBlock (setBlock W1.drew (w.heap.size+1) o1) (w.heap.size+2) u1) (w.heap.size+2) u2) ((Qa _ _ _ _ Ua).trans kA1);have s6:=ges (setBlock (setBlock (setBlock W1.drew (w.heap.size+1) o1) (w.heap.size+2) u1) (w.heap.size+1) o2) ((Qa _ _ _ _ Ua).trans kA2);have s7:=lK (setBlock (setBlock (setBlock W1.drew (w.heap.size+2) u1) (w.heap.size+1) o1) (w.heap.size+2) u2) ((Qa _ _ _ _ Ua).trans kB1);have s8:=ges (setBlock (setBlock (setBlock W1.drew (w.heap.size+2) u1) (w.heap.size+1) o1) (w.heap.size+1) o2) ((Qa _ _ _ _ Ua).trans kB2);have m1:(setBlock W1.drew (w.heap.size+1) o1).heap[w.heap.size+1]?=some o1:=Xc _ _ _ cT;have m2:(setBlock W1.drew (w.heap.size+2) u1).heap[w.heap.size+2]?=some u1:=Xc _ _ _ cF;have s9:=lK _ m1;have s10:=ges _ m2;have m3:(setBlock (setBlock W1.drew (w.heap.size+1) o1) (w.heap.size+1) o2).heap[w.heap.size+2]?=some u0:=(Qa _ _ _ _ Ua).trans ((Qa _ _ _ _ Ua).trans g0);have m4:(setBlock (setBlock W1.drew (w.heap.size+2) u1) (w.heap.size+2) u2).heap[w.heap.size+1]?=some o0:=(Qa _ _ _ _ Ua).trans ((Qa _ _ _ _ Ua).trans h0);have s11:=gme _ m3;have s12:=ro _ m4;have s13:=ges (setBlock (setBlock (setBlock W1.drew (w.heap.size+1) o1) (w.heap.size+1) o2) (w.heap.size+2) u1) (Xc _ _ _ (by rw [Yo,Yo];exact cF));have s14:=lK (setBlock (setBlock (setBlock W1.drew (w.heap.size+2) u1) (w.heap.size+2) u2) (w.heap.size+1) o1) (Xc _ _ _ (by rw [Yo,Yo];exact cT))
   have tK:=Lib.hid (fun(w':World) (hw:∀b o,b≠w.heap.size+1->b≠w.heap.size+2->w'.cell? ⟨b,o,none⟩=W1.cell? ⟨b,o,none⟩)=>
    (⟨(hw _ _ Ua Ua).trans c0,(hw _ _ Ua Ua).trans c1,(hw _ _ Ua Ua).trans x0,(hw _ _ Ua Ua).trans x2,(hw _ _ Ua Ua).trans x3⟩ :
     w'.cell? ⟨w.heap.size+4,0,none⟩=some (.map (some (w.heap.size+1)))/\w'.cell? ⟨w.heap.size+4,1,none⟩=some (.map (some (w.heap.size+2)))/\w'.cell? ⟨wr.heap.size,0,none⟩=some (.string x.name)/\w'.cell? ⟨wr.heap.size,2,none⟩=some (.int .i64 x.ck)/\w'.cell? ⟨wr.heap.size,3,none⟩=some (.string x.cn)))
   have mL:=Lib.hid iy;have GFS:=Lib.hid gfs;clear ro lK gme ges lp gup h0 g0 m1 m2 m3 m4 kA1 kA2 kB1 kB2 iy gfs bt q0 q1 d0 d1 d2 d3
   go_region_held3 (fun w'=>w'.cell? ⟨w.heap.size+4,0,none⟩=some (.map (some (w.heap.size+1)))/\w'.cell? ⟨w.heap.size+4,1,none⟩=some (.map (some (w.heap.size+2)))/\w'.cell? ⟨wr.heap.size,0,none⟩=some (.string x.name)/\w'.cell? ⟨wr.heap.size,2,none⟩=some (.int .i64 x.ck)/\w'.cell? ⟨wr.heap.size,3,none⟩=some (.string x.cn))
    (exact tK.out _ (fun b o n1 n2=>by(repeat (first|rw [Jd9 _ _ _ _ _ n1]|rw [Jd9 _ _ _ _ _ n2]));first|done|rfl)) (fail)
   all_goals
    refine Jmo fun W2 gi=>?_
    have k1:W2.heap[w.heap.size+1]?=some o2:=by
     rw [gi]
     repeat (first|exact Xc _ _ _ (by simp only [Yo];exact cT)|refine(Qa _ _ _ _ Ua).trans ?_)
    have k2:W2.heap[w.heap.size+2]?=some u2:=by
     rw [gi]
     repeat (first|exact Xc _ _ _ (by simp only [Yo];exact cF)|refine(Qa _ _ _ _ Ua).trans ?_)
    have dm:Chg (w.heap.size+1) (w.heap.size+2) none W1 W2:=by
     rw [gi];refine⟨rfl,rfl,rfl,?_,fun j hj n1 n2 _=>?_⟩
     ·simp only [Yo];exact Nat.le_refl _
     ·repeat (refine(Qa _ _ _ _ (by assumption)).trans ?_)
      exact Gd
    have br:=dm.size;have sr:=Jtm x.name (L.take k) HNW.out;have iH:=Jlc x.name (L.take k) HNW.out;have r1:=mL.out W2 k1 (Jft (L.take (k+1))) (by rw [eZ.out,Jeh,if_pos rfl,List.length_take];congr 2;omega) (fun y _ hy=>by rw [eZ.out,Jeh,if_neg (fun he=>hy (by ext1;exact he))]);have r2:=GFS.out W2 k2 (Jcq (L.take (k+1))) (by rw [eZ.out,Jce,if_pos rfl]) (fun y _ hy=>Di);rw [sr] at r1;rw [iH] at r2;have R1:=Lib.hid r1;have R2:=Lib.hid r2;have R3:=Lib.hid ((fJ.out.trans (Chg.bel ac) (.inl rfl)).trans dm (.inl rfl));clear gi k1 k2 dm sr iH r1 r2 a1 a2 b1 b2 s1 s2 s3 s4 s5 s6 s7 s8 s9 s10 s11 s12 s13 s14
    go_wp2_with fail
    go_roundw
    case rel=>exact⟨k+1,Ua,Up,R1,R2,R3⟩
    case measure=>simp [intOf];omega
  ·obtain rfl:k=L.length:=Ua;obtain⟨Wa,rfl⟩:∃Wa,Wa=wr:=⟨wr,rfl⟩;have bC:=tJ.out;have gJ:=lJ.out;rw [List.take_length] at bC gJ;have tK:=Lib.hid bC;have HT1:=Lib.hid gJ;have HF1:=Lib.hid (HF0.out.keep1 (fJ.out.block (w.heap.size+3) Ua Ua Ua Ul));have q2:Wa.cell? ⟨w.heap.size+4,2,none⟩=some (.map (some (w.heap.size+3))):=Jr (fJ.out.block (w.heap.size+4) Ua Ua Ua Ul) p2;have q3:Wa.cell? ⟨w.heap.size+4,3,none⟩=some (.slice A cs.length cap):=Jr (fJ.out.block (w.heap.size+4) Ua Ua Ua Ul) p3;have aC:Below w.heap.size w Wa:=Jd2 (base:=0) ax fJ.out Ua Ua Ul;clear bC gJ xH wC p0 p1 p2 p3 bE tJ lJ
   go_wp2_with fail
   go_loopw [47] (fun i wr=>∃(k c:Nat),k<=cs.length/\i = .int .i64 k/\Hid (Qd Tryz.prog 55 (plainElem Tryz.prog 21) okC klC okI (Lit.int .i32) 0 wr (w.heap.size+3) k (Jeg (cs.take k)) c)/\Hid (Wa.grownBy wr (some (w.heap.size+3)))) (fun i _=>cs.length-(intOf i).toNat)
   case atStart=>exact⟨0,0,Nat.zero_le _,rfl,HF1,Lib.hid ⟨rfl,rfl,rfl,Nat.le_refl _,fun _ _ _=>rfl⟩⟩
   case round=>
    obtain⟨k,c,dz,rfl,rp,bB⟩:=hrel;have kI:=bB.out.size;have rq:Below w.heap.size w wr:=J2 aC bB.out (fun b hb=>U1) Ua;have z2:wr.cell? ⟨w.heap.size+4,2,none⟩=some (.map (some (w.heap.size+3))):=Jr (bB.out.block (w.heap.size+4) Ua Vc) q2
    by_cases dO:k<cs.length
    ·have hx:cs[k]?=some cs[k]:=List.getElem?_eq_getElem dO;have aj:cs[k]∈cs:=List.getElem_mem dO;have aP:cs.take (k+1)=cs.take k ++ [cs[k]]:=Gg;generalize cs[k]=x at hx aj aP;obtain⟨b,off,rfl,cB⟩:=(lo.out.later rq).2.2.2 Ua;have aY:=Jdh cs k x hx;have d0:wr.cell? ⟨b,off+k * 4,none⟩=some (.string x.name):=cB _ _ aY.1;have d1:wr.cell? ⟨b,off+k * 4+1,none⟩=some (.int .i64 x.ck):=cB _ _ aY.2.1;have d2:wr.cell? ⟨b,off+k * 4+2,none⟩=some (.string x.cn):=cB _ _ aY.2.2.1;have d3:wr.cell? ⟨b,off+k * 4+3,none⟩=some (.int .i32 x.first):=cB _ _ aY.2.2.2;have dT:=mK.out x aj;have eZ:=Lib.hid aP;have xI:IntKind.i32.wrap (k:Int)=(k:Int):=Jbn Vh;clear hx aj aP cB aY q2 q3
     cases aL:x.name.toList.isEmpty
     ·have R1:=Lib.hid (rp.out.same (g:=Jeg (cs.take (k+1))) (fun d _=>by rw [eZ.out,Jef,if_neg (fun he=>by rw [aL] at he;cases he.1)]))
      go_wp2_with fail
      go_roundw
      case rel=>exact⟨k+1,c,Ua,Up,Lib.hid ((R1.out.keep1 (by rw [heap_alloc_old _ _ Ua])).more Ua),Lib.hid (Qn bB.out (World.grownBy_alloc wr _ _))⟩
      case measure=>simp [intOf];omega
     ·go_wp2_with fail
      refine Jo fun W1 bt=>?_;have ac:Below wr.heap.size wr W1:=G4;have af:wr.heap.size+1=W1.heap.size:=by rw [bt];simp
      have x1:W1.cell? ⟨wr.heap.size,1,none⟩=some (.int .i64 x.ck):=Lj;have x2:W1.cell? ⟨wr.heap.size,2,none⟩=some (.string x.cn):=Lj;have c2':=Ja ac z2;have cZ:w.heap.size+3<W1.heap.size:=Ua;obtain⟨v0,st,o0,o1,o2,h0,ro,lK,lp,iy⟩:=Qd.steps Jl0 Jpk (Jvi Tryz.underlying21) Tryz.underlying70 (fun u=>Jbp u) (rp.out.bel ac) dT Ua (v:=(k:Int)) (Jly Vh);unfold kvC at lp;dsimp only at lp;have a1:=lp W1.drew h0;have mL:=Lib.hid iy
      have iz:=Lib.hid (fun(w':World) (hw:∀b o,b≠w.heap.size+3->w'.cell? ⟨b,o,none⟩=W1.cell? ⟨b,o,none⟩)=>
       (⟨(hw _ _ Ua).trans c2',(hw _ _ Ua).trans x1,(hw _ _ Ua).trans x2⟩ :
        w'.cell? ⟨w.heap.size+4,2,none⟩=some (.map (some (w.heap.size+3)))/\w'.cell? ⟨wr.heap.size,1,none⟩=some (.int .i64 x.ck)/\w'.cell? ⟨wr.heap.size,2,none⟩=some (.string x.cn)))
      clear ro lK lp h0 iy bt z2 d0 d1 d2 d3
      go_region_held3 (fun w'=>w'.cell? ⟨w.heap.size+4,2,none⟩=some (.map (some (w.heap.size+3)))/\w'.cell? ⟨wr.heap.size,1,none⟩=some (.int .i64 x.ck)/\w'.cell? ⟨wr.heap.size,2,none⟩=some (.string x.cn))
       (exact iz.out _ (fun b o n1=>by(repeat (rw [Jd9 _ _ _ _ _ n1]));first|done|rfl)) (fail)
      all_goals
       refine Jmo fun W2 gi=>?_;have k1:W2.heap[w.heap.size+3]?=some o2:=by rw [gi];exact Xc _ _ _ cZ
       have aG:W1.grownBy W2 (some (w.heap.size+3)):=by rw [gi];exact Qn (K0 (Jh (Below.refl _ _))) (Jgd W1.drew _ _)
       have br:=aG.size;have r1:=mL.out W2 k1 (Jeg (cs.take (k+1))) (by rw [eZ.out,Jef,if_pos ⟨aL,rfl,rfl⟩,List.length_take];congr 2;omega) (fun y _ hy=>by rw [eZ.out,Jef,if_neg (fun he=>hy (Prod.ext he.2.1 (by ext1;exact he.2.2)))]);have R1:=Lib.hid r1;have R2:=Lib.hid (Qn bB.out (Qn (K0 ac) aG));clear gi k1 aG r1 a1
       go_wp2_with fail
       go_roundw
       case rel=>exact⟨k+1,_,Ua,Up,R1,R2⟩
       case measure=>simp [intOf];omega
    ·obtain rfl:k=cs.length:=Ua;have db:=rp.out;rw [List.take_length] at db;have z0:wr.cell? ⟨w.heap.size+4,0,none⟩=some (.map (some (w.heap.size+1))):=Jr (bB.out.block (w.heap.size+4) Ua Vc) q0;have z1:wr.cell? ⟨w.heap.size+4,1,none⟩=some (.map (some (w.heap.size+2))):=Jr (bB.out.block (w.heap.size+4) Ua Vc) q1;have z3:wr.cell? ⟨w.heap.size+4,3,none⟩=some (.slice A cs.length cap):=Jr (bB.out.block (w.heap.size+4) Ua Vc) q3;have R0:=tK.out.keep1 (bB.out.block (w.heap.size+1) Ua Vc);have R1:=HT1.out.keep1 (bB.out.block (w.heap.size+2) Ua Vc);have HR:=Lib.hid (⟨z0,z1,z2,z3,R0,R1,⟨c,db⟩⟩:Jfw wr (w.heap.size+4) (w.heap.size+1) (w.heap.size+2) (w.heap.size+3) L cs A cap);clear db z0 z1 z2 z3 R0 R1 q0 q1 q2 q3 rp
     go_wp2_with fail
     go_ret;exact⟨⟨_,_,_,_,rfl,HR.out⟩,rq⟩
end Go.Proofs.YtknfcamdfdfoeaaGreatDoor
namespace Go.Proofs.YtknfcamdfdfoeaaGreatDoor
open Go.RowKit Go.Sort Go.Maps
def Jag (X Bs Bf:Nat) (sl:ByteArray->Int) (fl:Int×ByteArray->Int) (x:Ex):Prop:=∀(A:Option Addr) (cap:Nat) (ck:Int) (cs:ByteArray) (w:World),Jb1 w X Bs Bf sl fl->Jt w x A cap->okC (ck,cs)->
 Calls Tryz.prog 23 #[.pointer (some ⟨X,0,none⟩),exV x A cap,.agg #[.int .i64 ck,.string cs]] w (Jci w (x.gen sl fl (ck,cs)))
structure Jge (W:World) (bp be bc X:Nat) (A:Option Addr) (len cap:Nat) (ck:Int) (cs:ByteArray):Prop where
 p0:W.cell? ⟨bp,0,none⟩=some (.pointer (some ⟨X,0,none⟩))
 e3:W.cell? ⟨be,3,none⟩=some (.slice A len cap)
 k0:W.cell? ⟨bc,0,none⟩=some (.int .i64 ck)
 k1:W.cell? ⟨bc,1,none⟩=some (.string cs)
theorem Jge.later {W W':World} {bp be bc X:Nat} {A:Option Addr} {len cap:Nat} {ck:Int} {cs:ByteArray} (h:Jge W bp be bc X A len cap ck cs) (hb:Below W.heap.size W W'):Jge W' bp be bc X A len cap ck cs:=
 ⟨Ja hb h.p0,Ja hb h.e3,Ja hb h.k0,Ja hb h.k1⟩
theorem Jwz (X Bs Bf:Nat) (sl:ByteArray->Int) (fl:Int×ByteArray->Int) (e x:Ex) (i:Nat) (hx:e.sub[i]?=some x) (ih:Jag X Bs Bf sl fl x) (bp be bc:Nat) (A:Option Addr) (cap:Nat) (ck:Int) (cs:ByteArray) (w:World)
  (hh:Jge w bp be bc X A e.sub.length cap ck cs) (hp:Jb1 w X Bs Bf sl fl) (he:Jt w e A cap) (hc:okC (ck,cs)) :
  Calls Tryz.prog 43 #[.int .i64 i,.pointer (some ⟨bp,0,none⟩),.pointer (some ⟨be,0,none⟩),.pointer (some ⟨bc,0,none⟩)] w (Jci w (x.gen sl fl (ck,cs))):=by
 obtain⟨p0,e3,k0,k1⟩:=hh;have am:i<e.sub.length:=(List.getElem?_eq_some_iff.1 hx).1;obtain⟨bI,aD⟩:=he.len;unfold maxLen at aD;obtain⟨b,off,A',cap',rfl,c0,c1,c2,c3,hs⟩:=he.get hx;have hbp:=block_lt_of_cell p0;have ef:=block_lt_of_cell e3;have bU:=block_lt_of_cell k0;have aH:=block_lt_of_cell c0;have sF:=ih A' cap' ck cs w.drew (hp.later (Jh (Below.refl _ _))) (hs.later (Jh (Below.refl _ _))) hc;unfold exV at sF;have xT:=Lib.hid sF;clear hx he hs sF ih hp hc
 go_enter Tryz.func43,Tryz.ntmps43
 go_wp2_with fail
 go_region_law (go_simp;go_wp2_with (go_at_call 23;go_loud (refine xT.out.mono ?_;rintro r w1 ⟨⟨A1,c1',rfl,dN⟩,ac⟩)))
 all_goals
  go_wp2_with fail
  go_ret;exact⟨⟨_,_,rfl,dN⟩,(Jh (Below.refl _ _)).trans (ac.mono Ul)⟩
end Go.Proofs.YtknfcamdfdfoeaaGreatDoor
