/- Lemmas. -/
import Derived.Test.YtknfcamdfdfoeaaGreatDoorMac
import Derived.Test.YtknfcamdfdfoeaaGreatDoorZ38
import Derived.Test.YtknfcamdfdfoeaaGreatDoorZ09
import Derived.Test.YtknfcamdfdfoeaaGreatDoorZ34
import Derived.Test.YtknfcamdfdfoeaaGreatDoorZ35
import Derived.Test.YtknfcamdfdfoeaaGreatDoorZ08
import Derived.Test.YtknfcamdfdfoeaaGreatDoorZ23
import Derived.Test.YtknfcamdfdfoeaaGreatDoorZ15
import Derived.Deep.CutRange
set_option linter.unusedVariables false
set_option linter.unusedSimpArgs false
set_option maxRecDepth 100000
set_option maxHeartbeats 64000000
namespace Go.Proofs.YtknfcamdfdfoeaaGreatDoor
open Go.RowKit
theorem Jp1 {L:List Va} {v:Va} (h:v∈L):Jp L v.name=Xu L v.name:=by
 obtain⟨k,hk⟩:=List.getElem?_of_mem h;exact(Jek hk).2.2
theorem Jay.find {p:Pr} (h:Jay p) {q:Qe} (hq:q∈p.eqs):∃(j:Nat) (v:Va),Jp (Je p) q.name=(j:Int)/\(Je p)[j]?=some v/\v∈Je p/\v.name=q.name/\(v.ck,v.cn)=J9 (Je p) q.name:=by
 obtain⟨v,hv,hf,hn,bO,_⟩:=Ja3 h.clk hq
 rcases Y5 (Je p) q.name with ⟨_,h2⟩|⟨k,u,h1,h2,h3⟩
 ·rw [hf] at h2;cases h2
 ·rw [hf] at h3;injection h3 with h3;subst h3;exact⟨k,v,h1,h2,hv,hn,bO.symm⟩
section
variable {sl sl':ByteArray->Int} {fl:Int×ByteArray->Int} {L:List Va}
namespace Ex
theorem Jnh {k:Int} {s:ByteArray} {c:Int×ByteArray} : ∀(r:List Ex) (i:Nat),(∀x∈r,∀c,x.gen sl fl c=x.gen sl' fl c)->genL sl fl k s c i r=genL sl' fl k s c i r
 | [],i,_=>by rw [genL,genL]
 | x :: r,i,h=>by rw [genL,genL,h x Ul,Jnh r (i+1) fun y hy=>h y F0]
theorem Jwx {e:Ex} (hf:e.formed=true) (ht:(e.typ L).2=0) (hk:e.kind=3\/e.kind=10):∃v∈L,v.name=e.name:=by
 rw [typ_eq] at ht
 by_cases hr:(typL L e.sub).2=0
 ·rw [if_pos hr] at ht
  have aS:e.name.toList.isEmpty=false:=by
   rcases Jh0 hf with ⟨_,h⟩|⟨h,_⟩
   ·exact Jbx h
   ·exact Ua
  have lC:(K7 L e.name).2=true:=by
   exact Ugi
  unfold K7 at lC
  cases hv:Qi L e.name with
  | none=>rw [hv] at lC;simp at lC
  | some i=>
   obtain⟨k,v,_,dz,hn⟩:=Zi hv;exact⟨v,Ni dz,hn⟩
 ·rw [if_neg hr] at ht;exact absurd ht hr
theorem gen_same (hs:∀v∈L,sl v.name=sl' v.name) (e:Ex):e.formed=true->(e.typ L).2=0->∀c,e.gen sl fl c=e.gen sl' fl c:=by
 induction e using ind with
 | h e ih=>
  intro hf ht c
  have aT:(typL L e.sub).2=0:=by
   have xt:=ht;rw [typ_eq] at xt
   by_cases hr:(typL L e.sub).2=0
   ·exact hr
   ·rw [if_neg hr] at xt;exact absurd xt hr
  have hg:genL sl fl e.kind e.name c 0 e.sub=genL sl' fl e.kind e.name c 0 e.sub:=Jnh e.sub 0 fun x hx=>ih x hx (Q9 hf x hx) (Jpf e.sub aT x hx);rw [gen_eq,gen_eq,hg]
  have hn:e.kind=3\/e.kind=10->sl e.name=sl' e.name:=fun hk=>by
   obtain⟨v,hv,he⟩:=Jwx hf ht hk;rw [<-he];exact hs v hv
  unfold Jae
  by_cases h3:e.kind=3
  ·rw [if_pos h3,if_pos h3,hn (.inl h3)]
  by_cases bM:e.kind=10
  ·rw [if_neg Ua,if_neg Ua,if_neg Ua,if_neg Ua,if_neg Ua,if_neg Ua,if_pos bM,if_neg Ua,if_neg Ua,if_neg Ua,if_neg Ua,if_neg Ua,if_neg Ua,if_pos bM,hn (.inr bM)]
  ·rw [if_neg h3,if_neg h3]
   repeat' split
   all_goals first|rfl|(exact absurd ‹e.kind=10› bM)
end Ex
theorem Jk1 {c:Int×ByteArray} {x x':List (Int×Int)} (hx:x=x') (h:c.1=1\/c.1=2->sl c.2=sl' c.2):Qk sl c x=Qk sl' c x':=by
 subst hx;unfold Qk
 by_cases h1:c.1=1
 ·rw [if_pos h1,if_pos h1,h (.inl h1)]
 ·rw [if_neg h1,if_neg h1]
  by_cases h2:c.1=2
  ·rw [if_pos h2,if_pos h2,h (.inr h2)]
  ·rw [if_neg h2,if_neg h2]
theorem Jna:∀(l:List Va) (i:Nat),(∀v∈l,sl v.name=sl' v.name)->Yh sl i l=Yh sl' i l
 | [],_,_=>rfl
 | v :: r,i,h=>by rw [Yh,Yh,h v Ul,Jna r (i+1) fun x hx=>h x Fz]
theorem Jmu:∀(l:List Va) (i:Nat),(∀v∈l,sl v.name=sl' v.name)->Xl sl i l=Xl sl' i l
 | [],_,_=>rfl
 | v :: r,i,h=>by rw [Xl,Xl,h v Ul,Jmu r (i+1) fun x hx=>h x Fz]
theorem Jlg:∀(l:List Ce) (i:Nat),(∀c∈l,c.name.toList.isEmpty=false->sl c.name=sl' c.name)->Xx sl i l=Xx sl' i l
 | [],_,_=>rfl
 | c :: r,i,h=>by
  rw [Xx,Xx,Jlg r (i+1) fun x hx=>h x Fz]
  cases hn:c.name.toList.isEmpty
  ·rw [h c Ul hn]
  ·rw [if_pos rfl,if_pos rfl]
theorem Jnl {eqs:List Qe} (h:∀q∈eqs,sl q.name=sl' q.name/\(∀c,q.e.gen sl fl c=q.e.gen sl' fl c)/\((J9 L q.name).1=1\/(J9 L q.name).1=2->sl (J9 L q.name).2=sl' (J9 L q.name).2)):∀l:List Int,Xd sl fl L eqs l=Xd sl' fl L eqs l
 | []=>rfl
 | j :: r=>by
  rw [Xd,Xd,Jnl h r]
  cases hx:eqs[j.toNat]? with
  | none=>rfl
  | some q=>
   obtain⟨h1,h2,h3⟩:=h q (Ni hx);dsimp only;rw [Jk1 (sl:=sl) (sl':=sl') (x:=q.e.gen sl fl (J9 L q.name) ++ [(3,sl q.name)]) (x':=q.e.gen sl' fl (J9 L q.name) ++ [(3,sl' q.name)]) (by rw [h1,h2]) h3]
theorem Jsr {eqs:List Qe} {c:Ce} (h:∀q∈eqs,∀c,q.e.gen sl fl c=q.e.gen sl' fl c) (x:List (Int×Int)):Zm sl fl c x eqs=Zm sl' fl c x eqs:=by
 induction eqs generalizing x with
 | nil=>rfl
 | cons q r ih=>
  unfold Zm at ih ⊢;rw [List.foldl_cons,List.foldl_cons,h q Ul];exact ih (fun y hy=>h y F0) _
theorem Jlz {eqs:List Qe} (h:∀q∈eqs,∀c,q.e.gen sl fl c=q.e.gen sl' fl c):∀(l:List Ce) (i:Nat),(∀c∈l,c.ck=1\/c.ck=2->sl c.cn=sl' c.cn)->Xw sl fl eqs i l=Xw sl' fl eqs i l
 | [],_,_=>rfl
 | c :: r,i,hc=>by
  rw [Xw,Xw,Jlz h r (i+1) fun x hx=>hc x Fz];rw [Jk1 (sl:=sl) (sl':=sl') (c:=(c.ck,c.cn)) (by rw [Jsr h]) (hc c Ul)]
end
def Jxi (sl:ByteArray->Int) (p:Pr):List (Int×Int):=
 Yh sl 0 p.ins ++ Xx sl 0 (Jq p) ++ Xd sl (Kg (Jq p)) (Je p) p.eqs (J1 p).1 ++ Xw sl (Kg (Jq p)) p.eqs 0 (Jq p) ++ Xl sl 0 p.outs
theorem Jay.clockIn {p:Pr} (h:Jay p) {q:Qe} (hq:q∈p.eqs):(J9 (Je p) q.name).1=1\/(J9 (Je p) q.name).1=2->∃u∈Je p,u.name=(J9 (Je p) q.name).2:=by
 obtain⟨v,_,_,_,bO,nk⟩:=Ja3 h.clk hq;rw [bO];dsimp only;intro h1
 rcases nk with ⟨h2,_⟩|⟨_,_,h3⟩
 ·exact Ua
 ·exact h3
theorem Jw6 {p:Pr} (h:Jay p):Jxi (Jp (Je p)) p=Xs p:=by
 rw [<-Jwo h];have hs:∀v∈Je p,Jp (Je p) v.name=Xu (Je p) v.name:=fun v hv=>Jp1 hv
 have hn:∀q∈p.eqs,Jp (Je p) q.name=Xu (Je p) q.name:=fun q hq=>by
  obtain⟨_,v,_,_,hv,he,_⟩:=h.find hq;rw [<-he];exact hs v hv
 have hg:∀q∈p.eqs,∀c,q.e.gen (Jp (Je p)) (Kg (Jq p)) c=q.e.gen (Xu (Je p)) (Kg (Jq p)) c:=fun q hq=>Ex.gen_same hs q.e (h.eqs q hq).formed ((Xp h.chk).2.2 q hq)
 have hk:∀q∈p.eqs,(J9 (Je p) q.name).1=1\/(J9 (Je p) q.name).1=2->Jp (Je p) (J9 (Je p) q.name).2=Xu (Je p) (J9 (Je p) q.name).2:=fun q hq h1=>by
  obtain⟨u,hu,he⟩:=h.clockIn hq h1;rw [<-he];exact hs u hu
 have ev:∀c∈Jq p,(c.name.toList.isEmpty=false->Jp (Je p) c.name=Xu (Je p) c.name)/\(c.ck=1\/c.ck=2->Jp (Je p) c.cn=Xu (Je p) c.cn):=fun c hc=>by
  unfold Jq at hc
  rcases List.mem_append.1 hc with hc|hc
  ·obtain⟨q,hq,rfl⟩:=List.mem_map.1 hc;have je:=(Z4 hq).1;exact⟨fun _=>hn q je,hk q je⟩
  ·have aL:=Jjn _ _ c hc;refine⟨fun h0=>absurd (aL.symm.trans h0) Ux,fun h1=>?_⟩;unfold Kaq at hc;obtain⟨d,hd,rfl⟩:=List.mem_map.1 hc;have gN:d∈X3 (Je p):=(List.mem_filter.1 hd).1;unfold X3 at gN
   rcases List.mem_cons.1 gN with rfl|gN
   ·unfold Jb6 at h1;dsimp only at h1;omega
   ·obtain⟨v,hv,h2⟩:=Jfn.1 gN
    rcases h2 with rfl|rfl
    ·exact hs v hv
    ·exact hs v hv
 have dV:∀v∈p.ins,v∈Je p:=fun v hv=>by unfold Je;simp [hv]
 have ww:∀v∈p.outs,v∈Je p:=fun v hv=>by unfold Je;simp [hv]
 unfold Jxi Jr9;rw [Jna p.ins 0 fun v hv=>hs v (dV v hv),Jlg (Jq p) 0 fun c hc=>(ev c hc).1,Jnl (L:=Je p) (eqs:=p.eqs) fun q hq=>⟨hn q hq,hg q hq,hk q hq⟩,Jlz hg (Jq p) 0 fun c hc=>(ev c hc).2,Jmu p.outs 0 fun v hv=>hs v (ww v hv)]
end Go.Proofs.YtknfcamdfdfoeaaGreatDoor
namespace Go.Proofs.YtknfcamdfdfoeaaGreatDoor
open Go.RowKit Go.Sort
theorem Jyt:(Tryz.prog.info? 87).map (fun i=>(i.zero,i.size,i.bytes))=some (some (.agg #[.string ⟨#[]⟩,.int .i64 0,.string ⟨#[]⟩,.int .i32 0]),4,48):=Ug
theorem Juc (p:Pr) (a:PrA) (w:World) (f:Int×Int×Int) (aS:f.2.2≠0) (dK:∀W,Below w.heap.size w W->Calls Tryz.prog 48 #[prV p a] W fun r w'=>r = .returned (fV f)/\Below W.heap.size W w') :
  Calls Tryz.prog 25 #[prV p a] w fun r w'=>r = .returned (.tuple #[.slice none 0 0,fV f])/\Below w.heap.size w w':=by
 obtain⟨A1,c1,A2,c2,A3,c3,A4,c4⟩:=a;obtain⟨k1,k2,k3⟩:=f;unfold prV fV at *;dsimp only at *;have t1:(k3 != 0)=true:=Se;clear aS
 go_enter Tryz.func25,Tryz.ntmps25
 go_wp2_with (first|(go_at_call 48;refine(dK _ Jb).mono ?_;rintro r wa ⟨rfl,aA⟩;have aW:=Jg aA;have bS:=Jf aA;have cN:w.heap.size+2<=wa.heap.size:=Ut;have dG:=lt0 w wa;have aX:=ltA w 1 wa))
 go_region
 all_goals
  go_wp2_with fail
  refine Nv (v:= .tuple #[.slice none 0 0,.agg #[.int .i64 k1,.int .i64 k2,.int .i64 k3]]) Gr rfl ⟨rfl,?_⟩
  (repeat refine Jh ?_)
  exact Km
theorem Jjq {h:Qe->Bool} : ∀(l:List Qe) (k:Nat),Zg h k l≠(0,0,0)->(Zg h k l).2.2≠0
 | [],k,hn=>absurd rfl hn
 | q :: r,k,hn=>by
  rw [Zg] at hn ⊢
  by_cases hq:h q=true
  ·rw [if_pos hq];show(23:Int)≠0;decide
  ·rw [if_neg hq] at hn ⊢;exact Jjq r (k+1) hn
theorem Jkq {p:Pr} (h:Ks p≠(0,0,0)):(Ks p).2.2≠0:=by
 unfold Ks at h ⊢
 by_cases hO:(J1 p).2=(0,0,0)
 ·rw [if_pos hO] at h ⊢;exact Jjq _ _ h
 ·rw [if_neg hO];exact Jpj hO
def Je7 (p:Pr) (w:World) (r:Ending) (w':World):Prop:=(∃v,r = .returned (.tuple #[v,fV (Kf p).2])/\w'.ownsRow w.heap.size 87 4 v (Kf p).1.length (X7 (Kf p).1))/\Below w.heap.size w w'
theorem Jtc (p:Pr) (a:PrA) (w:World) (hp:Kr w p a) (aw:Q4 p) (n1:p.ins.length<=1000000) (n2:p.outs.length<=1000000) (n3:p.locals.length<=1000000) (n4:p.eqs.length<=1000000) (aN:Ks p=(0,0,0)) :
  Calls Tryz.prog 25 #[prV p a] w (Je7 p w):=by
 have bO:=Jff aN;have dK:=fun W h=>Jjw p a W (hp.later h) aw n1 n2 n3 n4;have aJ:=fun W h=>Z3 p a W (hp.later h) n1 n2 n3;rw [aN] at dK;have hcE:Kf p=if 16<(Jq p).length then([],(4,0,3)) else(Jq p,(0,0,0)):=by unfold Kf;rw [if_pos aN]
 have qO:=Nf hp.eqs;have kc:=Nf aw.eqs;have rk:=Nf hcE;have cG:=hp.eqs.len;unfold maxLen at cG;obtain⟨fT,fU⟩:=cG;obtain⟨A1,c1,A2,c2,A3,c3,A4,c4⟩:=a;unfold prV fV at *;dsimp only at *;clear aN hp aw hcE
 go_enter Tryz.func25,Tryz.ntmps25
 go_wp2_with (first
  | (go_at_call 48;refine(dK _ Jb).mono ?_;rintro r wa ⟨rfl,aA⟩;have aW:=Jg aA;have bS:=Jf aA;have cN:w.heap.size+2<=wa.heap.size:=Ut;have dG:=lt0 w wa;have aX:=ltA w 1 wa)
  | (go_at_call 26;go_loud (refine(aJ _ Jb).mono ?_;rintro r wv ⟨⟨Av,cv,rfl,ay⟩,dB⟩;have ky:=Jg dB;have lc:=Jf dB;have rP:wa.heap.size+1<=wv.heap.size:=D1;have hyv:=lt0 w wv;have mt:=ltA w 1 wv;have cR:=Ju.of_own ay;clear ay)))
 refine Jo fun W0 ag=>?_;have ax:=Nd w W0 Uo;have bE:Ju W0 (Je p) Av cv:=Do;have bD:w.heap.size+1<W0.heap.size:=by rw [ag];exact mt
 have rx:=lt0 w W0;have p4:=Nb W0 w.heap.size 4 (.slice A4 p.eqs.length c4) Uc;have g0:=Na W0 (w.heap.size+1) 0 0 Uc;have g1:=Na W0 (w.heap.size+1) 1 0 Uc;have g2:=Na W0 (w.heap.size+1) 2 0 Uc;have f0:=Nc W0 (w.heap.size+1) 0 Uc;have f1:=Nc W0 (w.heap.size+1) 1 Uc;have f2:=Nc W0 (w.heap.size+1) 2 Uc;have cY:=bE.len;unfold maxLen at cY;obtain⟨fH,fI⟩:=cY;have hL3:(Je p).length<=24:=bO.small.2.2.1;have hQ3:p.eqs.length<=24:=bO.small.2.2.2;have cC:=Nf bO;generalize qR:Je p=L at *;have wJ:=Nf qR;clear ag aW bS cN dG aX ky lc rP hyv mt cR dK aJ aA dB bO qR;have vw:=Jyt
 go_loopw [6,7,8] (fun V M i wr=>∃(k:Nat),k<=p.eqs.length/\i = .int .i64 k/\Hid (wr.ownsRow W0.heap.size 87 4 V ((J0 (p.eqs.take k)).map (Xm L)).length (X7 ((J0 (p.eqs.take k)).map (Xm L))))/\Hid (wr.ownsRow W0.heap.size 55 2 M (Jad L (p.eqs.take k)).length (Zl (Jad L (p.eqs.take k))))/\(Jad L (p.eqs.take k)).length<=120 * k/\Hid (∀b,M.ownBlock=some b->V.ownBlock≠some b)/\Below W0.heap.size W0 wr) (fun _ _ i _=>p.eqs.length-(intOf i).toNat)
 case atStart=>exact⟨0,Np,rfl,Nf (Nw),Nf (Nw),Np,Nf (fun b hb=>by cases hb),Nt⟩
 case round=>
  obtain⟨k,hk,rfl,ae,fL,jH,qf,ab⟩:=hrel;have dh:=Nd w wr (Jn ax ab Ua);have bu:=ab.size;have lu:=lt0 w wr;have ud:=ltA w 1 wr;have hc:=Jg ab
  by_cases am:k<p.eqs.length
  ·have hx:p.eqs[k]?=some p.eqs[k]:=Ng am;have aj:p.eqs[k]∈p.eqs:=Nj am;have aP:p.eqs.take (k+1)=p.eqs.take k ++ [p.eqs[k]]:=U6;generalize p.eqs[k]=q at hx aj aP;have cM:=cC.out.eqs q aj;obtain⟨j,v,cL,oE,_,_,mW⟩:=cC.out.find aj;rw [wJ.out] at cL oE mW;have rL:=kc.out q aj;obtain⟨b,off,B1,k1,B2,k2,rfl,bG,⟨g0,g1,g2,g3,g4,g5,g6,g7,g8,g9,sf,se⟩⟩:=(qO.out.later ax).get hx;have d0:=Ja ab g0;have d1:=Ja ab g1;have d2:=Ja ab g2;have d3:=Ja ab g3;have d4:=Ja ab g4;have d5:=Ja ab g5;have d6:=Ja ab g6;have d7:=Ja ab g7;have d8:=Ja ab g8;have d9:=Ja ab g9;have dZ:b<wr.heap.size:=Ua;have mX:j<L.length:=(Nh oE).1;obtain⟨bv,ov,rfl,dB,⟨e0,e1,e2,e3⟩⟩:=(bE.later ab).get oE;have jS:=fun W hb=>Xa L (some ⟨bv,ov,none⟩) cv q.name W ((bE.later ab).later hb);rw [cL] at jS;have iU:Jad L (p.eqs.take (k+1))=q.e.arrs (Jad L (p.eqs.take k)) (v.ck,v.cn):=by rw [aP,mW];unfold Jad;rw [List.foldl_append];rfl
   have harrl:=Ex.arrs_len q.e (Jad L (p.eqs.take k)) (v.ck,v.cn)
   have kY:(J0 (p.eqs.take (k+1))).map (Xm L)=(J0 (p.eqs.take k)).map (Xm L) ++ (if (q.delay != 0)=true then [Xm L q] else []):=by
    exact Ucn
   have hcql:((J0 (p.eqs.take k)).map (Xm L)).length<=k:=by
    rw [List.length_map];have:=Ja4 (p.eqs.take k);rw [List.length_take] at this;exact Ua
   have mp:Xm L q=⟨q.name,v.ck,v.cn,Jai q.first⟩:=by unfold Xm;rw [<-mW]
   have ga:=Jqj W0 q.e B2 k2 (v.ck,v.cn) se;have cU:=fun W (hb:Below W0.heap.size W0 W)=>Jop q.first B1 k1 W (sf.later hb) rL.2.2.1 cM.first;have cE:=cM.size;have ek:=cM.delay;have vx:=cM.pre;unfold exV kvC at ga;unfold exV at cU;dsimp only at ga;have gD:=Nf iU;have gE:=Nf kY;have rM:=Nf mp;have uT:=Nf cU;have HPRE:=Nf vx;have HDL:=Nf ek;clear iU kY mp cU vx ek hx aj aP oE mW rL g0 g1 g2 g3 g4 g5 g6 g7 g8 g9 sf se cM cL e0 e1 bG;generalize Jad L (p.eqs.take k)=ml at *;generalize (J0 (p.eqs.take k)).map (Xm L)=csl at *;have eU:=fL.out;have tj:(0:Int)<=(j:Int):=Ua;have hmb:∀b,u7.ownBlock=some b->b<wr.heap.size:=fun b hb=>(eU.lt b hb).2;have HMB:=Nf hmb;clear hmb
   go_upto_region 13 with (first
    | (go_at_call 49;go_loud (refine(jS _ Jb).mono ?_;rintro r w1 ⟨rfl,ac⟩;have ak:=Jg ac;have af:wr.heap.size+1<=w1.heap.size:=V9;have dG:=lt0 w w1;have kh:=lt0 wr w1;have qZ:bv<w1.heap.size:=Ua))
    | (go_at_call 50;go_loud (refine(ga _ u7 ml Jb Udk Ua).mono ?_;rintro r w3 ⟨⟨v3,rfl,aE,iM⟩,bJ⟩)))
   refine Jo fun V hV=>?_;have bt:=Nd wr w1 ((Jc (Nt) _).trans (ac.mono Ul));have kp:∀k,wr.heap.size<=k->some k≠u7.ownBlock:=fun k hk he=>by have:=HMB.out k he.symm;omega
   have ld:w1.grownBy w3 u7.ownBlock:=Kv (K0 (Jc (Nt) _)) bJ;have mQ:w1.heap.size<V.heap.size:=by rw [hV];have:=bJ.size;simp at this;omega
   have hgV:wr.grownBy V u7.ownBlock:=by rw [hV];exact Kv (K0 bt) ld
   have q0:=Nb V wr.heap.size 0 (.string q.name) Udm;have q1:=Na V wr.heap.size 1 q.delay Udm;have q2:=Na V wr.heap.size 2 q.first.kind Udm;have q3:=Nb V wr.heap.size 3 (.int .i32 q.first.n) Udm;have q4:=Nb V wr.heap.size 4 (.string q.first.name) Udm;have q5:=Nb V wr.heap.size 5 (.slice B1 q.first.sub.length k1) Udm;have x0:=Na V w1.heap.size 0 v.ck Udv;have x1:=Nb V w1.heap.size 1 (.string v.cn) Udv;have sY:V.ownsRow W0.heap.size 55 2 v3 (q.e.arrs ml (v.ck,v.cn)).length (Zl (q.e.arrs ml (v.ck,v.cn))):=by rw [hV];exact aE
   have bK:=Nd W0 V (J2 ab hgV (fun b hb=>(eU.lt b hb).1) Ua);have hbVw:=Nd w V (Jn ax bK Ua);have sZ:V.ownsRow W0.heap.size 87 4 u6 csl.length (X7 csl):=X5 ae.out hgV qf.out;have el:∀b,u6.ownBlock=some b->b<wr.heap.size:=fun b hb=>(ae.out.lt b hb).2
   have hD:∀b,v3.ownBlock=some b->u6.ownBlock≠some b:=by
    rcases iM with h|h
    ·intro b hb;rw [h] at hb;exact qf.out b hb
    ·intro b hb he;have h1:=h b hb;have h2:=el b he;simp at h1;omega
   have hzr2:=lt0 wr V;have ta:=fun W (hb:Below V.heap.size V W)=>uT.out W (Jn bK hb Ua);have HLV:=Nf ta;have HOC:=Nf sZ;have HOM:=Nf sY;have HDD:=Nf hD;generalize w1.heap.size=X at *;generalize q.e.arrs ml (v.ck,v.cn)=ml2 at *;clear hV bJ ld hgV sY sZ hD ta ae fL eU qf aE iM ac bt ak hc jS ga d0 d1 d2 d3 d4 d5 d6 d7 d8 d9 e2 e3 kp
   rcases HDL.out with lA|js|gN
   ·have t1:(q.delay == 1)=false:=by rw [lA];rfl
    have t2:(q.delay == 2)=false:=by rw [lA];rfl
    have et:(J0 (p.eqs.take (k+1))).map (Xm L)=csl:=by rw [gE.out,lA];simp
    have qg:=Nf et;clear lA et gE
    go_wp2_with fail
    go_roundw
    case rel=>exact⟨k+1,Ua,Up,Nf (by rw [qg.out];exact HOC.out),Nf (by rw [gD.out];exact HOM.out),by rw [gD.out];omega,HDD,bK⟩
    case measure=>simp [intOf];omega
   ·have t1:(q.delay == 1)=true:=by rw [js];rfl
    have t2:(q.delay == 2)=false:=by rw [js];rfl
    have et:(J0 (p.eqs.take (k+1))).map (Xm L)=csl ++ [⟨q.name,v.ck,v.cn,Jai q.first⟩]:=by rw [gE.out,js,<-rM.out];simp
    have qg:=Nf et
    have hS:∀w',Below V.heap.size V w'->w'.cell? ⟨wr.heap.size,0,none⟩=some (.string q.name)/\w'.cell? ⟨wr.heap.size,1,none⟩=some (.int .i64 q.delay)/\w'.cell? ⟨wr.heap.size,2,none⟩=some (.int .i64 q.first.kind)/\w'.cell? ⟨wr.heap.size,3,none⟩=some (.int .i32 q.first.n)/\w'.cell? ⟨wr.heap.size,4,none⟩=some (.string q.first.name)/\w'.cell? ⟨wr.heap.size,5,none⟩=some (.slice B1 q.first.sub.length k1)/\w'.cell? ⟨X,0,none⟩=some (.int .i64 v.ck)/\w'.cell? ⟨X,1,none⟩=some (.string v.cn):=fun w' hb=>
     ⟨Ja hb q0,Ja hb q1,Ja hb q2,Ja hb q3,Ja hb q4,Ja hb q5,Ja hb x0,Ja hb x1⟩
    have HS:=Nf hS;have ar:=hS V.drew (Jh (Nt));clear js et gE hS
    go_wp2_with fail
    refine Kd (fun w'=>w'.cell? ⟨wr.heap.size,0,none⟩=some (.string q.name)/\w'.cell? ⟨wr.heap.size,1,none⟩=some (.int .i64 q.delay)/\w'.cell? ⟨wr.heap.size,2,none⟩=some (.int .i64 q.first.kind)/\w'.cell? ⟨wr.heap.size,3,none⟩=some (.int .i32 q.first.n)/\w'.cell? ⟨wr.heap.size,4,none⟩=some (.string q.first.name)/\w'.cell? ⟨wr.heap.size,5,none⟩=some (.slice B1 q.first.sub.length k1)/\w'.cell? ⟨X,0,none⟩=some (.int .i64 v.ck)/\w'.cell? ⟨X,1,none⟩=some (.string v.cn)) 10 1 Ug Gd ?_;simp only [List.size_toArray,Nl,Nm,Nat.zero_add,Nat.reduceAdd];refine Ji 0 ar ?_;refine Ji 1 ar ?_;refine Ji 2 ar ?_;refine Ji 3 ar ?_;refine Ji 4 ar ?_;refine Ji 5 ar ?_;refine Kb 6 ?_;refine Jj fun K hK=>?_;go_simp;refine(HLV.out V.drew (Jh (Nt))).mono ?_;rintro r w4 ⟨rfl,ei⟩;dsimp only;have nU:=Nd V w4 (Jd (Jh (Nt)) ei);refine hK _ _ ⟨HS.out _ nU,?_⟩;clear hK K
    try simp only [Act.put,sa1,sa2,sa3]
    have zQ:=HS.out _ nU;refine Ji 7 zQ ?_;refine Kb 8 ?_;refine Jj fun K hK=>?_;go_simp;refine hK _ _ ⟨HS.out _ (Jc nU _),?_⟩;clear hK K
    try simp only [Act.put,sa1,sa2,sa3]
    have qS:=nU.size;refine Kb 9 ?_;refine Jez (.tmp 50) (.tmp 58) 80 rfl W0.heap.size 87 _ 4 48 Tryz.underlying80 vw rfl Ua u6 csl.length (X7 csl) _ 1 1 [.string q.name,.int .i64 v.ck,.string v.cn,.int .i32 (Jai q.first)] rfl (Js (Jy HOC.out nU)) rfl (Qr rfl rfl) Uv Ua Ua (by have:=bK.size;simp;omega) ?_;intro v5 w5 bX eT jr;have eX:V.grownBy w5 u6.ownBlock:=Kv (K0 (Jc nU _)) eT
    have oy:w5.cell? ⟨wr.heap.size,0,none⟩=some (.string q.name)/\w5.cell? ⟨wr.heap.size,1,none⟩=some (.int .i64 q.delay)/\w5.cell? ⟨wr.heap.size,2,none⟩=some (.int .i64 q.first.kind)/\w5.cell? ⟨wr.heap.size,3,none⟩=some (.int .i32 q.first.n)/\w5.cell? ⟨wr.heap.size,4,none⟩=some (.string q.first.name)/\w5.cell? ⟨wr.heap.size,5,none⟩=some (.slice B1 q.first.sub.length k1)/\w5.cell? ⟨X,0,none⟩=some (.int .i64 v.ck)/\w5.cell? ⟨X,1,none⟩=some (.string v.cn):=by
     have hn:∀k,wr.heap.size<=k->some k≠u6.ownBlock:=fun k hk he=>by have:=el k he.symm;omega
     exact⟨Jr (eX.block wr.heap.size Ua (hn _ Ua)) q0,Jr (eX.block wr.heap.size Ua (hn _ Ua)) q1,Jr (eX.block wr.heap.size Ua (hn _ Ua)) q2,Jr (eX.block wr.heap.size Ua (hn _ Ua)) q3,Jr (eX.block wr.heap.size Ua (hn _ Ua)) q4,Jr (eX.block wr.heap.size Ua (hn _ Ua)) q5,Jr (eX.block X Ua (hn _ Ua)) x0,Jr (eX.block X Ua (hn _ Ua)) x1⟩
    refine⟨oy,Kh Ug ?_⟩
    try simp only [Act.put,sa1,sa2,sa3]
    refine Qx 10 ?_;refine Jj fun K hK=>?_;go_simp;refine hK _ _ ?_;clear hK K
    try simp only [Act.put,sa1,sa2,sa3]
    refine Ki Ug ?_;have pH:=Nf bX;have HM5:=Nf (X5 HOM.out eX (Jcu HDD.out))
    have HD5:=Nf (Jmf (v2:=v5) HDD.out (fun b hb=>(HOM.out.lt b hb).2) (by
     rcases jr with h|h
     ·exact .inl h
     ·exact .inr fun b hb=>Fy))
    have da:=Nd W0 w5 (J2 bK eX (fun b hb=>(HOC.out.lt b hb).1) bK.size);have z1:=oy.2.1;clear ar zQ oy bX eT eX jr HS
    go_wp2_with fail
    exact Ubd
   ·have t1:(q.delay == 1)=false:=by rw [gN];rfl
    have t2:(q.delay == 2)=true:=by rw [gN];rfl
    have et:(J0 (p.eqs.take (k+1))).map (Xm L)=csl ++ [⟨q.name,v.ck,v.cn,0⟩]:=by rw [gE.out,gN,rM.out,HPRE.out gN];simp
    have qg:=Nf et;clear gN et gE
    go_wp2_with (at_builtin;go_loud (refine Qv rfl (.tmp 63) (.tmp 68) 80 rfl W0.heap.size 87 _ 4 48 Tryz.underlying80 vw rfl Ua u6 csl.length (X7 csl) _ 1 1 [.string q.name,.int .i64 v.ck,.string v.cn,.int .i32 0] rfl (Js HOC.out) rfl (Qr rfl rfl) Uv Ua Ua (by have:=bK.size;simp;omega) ?_;intro v5 w5 bX eT jr;have eX:V.grownBy w5 u6.ownBlock:=Kv (K0 (Jc (Nt) _)) eT;have pH:=Nf bX;have HM5:=Nf (X5 HOM.out eX (Jcu HDD.out));have HD5:=Nf (Jmf (v2:=v5) HDD.out (fun b hb=>(HOM.out.lt b hb).2) (jr.imp id fun h b hb=>Fy));have da:=Nd W0 w5 (J2 bK eX (fun b hb=>(HOC.out.lt b hb).1) bK.size);clear bX eT eX jr))
    exact Ubd
  ·obtain rfl:k=p.eqs.length:=Ua;obtain⟨W1,rfl⟩:∃W1,W1=wr:=⟨wr,rfl⟩;have dr:=ae.out;have dk:=fL.out;rw [List.take_length] at dr dk jH;have ah:Jq p=(J0 p.eqs).map (Xm L) ++ Kaq (Jad L p.eqs) (X3 L):=by unfold Jq;rw [wJ.out]
   have HCELL:=Nf ah
   have rl:((J0 p.eqs).map (Xm L)).length<=24:=by
    rw [List.length_map];have:=Ja4 p.eqs;exact Ua
   generalize (J0 p.eqs).map (Xm L)=cs0 at *;generalize Jad L p.eqs=Lm at *;have tK:=Nf dr;have iz:=Nf dk;have hva1:=bE.later ab;replace p4:=Ja ab p4;clear ae fL dr dk ah hc
   go_wp2_with fail
   have tc:(W1.alloc (.cells #[.int .i64 0,.string ⟨#[]⟩] 55)).ownsRow W1.heap.size 55 2 (.slice (some ⟨W1.heap.size,0,none⟩) 1 1) (X3 (L.take 0)).length (Zl (X3 (L.take 0))):=
    ⟨rfl,.inr ⟨W1.heap.size,1,#[.int .i64 0,.string ⟨#[]⟩],rfl,Ns _,heap_alloc_new W1 _,Ns _,U2,rfl,rfl⟩⟩
   have th:=Nf tc;clear tc
   go_loopw [11,12] (fun v i wr=>∃(k:Nat),k<=L.length/\i = .int .i64 k/\Hid (wr.ownsRow W1.heap.size 55 2 v (X3 (L.take k)).length (Zl (X3 (L.take k))))/\Below W1.heap.size W1 wr) (fun _ i _=>L.length-(intOf i).toNat)
   case atStart=>exact⟨0,Np,rfl,th,Jc (Nt) _⟩
   case round=>
    clear th;obtain⟨k,dz,rfl,ae,nV⟩:=hrel;have br:=nV.size;have fR:=Joj (L.take k);rw [List.length_take] at fR
    by_cases dO:k<L.length
    ·have hx:L[k]?=some L[k]:=Ng dO;generalize L[k]=x at hx;have zV:=Jnf hx;obtain⟨b,off,rfl,bG,⟨d0,d1,d2,d3⟩⟩:=(hva1.later nV).get hx;have HAL:=Nf zV;clear hx zV d1 d2 d3;generalize X3 (L.take k)=al at *;have hS:∀w',Below wr.heap.size wr w'->w'.cell? ⟨b,off+k * 4,none⟩=some (.string x.name):=fun w' hb=>Ja hb d0;have HS:=Nf hS;have ar:=hS wr.drew (Jh (Nt));clear hS
     go_wp2_with fail
     refine Kd (fun w'=>w'.cell? ⟨b,off+k * 4,none⟩=some (.string x.name)) 14 2 Ug Gd ?_;simp only [List.size_toArray,Nl,Nm,Nat.zero_add,Nat.reduceAdd];refine Ji 0 ar ?_;refine Ji 1 ar ?_;refine Ji 2 ar ?_;refine Ji 3 ar ?_;refine Ji 4 ar ?_;refine Ji 5 ar ?_;refine Ji 6 ar ?_;refine Ji 7 ar ?_;refine Ji 8 ar ?_;refine Ji 9 ar ?_;refine Ji 10 ar ?_;refine Ji 11 ar ?_;refine Ji 12 ar ?_;refine Kb 13 ?_;refine Jj fun K hK=>?_;go_simp;refine hK _ _ ⟨HS.out _ (Jc (Jh (Nt)) _),?_⟩;clear hK K
     try simp only [Act.put,sa1,sa2,sa3]
     refine Kh Ug ?_;refine Qx 14 ?_;refine Jez (.tmp 78) (.tmp 91) 122 rfl W1.heap.size 55 _ 2 24 Tryz.underlying122 Jes rfl Ua u11 al.length (Zl al) _ 2 2 [.int .i64 1,.string x.name,.int .i64 2,.string x.name] rfl (Js (Kp ae.out)) rfl (Qr rfl rfl) Uv Ua Ua Uj ?_;intro v5 w5 bX eT jr
     try simp only [Act.put,sa1,sa2,sa3]
     refine Qx 15 ?_;refine Jj fun K hK=>?_;go_simp;refine hK _ _ ?_;clear hK K
     try simp only [Act.put,sa1,sa2,sa3]
     refine Ki Ug ?_;have pH:=Nf bX;have da:=Nd W1 w5 (J2 (Jc (Jh nV) _) eT (fun b hb=>(ae.out.lt b hb).1) Uj);clear ar bX eT jr HS
     go_wp2_with fail
     go_roundw
     case rel=>exact⟨k+1,Ua,Up,Nf (by rw [HAL.out,Jip,Jip,Nk,Nk,List.append_assoc];exact pH.out),da⟩
     case measure=>simp [intOf];omega
    ·obtain rfl:k=L.length:=Ua;obtain⟨W2,rfl⟩:∃W2,W2=wr:=⟨wr,rfl⟩;have oC:=ae.out;rw [List.take_length] at oC fR;generalize X3 L=al at *;have le:al.length<=100:=Ua;clear fR;have dr:=Jy tK.out nV;have dk:=Jy iz.out nV;have vA:∀b,u6.ownBlock=some b->W0.heap.size<=b/\b<W1.heap.size:=fun b hb=>tK.out.lt b hb;have hS3n:∀b,u11.ownBlock=some b->W1.heap.size<=b:=fun b hb=>(oC.lt b hb).1;have rN:=Nd W0 W2 (Jn ab nV Ua);have HD2:=Nf (Jcu qf.out);have HS1':=Nf dr;have HS2':=Nf dk;have HS3':=Nf oC;obtain⟨Am,cm,rfl,hcm1,nO⟩:=Jv dk;obtain⟨Aa,ca,rfl,hca1,hca2⟩:=Jv oC;unfold maxLen at nO hca2;have vB:∀b,u6.ownBlock=some b->(Value.slice Aa al.length ca).ownBlock≠some b:=fun b hb he=>by have:=vA b hb;have:=hS3n b he;omega
     have HS13:=Nf (Jcu vB);have HS31:=Nf vB;clear dr dk oC ae tK iz qf hva1 p4 hS3n vB
     go_wp2_with fail
     obtain⟨VO,sL⟩:∃VO,VO=u6:=⟨_,rfl⟩;rw [<-sL] at HS1' HD2 HS13 HS31 vA
     go_loopw [6,13] (fun V i wr=>∃(k:Nat),k<=al.length/\i = .int .i64 k/\Hid (wr.ownsRow W0.heap.size 87 4 V (cs0 ++ Kaq Lm (al.take k)).length (X7 (cs0 ++ Kaq Lm (al.take k))))/\Hid (V.ownBlock=VO.ownBlock\/∀b,V.ownBlock=some b->W2.heap.size<=b)/\Hid (W2.grownBy wr VO.ownBlock)) (fun _ i _=>al.length-(intOf i).toNat)
     case atStart=>exact⟨0,Np,rfl,Nf (by rw [List.take_zero,<-sL];simpa [Kaq] using HS1'.out),Nf (.inl (by rw [sL])),Nf (Zj _ _)⟩
     case round=>
      obtain⟨k,dU,rfl,aE,mZ,mu⟩:=hrel;have fe:=mu.out.size;have en:=Nd W0 wr (J2 rN mu.out (fun b hb=>(vA b hb).1) rN.size);have lu:=lt0 w wr;have ud:=ltA w 1 wr;have gM:=Jj0 Lm (al.take k);rw [List.length_take] at gM;have na:(cs0 ++ Kaq Lm (al.take k)).length<=1000:=Li;have qX:=X5 HS2'.out mu.out (Jcu (Jcu HD2.out));have jw:=X5 HS3'.out mu.out HS31.out
      by_cases jp:k<al.length
      ·have hx:al[k]?=some al[k]:=Ng jp;have aP:al.take (k+1)=al.take k ++ [al[k]]:=by rw [List.take_succ_eq_append_getElem jp]
       generalize al[k]=x at hx aP;have iy:Kaq Lm (al.take (k+1))=if inC Lm x=true then Kaq Lm (al.take k) ++ [Jb6 x] else Kaq Lm (al.take k):=by rw [aP,Jc1]
       obtain⟨xk,xs⟩:=x;obtain⟨_,_,nI,aN⟩:=Jfm.of_own jw;injection nI with e1 e2 e3;subst e1 e3;obtain⟨b,off,rfl,cB⟩:=aN.2.2.2 Ua;have aY:=Jl9 al k (xk,xs) hx;have d0:=Na wr b (off+k * 2) xk (cB _ _ aY.1);have d1:=Nb wr b (off+k * 2+1) (.string xs) (cB _ _ aY.2);have aH:=Nu d0;obtain⟨_,_,nI,fG⟩:=Jfm.of_own qX;injection nI with e1 e2 e3;subst e1 e3;have mw:=fun W hb=>Jq0 Lm Am cm xk xs W (fG.later hb);obtain⟨vb,hU⟩:∃vb,inC Lm (xk,xs)=vb:=⟨_,rfl⟩;rw [hU] at iy mw;have mL:=Nf iy;have HG3:=Nf mu.out;have lw:∀b',u6.ownBlock=some b'->W0.heap.size<=b':=fun b' gr=>(aE.out.lt b' gr).1;clear hx aP iy aN cB aY qX jw fG hU mu;generalize Kaq Lm (al.take k)=fl at *;generalize bO:cs0 ++ fl=cl at *;have mK:=Nf bO;clear bO
       cases vb
       ·go_wp2_with (first|(go_at_call 52;go_loud (refine(mw _ Jb).mono ?_;rintro r w1 ⟨rfl,ac⟩)))
        go_roundw
        case rel=>exact⟨k+1,Ua,Up,Nf (by rw [mL.out,if_neg Ul,mK.out];exact Jy aE.out ac),mZ,Nf (Kv HG3.out (K0 ac))⟩
        case measure=>simp [intOf];omega
       ·go_wp2_with (first
         | (go_at_call 52;go_loud (refine(mw _ Jb).mono ?_;rintro r w1 ⟨rfl,ac⟩;have ak:=Jg ac;have af:=ac.size))
         | (at_builtin;go_loud (refine Qv rfl (.tmp 105) (.tmp 111) 80 rfl W0.heap.size 87 _ 4 48 Tryz.underlying80 vw rfl Ua u6 cl.length (X7 cl) _ 1 1 [.string ⟨#[]⟩,.int .i64 xk,.string xs,.int .i32 0] rfl (Js (Jy aE.out ac)) rfl (Qr rfl rfl) Uv Ua Ua (by have:=en.size;simp;omega) ?_;intro v5 w5 bX eT jr;have eX:wr.grownBy w5 u6.ownBlock:=Kv (K0 (Jc ac _)) eT;have pH:=Nf bX;have HG5:=Nf (Jib HG3.out eX mZ.out);have HB5:Hid (v5.ownBlock=VO.ownBlock\/∀b,v5.ownBlock=some b->W2.heap.size<=b):=Nf (by
           rcases jr with h|h
           ·rw [h];exact mZ.out
           ·exact .inr fun b hb=>Fy);clear bX eT eX jr)))
        go_roundw
        case rel=>exact⟨k+1,Ua,Up,Nf (by rw [mL.out];simp only [if_true];rw [<-List.append_assoc,mK.out,show X7 (cl ++ [Jb6 (xk,xs)])=X7 cl ++ [.string ⟨#[]⟩,.int .i64 xk,.string xs,.int .i32 0] from Jdy _ _,Nk];exact pH.out),HB5,HG5⟩
        case measure=>simp [intOf];omega
      ·obtain rfl:k=al.length:=Ua;have ay:=aE.out;rw [List.take_length,<-HCELL.out] at ay na;obtain⟨Ae,ce,rfl,zY,rO⟩:=Jv ay;unfold maxLen at rO;have jh:=Nd w wr (Jn ax en Ua);have g0':=Ja en g0;have g1':=Ja en g1;have g2':=Ja en g2;have f0':=(Jf en (w.heap.size+1) 0 Ua).trans f0;have f1':=(Jf en (w.heap.size+1) 1 Ua).trans f1;have f2':=(Jf en (w.heap.size+1) 2 Ua).trans f2;have HOE:=Nf (K8 ay (B':=w.heap.size) Ua);have mq:∀b,(Value.slice Ae (Jq p).length ce).ownBlock=some b->b≠w.heap.size+1:=fun b hb he=>by have:=(ay.lt b hb).1;omega
       clear ay aE mZ mu qX jw g0 g1 g2 f0 f1 f2 gM
       by_cases dP:16<(Jq p).length
       ·have pU:(16:Int)<((Jq p).length:Int):=Ua
        go_wp2_with fail
        refine Nv (v:= .tuple #[.slice none 0 0,.agg #[.int .i64 4,.int .i64 0,.int .i64 3]]) Gr rfl ?_;unfold Je7;rw [rk.out,if_pos dP];exact⟨⟨_,rfl,Nw⟩,Mq⟩
       ·have pU:¬(16:Int)<((Jq p).length:Int):=Ua
        go_wp2_with fail
        refine Nv (v:= .tuple #[.slice Ae (Jq p).length ce,.agg #[.int .i64 0,.int .i64 0,.int .i64 0]]) Gr rfl ?_;unfold Je7;rw [rk.out,if_neg dP];exact⟨⟨_,rfl,Kn (Kn (Kn HOE.out mq 0 _) mq 1 _) mq 2 _⟩,Mq⟩
theorem Jkw (p:Pr) (a:PrA) (w:World) (hp:Kr w p a) (aw:Q4 p) (n1:p.ins.length<=1000000) (n2:p.outs.length<=1000000) (n3:p.locals.length<=1000000) (n4:p.eqs.length<=1000000) :
  Calls Tryz.prog 25 #[prV p a] w (Je7 p w):=by
 by_cases hS:Ks p=(0,0,0)
 ·exact Jtc p a w hp aw n1 n2 n3 n4 hS
 ·refine(Juc p a w (Ks p) (Jkq hS) fun W h=>Jjw p a W (hp.later h) aw n1 n2 n3 n4).mono ?_;rintro r w' ⟨rfl,hb⟩;unfold Je7;rw [Jqc hS];exact⟨⟨_,rfl,Nw⟩,hb⟩
end Go.Proofs.YtknfcamdfdfoeaaGreatDoor
